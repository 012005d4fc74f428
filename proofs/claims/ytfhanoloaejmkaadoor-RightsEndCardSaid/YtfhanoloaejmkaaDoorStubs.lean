/- The contracts proved by hand that the printed texts of wire and the reference lean on. -/
import Derived.Test.YtfhanoloaejmkaaDoorWire
import Derived.Test.YtfhanoloaejmkaaDoorJoin
import Derived.Test.YtfhanoloaejmkaaDoorLen
