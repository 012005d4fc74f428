/- The contracts proved by hand that the printed texts of rights lean on. -/
import Derived.Test.YtfhanoloaejmkaaDoorNameRight
import Derived.Test.YtfhanoloaejmkaaDoorConcat
