/- Which printed texts the evaluation of grown terms leans on. -/
import Derived.Test.YtnieihhnchefdaaPAt4
import Derived.Test.YtnieihhnchefdaaPAt5
