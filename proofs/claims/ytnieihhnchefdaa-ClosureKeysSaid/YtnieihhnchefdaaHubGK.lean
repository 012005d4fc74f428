/- Which printed texts the evaluation of grown terms leans on. -/
import Derived.Test.YtnieihhnchefdaaPAx4
import Derived.Test.YtnieihhnchefdaaPAk5
