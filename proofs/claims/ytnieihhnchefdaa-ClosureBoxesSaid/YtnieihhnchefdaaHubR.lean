/- Which printed texts the evaluation of the reference leans on. -/
import Derived.Test.YtnieihhnchefdaaPAx3
