/- Which printed texts the evaluation leans on. -/
import Derived.Test.YtnieihhnchefdaaPAx5
