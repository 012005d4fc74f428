/- Which printed texts the evaluation of secrets leans on. -/
import Derived.Test.YtnieihhnchefdaaPAx6
