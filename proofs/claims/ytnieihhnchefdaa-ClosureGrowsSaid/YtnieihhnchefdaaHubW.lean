/- Which printed texts this law leans on. -/
import Derived.Test.YtnieihhnchefdaaPAx13
