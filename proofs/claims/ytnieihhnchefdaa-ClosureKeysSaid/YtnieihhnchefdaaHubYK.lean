/- Which printed texts this law leans on. -/
import Derived.Test.YtnieihhnchefdaaPAk14
