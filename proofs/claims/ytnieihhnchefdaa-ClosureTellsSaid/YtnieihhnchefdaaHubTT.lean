/- Which printed texts this law leans on. -/
import Derived.Test.YtnieihhnchefdaaPAt14
import Derived.Test.YtnieihhnchefdaaPAt15
import Derived.Test.YtnieihhnchefdaaPAt16
import Derived.Test.YtnieihhnchefdaaPAt17
