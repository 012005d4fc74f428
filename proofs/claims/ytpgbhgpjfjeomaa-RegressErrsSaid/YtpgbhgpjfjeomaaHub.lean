/- Which printed texts the evaluation leans on. -/
import Derived.Test.YtpgbhgpjfjeomaaPAx5
import Derived.Test.YtpgbhgpjfjeomaaPAx6
