/- The contracts proved by hand that the printed texts lean on. -/
import Derived.Test.YtngdpoghfacokaaDoorStubsN
