/- Lemmas for the law ProjectApplies, part 14. No conditions. -/
import Derived.Test.YthhdboljpgdcpaaGreatDoorCP08
import Derived.Test.YthhdboljpgdcpaaGreatDoorCP09
import Derived.Test.YthhdboljpgdcpaaGreatDoorCP10
import Derived.Test.YthhdboljpgdcpaaGreatDoorCP11
import Derived.Test.YthhdboljpgdcpaaGreatDoorCP12
import Derived.Test.YthhdboljpgdcpaaGreatDoorCP13
set_option maxRecDepth 100000
set_option maxHeartbeats 4000000
set_option linter.all false

