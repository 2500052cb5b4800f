/- Lemmas for the law AmbiguityCounts, part 18. No conditions. -/
import Derived.Test.YtcemegnnejaahaaGreatDoorDP14
import Derived.Test.YtcemegnnejaahaaGreatDoorDP15
import Derived.Test.YtcemegnnejaahaaGreatDoorDP16
import Derived.Test.YtcemegnnejaahaaGreatDoorDP17
set_option maxRecDepth 100000
set_option maxHeartbeats 4000000
set_option linter.all false

