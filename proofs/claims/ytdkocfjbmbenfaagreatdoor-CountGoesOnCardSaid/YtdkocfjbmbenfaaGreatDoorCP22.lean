/-
Proofs for the law CountGoesOn, part 22. Conditions: none.
-/
import Derived.Test.YtdkocfjbmbenfaaGreatDoorCP18
import Derived.Test.YtdkocfjbmbenfaaGreatDoorCP19
import Derived.Test.YtdkocfjbmbenfaaGreatDoorCP20
import Derived.Test.YtdkocfjbmbenfaaGreatDoorCP21
set_option maxRecDepth 100000
set_option maxHeartbeats 4000000
set_option linter.all false

