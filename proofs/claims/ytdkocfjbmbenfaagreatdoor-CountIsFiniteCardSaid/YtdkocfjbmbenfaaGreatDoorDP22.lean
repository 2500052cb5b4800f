/-
Proofs for the law CountIsFinite, part 22. Conditions: none.
-/
import Derived.Test.YtdkocfjbmbenfaaGreatDoorDP18
import Derived.Test.YtdkocfjbmbenfaaGreatDoorDP19
import Derived.Test.YtdkocfjbmbenfaaGreatDoorDP20
import Derived.Test.YtdkocfjbmbenfaaGreatDoorDP21
set_option maxRecDepth 100000
set_option maxHeartbeats 4000000
set_option linter.all false

