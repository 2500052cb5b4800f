/-
Proofs for the law CountIsExhaustive, part 22. Conditions: none.
-/
import Derived.Test.YtdkocfjbmbenfaaGreatDoorBP18
import Derived.Test.YtdkocfjbmbenfaaGreatDoorBP19
import Derived.Test.YtdkocfjbmbenfaaGreatDoorBP20
import Derived.Test.YtdkocfjbmbenfaaGreatDoorBP21
set_option maxRecDepth 100000
set_option maxHeartbeats 4000000
set_option linter.all false

