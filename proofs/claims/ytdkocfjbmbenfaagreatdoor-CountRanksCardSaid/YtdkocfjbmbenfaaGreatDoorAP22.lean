/-
Proofs for the law CountRanks, part 22. Conditions: none.
-/
import Derived.Test.YtdkocfjbmbenfaaGreatDoorAP18
import Derived.Test.YtdkocfjbmbenfaaGreatDoorAP19
import Derived.Test.YtdkocfjbmbenfaaGreatDoorAP20
import Derived.Test.YtdkocfjbmbenfaaGreatDoorAP21
set_option maxRecDepth 100000
set_option maxHeartbeats 4000000
set_option linter.all false

