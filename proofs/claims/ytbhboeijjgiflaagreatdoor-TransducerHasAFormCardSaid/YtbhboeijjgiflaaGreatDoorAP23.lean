/-
Proofs for the law TransducerHasAForm, part 23. Conditions: none.
-/
import Derived.Test.YtbhboeijjgiflaaGreatDoorAP19
import Derived.Test.YtbhboeijjgiflaaGreatDoorAP20
import Derived.Test.YtbhboeijjgiflaaGreatDoorAP21
import Derived.Test.YtbhboeijjgiflaaGreatDoorAP22
set_option maxRecDepth 100000
set_option maxHeartbeats 4000000
set_option linter.all false

