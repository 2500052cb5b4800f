/-
Proofs for the law TransducerNormalKeepsWeights, part 23. Conditions: none.
-/
import Derived.Test.YtbhboeijjgiflaaGreatDoorEP19
import Derived.Test.YtbhboeijjgiflaaGreatDoorEP20
import Derived.Test.YtbhboeijjgiflaaGreatDoorEP21
import Derived.Test.YtbhboeijjgiflaaGreatDoorEP22
set_option maxRecDepth 100000
set_option maxHeartbeats 4000000
set_option linter.all false

