/-
Proofs for the law TransducerWeighs, part 23. Conditions: none.
-/
import Derived.Test.YtbhboeijjgiflaaGreatDoorBP19
import Derived.Test.YtbhboeijjgiflaaGreatDoorBP20
import Derived.Test.YtbhboeijjgiflaaGreatDoorBP21
import Derived.Test.YtbhboeijjgiflaaGreatDoorBP22
set_option maxRecDepth 100000
set_option maxHeartbeats 4000000
set_option linter.all false

