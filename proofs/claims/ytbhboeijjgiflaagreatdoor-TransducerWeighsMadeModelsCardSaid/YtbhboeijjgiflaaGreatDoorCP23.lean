/-
Proofs for the law TransducerWeighsMadeModels, part 23. Conditions: none.
-/
import Derived.Test.YtbhboeijjgiflaaGreatDoorCP19
import Derived.Test.YtbhboeijjgiflaaGreatDoorCP20
import Derived.Test.YtbhboeijjgiflaaGreatDoorCP21
import Derived.Test.YtbhboeijjgiflaaGreatDoorCP22
set_option maxRecDepth 100000
set_option maxHeartbeats 4000000
set_option linter.all false

