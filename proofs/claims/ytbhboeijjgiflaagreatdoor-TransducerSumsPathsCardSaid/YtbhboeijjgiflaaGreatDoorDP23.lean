/-
Proofs for the law TransducerSumsPaths, part 23. Conditions: none.
-/
import Derived.Test.YtbhboeijjgiflaaGreatDoorDP19
import Derived.Test.YtbhboeijjgiflaaGreatDoorDP20
import Derived.Test.YtbhboeijjgiflaaGreatDoorDP21
import Derived.Test.YtbhboeijjgiflaaGreatDoorDP22
set_option maxRecDepth 100000
set_option maxHeartbeats 4000000
set_option linter.all false

