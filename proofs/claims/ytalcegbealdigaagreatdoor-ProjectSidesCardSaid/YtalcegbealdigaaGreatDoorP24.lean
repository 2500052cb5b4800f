/-
Proofs for the law ProjectSides of the seat, part 24 (texts DevB). Conditions: none.
-/
import Derived.Test.YtalcegbealdigaaGreatDoorP20
import Derived.Test.YtalcegbealdigaaGreatDoorP21
import Derived.Test.YtalcegbealdigaaGreatDoorP22
import Derived.Test.YtalcegbealdigaaGreatDoorP23
set_option maxRecDepth 100000
set_option maxHeartbeats 4000000
set_option linter.all false

