/-
Proofs for the law ProjectIdentityWeighs, part 23. Conditions: none.
-/
import Derived.Test.YtalcegbealdigaaGreatDoorBP18
import Derived.Test.YtalcegbealdigaaGreatDoorBP19
import Derived.Test.YtalcegbealdigaaGreatDoorBP20
import Derived.Test.YtalcegbealdigaaGreatDoorBP21
import Derived.Test.YtalcegbealdigaaGreatDoorBP22
set_option maxRecDepth 100000
set_option maxHeartbeats 4000000
set_option linter.all false

