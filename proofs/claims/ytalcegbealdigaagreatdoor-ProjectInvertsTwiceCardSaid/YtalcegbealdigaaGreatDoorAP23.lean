/-
Proofs for the law ProjectInvertsTwice, part 23. Conditions: none.
-/
import Derived.Test.YtalcegbealdigaaGreatDoorAP18
import Derived.Test.YtalcegbealdigaaGreatDoorAP19
import Derived.Test.YtalcegbealdigaaGreatDoorAP20
import Derived.Test.YtalcegbealdigaaGreatDoorAP21
import Derived.Test.YtalcegbealdigaaGreatDoorAP22
set_option maxRecDepth 100000
set_option maxHeartbeats 4000000
set_option linter.all false

