/-
Proofs for the law ProjectSides of the seat, part 19 (texts DevP). Conditions: none.
-/
import Derived.Test.YtalcegbealdigaaGreatDoorP11
import Derived.Test.YtalcegbealdigaaGreatDoorP18
import Derived.Test.YtalcegbealdigaaGreatDoorChecked
set_option maxRecDepth 100000
set_option maxHeartbeats 4000000
set_option linter.all false
namespace Go.Ab
@[irreducible] noncomputable def P : Program := Go.Proofs.Tryz.prog
theorem P_eq : P = Go.Proofs.Tryz.prog := by unfold P; rfl
end Go.Ab
