/-
Closed facts of the given row, by the kernel (part I).
-/
import Derived.Test.YtalcegbealdigaaGreatDoorRows
import GoSem.ClaimSeven
import Derived.KernelRfl
namespace Go.Proofs.YtalcegbealdigaaGreatDoor
set_option maxRecDepth 100000
theorem g1 : false = Rows.projectIdentityWeighsRow.goesBy Tryz.prog := by kernel_rfl
end Go.Proofs.YtalcegbealdigaaGreatDoor
