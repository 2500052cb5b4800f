/-
Closed facts of the given row, by the kernel (part B).
-/
import Derived.Test.YtalcegbealdigaaGreatDoorTie
import Derived.Test.YtalcegbealdigaaGreatDoorCards
import Derived.JoinedOf
import Derived.SevenTiedAt
namespace Go.Proofs.YtalcegbealdigaaGreatDoor
set_option maxRecDepth 100000
theorem k10 : (Rows.projectIdentityWeighsRow.inPlace == Tryz.prog.inPlace 4) = true := by kernel_rfl
end Go.Proofs.YtalcegbealdigaaGreatDoor
