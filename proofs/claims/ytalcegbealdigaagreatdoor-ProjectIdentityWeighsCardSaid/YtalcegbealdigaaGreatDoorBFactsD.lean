/-
Closed facts of the given row, by the kernel (part D).
-/
import Derived.Test.YtalcegbealdigaaGreatDoorTie
import Derived.Test.YtalcegbealdigaaGreatDoorCards
import Derived.JoinedOf
import Derived.SevenTiedAt
namespace Go.Proofs.YtalcegbealdigaaGreatDoor
set_option maxRecDepth 100000
theorem k12 : (Rows.projectIdentityWeighsRow.recurses == Tryz.prog.recurses 4) = true := by kernel_rfl
end Go.Proofs.YtalcegbealdigaaGreatDoor
