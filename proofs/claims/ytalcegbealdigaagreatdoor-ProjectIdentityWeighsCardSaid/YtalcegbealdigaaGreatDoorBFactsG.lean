/-
Closed facts of the given row, by the kernel (part G).
-/
import Derived.Test.YtalcegbealdigaaGreatDoorTie
import Derived.Test.YtalcegbealdigaaGreatDoorCards
import Derived.JoinedOf
import Derived.SevenTiedAt
namespace Go.Proofs.YtalcegbealdigaaGreatDoor
set_option maxRecDepth 100000
theorem k23 : (Rows.projectIdentityWeighsRow.plainKeys == Tryz.prog.plainKeys) = true := by kernel_rfl
theorem k25 : Tryz.prog.stopsHeard = true := by kernel_rfl
theorem g2 : Rows.projectIdentityWeighsRow.wfByText (OpenSpec.ofChange Rows.projectIdentityWeighsSpec) = true := by kernel_rfl
theorem g3 : Tryz.prog.mainIs = some (Rows.projectIdentityWeighsCard.stood.harness.1, Rows.projectIdentityWeighsCard.stood.harness.2.toList) := by kernel_rfl
theorem g5 : Tryz.prog.funcNamed Rows.projectIdentityWeighsRow.func = some 4 := by kernel_rfl
theorem g4 : true = Tryz.prog.looks [] := by kernel_rfl
end Go.Proofs.YtalcegbealdigaaGreatDoor
