/-
Closed facts of the given row, by the kernel (part G).
-/
import Derived.Test.YtalcegbealdigaaGreatDoorTie
import Derived.Test.YtalcegbealdigaaGreatDoorCards
import Derived.JoinedOf
import Derived.SevenTiedAt
namespace Go.Proofs.YtalcegbealdigaaGreatDoor
set_option maxRecDepth 100000
theorem k23 : (Rows.projectInvertsTwiceRow.plainKeys == Tryz.prog.plainKeys) = true := by kernel_rfl
theorem k25 : Tryz.prog.stopsHeard = true := by kernel_rfl
theorem g2 : Rows.projectInvertsTwiceRow.wfByText (OpenSpec.ofChange Rows.projectInvertsTwiceSpec) = true := by kernel_rfl
theorem g3 : Tryz.prog.mainIs = some (Rows.projectInvertsTwiceCard.stood.harness.1, Rows.projectInvertsTwiceCard.stood.harness.2.toList) := by kernel_rfl
theorem g5 : Tryz.prog.funcNamed Rows.projectInvertsTwiceRow.func = some 3 := by kernel_rfl
theorem g4 : true = Tryz.prog.looks [] := by kernel_rfl
end Go.Proofs.YtalcegbealdigaaGreatDoor
