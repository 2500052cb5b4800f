/-
Closed facts of the given row, by the kernel (part G).
-/
import Derived.Test.YthhdboljpgdcpaaGreatDoorTie
import Derived.Test.YthhdboljpgdcpaaGreatDoorCards
import Derived.JoinedOf
import Derived.SevenTiedAt
namespace Go.Proofs.YthhdboljpgdcpaaGreatDoor
set_option maxRecDepth 100000
theorem k23 : (Rows.projectAppliesRow.plainKeys == Tryz.prog.plainKeys) = true := by kernel_rfl
theorem k25 : Tryz.prog.stopsHeard = true := by kernel_rfl
theorem g2 : Rows.projectAppliesRow.wfByText (OpenSpec.ofChange Rows.projectAppliesSpec) = true := by kernel_rfl
theorem g3 : Tryz.prog.mainIs = some (Rows.projectAppliesCard.stood.harness.1, Rows.projectAppliesCard.stood.harness.2.toList) := by kernel_rfl
theorem g5 : Tryz.prog.funcNamed Rows.projectAppliesRow.func = some 5 := by kernel_rfl
theorem g4 : true = Tryz.prog.looks [] := by kernel_rfl
end Go.Proofs.YthhdboljpgdcpaaGreatDoor
