/-
Closed facts of the given row, by the kernel (part G).
-/
import Derived.Test.YthhdboljpgdcpaaGreatDoorTie
import Derived.Test.YthhdboljpgdcpaaGreatDoorCards
import Derived.JoinedOf
import Derived.SevenTiedAt
namespace Go.Proofs.YthhdboljpgdcpaaGreatDoor
set_option maxRecDepth 100000
theorem k23 : (Rows.projectAppliesMadeModelsRow.plainKeys == Tryz.prog.plainKeys) = true := by kernel_rfl
theorem k25 : Tryz.prog.stopsHeard = true := by kernel_rfl
theorem g2 : Rows.projectAppliesMadeModelsRow.wfByText (OpenSpec.ofChange Rows.projectAppliesMadeModelsSpec) = true := by kernel_rfl
theorem g3 : Tryz.prog.mainIs = some (Rows.projectAppliesMadeModelsCard.stood.harness.1, Rows.projectAppliesMadeModelsCard.stood.harness.2.toList) := by kernel_rfl
theorem g5 : Tryz.prog.funcNamed Rows.projectAppliesMadeModelsRow.func = some 6 := by kernel_rfl
theorem g4 : true = Tryz.prog.looks [] := by kernel_rfl
end Go.Proofs.YthhdboljpgdcpaaGreatDoor
