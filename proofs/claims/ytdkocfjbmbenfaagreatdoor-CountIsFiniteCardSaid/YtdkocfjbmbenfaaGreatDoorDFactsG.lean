/-
Closed facts of the given row, by the kernel (part G).
-/
import Derived.Test.YtdkocfjbmbenfaaGreatDoorTie
import Derived.Test.YtdkocfjbmbenfaaGreatDoorCards
import Derived.JoinedOf
import Derived.SevenTiedAt
namespace Go.Proofs.YtdkocfjbmbenfaaGreatDoor
set_option maxRecDepth 100000
theorem k23 : (Rows.countIsFiniteRow.plainKeys == Tryz.prog.plainKeys) = true := by kernel_rfl
theorem k25 : Tryz.prog.stopsHeard = true := by kernel_rfl
theorem g2 : Rows.countIsFiniteRow.wfByText (OpenSpec.ofChange Rows.countIsFiniteSpec) = true := by kernel_rfl
theorem g3 : Tryz.prog.mainIs = some (Rows.countIsFiniteCard.stood.harness.1, Rows.countIsFiniteCard.stood.harness.2.toList) := by kernel_rfl
theorem g5 : Tryz.prog.funcNamed Rows.countIsFiniteRow.func = some 6 := by kernel_rfl
theorem g4 : true = Tryz.prog.looks [] := by kernel_rfl
end Go.Proofs.YtdkocfjbmbenfaaGreatDoor
