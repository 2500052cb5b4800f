/-
Closed facts of the given row, by the kernel (part G).
-/
import Derived.Test.YtbhboeijjgiflaaGreatDoorTie
import Derived.Test.YtbhboeijjgiflaaGreatDoorCards
import Derived.JoinedOf
import Derived.SevenTiedAt
namespace Go.Proofs.YtbhboeijjgiflaaGreatDoor
set_option maxRecDepth 100000
theorem k23 : (Rows.transducerSumsPathsRow.plainKeys == Tryz.prog.plainKeys) = true := by kernel_rfl
theorem k25 : Tryz.prog.stopsHeard = true := by kernel_rfl
theorem g2 : Rows.transducerSumsPathsRow.wfByText (OpenSpec.ofChange Rows.transducerSumsPathsSpec) = true := by kernel_rfl
theorem g3 : Tryz.prog.mainIs = some (Rows.transducerSumsPathsCard.stood.harness.1, Rows.transducerSumsPathsCard.stood.harness.2.toList) := by kernel_rfl
theorem g5 : Tryz.prog.funcNamed Rows.transducerSumsPathsRow.func = some 5 := by kernel_rfl
theorem g4 : true = Tryz.prog.looks [] := by kernel_rfl
end Go.Proofs.YtbhboeijjgiflaaGreatDoor
