/-
Closed facts of the given row, by the kernel (part G).
-/
import Derived.Test.YtcemegnnejaahaaGreatDoorTie
import Derived.Test.YtcemegnnejaahaaGreatDoorCards
import Derived.JoinedOf
import Derived.SevenTiedAt
namespace Go.Proofs.YtcemegnnejaahaaGreatDoor
set_option maxRecDepth 100000
theorem k23 : (Rows.ambiguityPairsRow.plainKeys == Tryz.prog.plainKeys) = true := by kernel_rfl
theorem k25 : Tryz.prog.stopsHeard = true := by kernel_rfl
theorem g2 : Rows.ambiguityPairsRow.wfByText (OpenSpec.ofChange Rows.ambiguityPairsSpec) = true := by kernel_rfl
theorem g3 : Tryz.prog.mainIs = some (Rows.ambiguityPairsCard.stood.harness.1, Rows.ambiguityPairsCard.stood.harness.2.toList) := by kernel_rfl
theorem g5 : Tryz.prog.funcNamed Rows.ambiguityPairsRow.func = some 5 := by kernel_rfl
theorem g4 : true = Tryz.prog.looks [] := by kernel_rfl
end Go.Proofs.YtcemegnnejaahaaGreatDoor
