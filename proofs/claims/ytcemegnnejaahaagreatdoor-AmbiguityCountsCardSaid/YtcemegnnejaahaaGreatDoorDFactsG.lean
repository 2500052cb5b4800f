/-
Closed facts of the given row, by the kernel (part G).
-/
import Derived.Test.YtcemegnnejaahaaGreatDoorTie
import Derived.Test.YtcemegnnejaahaaGreatDoorCards
import Derived.JoinedOf
import Derived.SevenTiedAt
namespace Go.Proofs.YtcemegnnejaahaaGreatDoor
set_option maxRecDepth 100000
theorem k23 : (Rows.ambiguityCountsRow.plainKeys == Tryz.prog.plainKeys) = true := by kernel_rfl
theorem k25 : Tryz.prog.stopsHeard = true := by kernel_rfl
theorem g2 : Rows.ambiguityCountsRow.wfByText (OpenSpec.ofChange Rows.ambiguityCountsSpec) = true := by kernel_rfl
theorem g3 : Tryz.prog.mainIs = some (Rows.ambiguityCountsCard.stood.harness.1, Rows.ambiguityCountsCard.stood.harness.2.toList) := by kernel_rfl
theorem g5 : Tryz.prog.funcNamed Rows.ambiguityCountsRow.func = some 7 := by kernel_rfl
theorem g4 : true = Tryz.prog.looks [] := by kernel_rfl
end Go.Proofs.YtcemegnnejaahaaGreatDoor
