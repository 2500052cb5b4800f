/-
Closed facts of the given row, by the kernel (part D).
-/
import Derived.Test.YtcemegnnejaahaaGreatDoorTie
import Derived.Test.YtcemegnnejaahaaGreatDoorCards
import Derived.JoinedOf
import Derived.SevenTiedAt
namespace Go.Proofs.YtcemegnnejaahaaGreatDoor
set_option maxRecDepth 100000
theorem k12 : (Rows.ambiguityCountsRow.recurses == Tryz.prog.recurses 7) = true := by kernel_rfl
theorem k13 : (Rows.ambiguityCountsRow.named == Tryz.prog.varsNamed 7) = true := by kernel_rfl
end Go.Proofs.YtcemegnnejaahaaGreatDoor
