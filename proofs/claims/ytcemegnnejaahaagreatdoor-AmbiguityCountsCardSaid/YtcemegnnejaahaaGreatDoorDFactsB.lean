/-
Closed facts of the given row, by the kernel (part B).
-/
import Derived.Test.YtcemegnnejaahaaGreatDoorTie
import Derived.Test.YtcemegnnejaahaaGreatDoorCards
import Derived.JoinedOf
import Derived.SevenTiedAt
namespace Go.Proofs.YtcemegnnejaahaaGreatDoor
set_option maxRecDepth 100000
theorem k10 : (Rows.ambiguityCountsRow.inPlace == Tryz.prog.inPlace 7) = true := by kernel_rfl
theorem k11 : (Rows.ambiguityCountsRow.unfollowed == Tryz.prog.unfollowed 7) = true := by kernel_rfl
end Go.Proofs.YtcemegnnejaahaaGreatDoor
