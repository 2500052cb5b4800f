/-
Closed facts of the given row, by the kernel (part B).
-/
import Derived.Test.YtdkocfjbmbenfaaGreatDoorTie
import Derived.Test.YtdkocfjbmbenfaaGreatDoorCards
import Derived.JoinedOf
import Derived.SevenTiedAt
namespace Go.Proofs.YtdkocfjbmbenfaaGreatDoor
set_option maxRecDepth 100000
theorem k10 : (Rows.countIsFiniteRow.inPlace == Tryz.prog.inPlace 6) = true := by kernel_rfl
theorem k11 : (Rows.countIsFiniteRow.unfollowed == Tryz.prog.unfollowed 6) = true := by kernel_rfl
end Go.Proofs.YtdkocfjbmbenfaaGreatDoor
