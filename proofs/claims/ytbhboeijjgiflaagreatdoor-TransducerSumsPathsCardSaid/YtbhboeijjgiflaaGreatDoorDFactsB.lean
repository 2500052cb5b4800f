/-
Closed facts of the given row, by the kernel (part B).
-/
import Derived.Test.YtbhboeijjgiflaaGreatDoorTie
import Derived.Test.YtbhboeijjgiflaaGreatDoorCards
import Derived.JoinedOf
import Derived.SevenTiedAt
namespace Go.Proofs.YtbhboeijjgiflaaGreatDoor
set_option maxRecDepth 100000
theorem k10 : (Rows.transducerSumsPathsRow.inPlace == Tryz.prog.inPlace 5) = true := by kernel_rfl
theorem k11 : (Rows.transducerSumsPathsRow.unfollowed == Tryz.prog.unfollowed 5) = true := by kernel_rfl
end Go.Proofs.YtbhboeijjgiflaaGreatDoor
