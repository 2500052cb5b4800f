/-
Closed facts of the given row, by the kernel (part D).
-/
import Derived.Test.YtbhboeijjgiflaaGreatDoorTie
import Derived.Test.YtbhboeijjgiflaaGreatDoorCards
import Derived.JoinedOf
import Derived.SevenTiedAt
namespace Go.Proofs.YtbhboeijjgiflaaGreatDoor
set_option maxRecDepth 100000
theorem k12 : (Rows.transducerSumsPathsRow.recurses == Tryz.prog.recurses 5) = true := by kernel_rfl
theorem k13 : (Rows.transducerSumsPathsRow.named == Tryz.prog.varsNamed 5) = true := by kernel_rfl
end Go.Proofs.YtbhboeijjgiflaaGreatDoor
