/-
Closed facts of the given row, by the kernel (part D).
-/
import Derived.Test.YtdkocfjbmbenfaaGreatDoorTie
import Derived.Test.YtdkocfjbmbenfaaGreatDoorCards
import Derived.JoinedOf
import Derived.SevenTiedAt
namespace Go.Proofs.YtdkocfjbmbenfaaGreatDoor
set_option maxRecDepth 100000
theorem k12 : (Rows.countIsFiniteRow.recurses == Tryz.prog.recurses 6) = true := by kernel_rfl
theorem k13 : (Rows.countIsFiniteRow.named == Tryz.prog.varsNamed 6) = true := by kernel_rfl
end Go.Proofs.YtdkocfjbmbenfaaGreatDoor
