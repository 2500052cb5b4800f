/-
Closed facts of the given row, by the kernel (part D).
-/
import Derived.Test.YthhdboljpgdcpaaGreatDoorTie
import Derived.Test.YthhdboljpgdcpaaGreatDoorCards
import Derived.JoinedOf
import Derived.SevenTiedAt
namespace Go.Proofs.YthhdboljpgdcpaaGreatDoor
set_option maxRecDepth 100000
theorem k12 : (Rows.projectAppliesMadeModelsRow.recurses == Tryz.prog.recurses 6) = true := by kernel_rfl
theorem k13 : (Rows.projectAppliesMadeModelsRow.named == Tryz.prog.varsNamed 6) = true := by kernel_rfl
end Go.Proofs.YthhdboljpgdcpaaGreatDoor
