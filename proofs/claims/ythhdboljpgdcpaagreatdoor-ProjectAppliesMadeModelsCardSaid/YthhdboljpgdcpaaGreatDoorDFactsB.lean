/-
Closed facts of the given row, by the kernel (part B).
-/
import Derived.Test.YthhdboljpgdcpaaGreatDoorTie
import Derived.Test.YthhdboljpgdcpaaGreatDoorCards
import Derived.JoinedOf
import Derived.SevenTiedAt
namespace Go.Proofs.YthhdboljpgdcpaaGreatDoor
set_option maxRecDepth 100000
theorem k10 : (Rows.projectAppliesMadeModelsRow.inPlace == Tryz.prog.inPlace 6) = true := by kernel_rfl
theorem k11 : (Rows.projectAppliesMadeModelsRow.unfollowed == Tryz.prog.unfollowed 6) = true := by kernel_rfl
end Go.Proofs.YthhdboljpgdcpaaGreatDoor
