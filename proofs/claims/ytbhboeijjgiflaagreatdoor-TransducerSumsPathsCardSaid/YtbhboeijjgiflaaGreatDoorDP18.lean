/-
Proofs for the law TransducerSumsPaths, part 18. Conditions: none.
-/
import Derived.Test.YtbhboeijjgiflaaGreatDoorDP12
import Derived.Test.YtbhboeijjgiflaaGreatDoorDP17
import Derived.Test.YtbhboeijjgiflaaGreatDoorChecked
set_option maxRecDepth 100000
set_option maxHeartbeats 4000000
set_option linter.all false
namespace Go.Ab
@[irreducible] noncomputable def P:Program:=Go.Proofs.Tryz.prog
theorem P_eq:P=Go.Proofs.Tryz.prog:=by unfold P;rfl
end Go.Ab
