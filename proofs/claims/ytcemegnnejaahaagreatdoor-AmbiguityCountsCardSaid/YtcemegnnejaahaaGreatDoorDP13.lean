/- Lemmas for the law AmbiguityCounts, part 13. No conditions. -/
import Derived.Test.YtcemegnnejaahaaGreatDoorDP12
import Derived.Test.YtcemegnnejaahaaGreatDoorChecked
set_option maxRecDepth 100000
set_option maxHeartbeats 4000000
set_option linter.all false
namespace Go.Ab
@[irreducible] noncomputable def P:Program:=Go.Proofs.Tryz.prog
theorem P_eq:P=Go.Proofs.Tryz.prog:=by unfold P;rfl
end Go.Ab
