/-
Proofs for the law CountIsFinite, part 17. Conditions: none.
-/
import Derived.Test.YtdkocfjbmbenfaaGreatDoorDP12
import Derived.Test.YtdkocfjbmbenfaaGreatDoorDP16
import Derived.Test.YtdkocfjbmbenfaaGreatDoorChecked
set_option maxRecDepth 100000
set_option maxHeartbeats 4000000
set_option linter.all false
namespace Go.Ab
@[irreducible] noncomputable def P:Program:=Go.Proofs.Tryz.prog
theorem P_eq:P=Go.Proofs.Tryz.prog:=by unfold P; rfl
end Go.Ab
