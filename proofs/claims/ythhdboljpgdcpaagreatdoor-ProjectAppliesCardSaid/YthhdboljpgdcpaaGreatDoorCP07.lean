/- Lemmas for the law ProjectApplies, part 7. No conditions. -/
import Derived.Test.YthhdboljpgdcpaaGreatDoorCP06
import Derived.Test.YthhdboljpgdcpaaGreatDoorChecked
set_option maxRecDepth 100000
set_option maxHeartbeats 4000000
set_option linter.all false
namespace Go.Ab
abbrev zC(n m:Nat)(b:GC)(l:List (Nat×Option Nat)):Option Cv:=some ⟨n,m,b.er,l⟩
@[irreducible] noncomputable def P:Program:=Go.Proofs.Tryz.prog
theorem P_eq:P=Go.Proofs.Tryz.prog:=by unfold P;rfl
abbrev zS(f:FuncId)(l:List PV)(r:PV):Prop:=Sp P f l (.pure r)
end Go.Ab
