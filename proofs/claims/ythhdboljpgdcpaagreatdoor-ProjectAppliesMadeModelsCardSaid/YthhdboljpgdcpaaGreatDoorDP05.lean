/- Lemmas for the law ProjectAppliesMadeModels, part 5. No conditions. -/
import Derived.Test.YthhdboljpgdcpaaGreatDoorDP04
import Derived.Test.YthhdboljpgdcpaaGreatDoorChecked
set_option maxRecDepth 100000
set_option maxHeartbeats 4000000
set_option linter.all false
namespace Go.Ab
abbrev zC(n m:Nat)(b:GC)(l:List (Nat×Option Nat)):Option Cv:=some ⟨n,m,b.er,l⟩
abbrev kw(n m:Nat)(b:GC)(k:Nat):=zC n m b [(k,none)]
@[irreducible] noncomputable def P:Program:=Go.Proofs.Tryz.prog
theorem P_eq:P=Go.Proofs.Tryz.prog:=by unfold P;rfl
abbrev zS(f:FuncId)(l:List PV)(r:PV):Prop:=Sp P f l (.pure r)
end Go.Ab
