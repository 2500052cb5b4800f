/- Lemmas for the law AmbiguityOfDeterministic, part 18. No conditions. -/
import Derived.Test.YtcemegnnejaahaaGreatDoorAP13
import Derived.KernelRfl
set_option maxRecDepth 100000
set_option maxHeartbeats 4000000
set_option linter.all false
namespace Go.Ab
open Go.Proofs
theorem c.gr:zac P F.gr=some ⟨42,3,g.gr.er,[(6,none)]⟩:=by kernel_rfl
theorem c.km:zac P F.km=some ⟨75,1,g.km.er,[(2,none)]⟩:=by kernel_rfl
theorem c.gw:zac P F.gw=some ⟨11,2,g.gw.er,[(4,none)]⟩:=by kernel_rfl
theorem c.ch:zac P F.ch=some ⟨45,2,g.ch.er,[(4,none)]⟩:=by kernel_rfl
theorem c.b9:zac P F.b9=some ⟨185,3,g.b9.er,[(6,some 7)]⟩:=by kernel_rfl
theorem c.ah:zac P F.ah=some ⟨35,2,g.ah.er,[(4,none)]⟩:=by kernel_rfl
theorem c.ar:zac P F.ar=some ⟨16,2,g.ar.er,[(4,none)]⟩:=by kernel_rfl
theorem c.d7:zac P F.d7=some ⟨41,2,g.d7.er,[(4,some 8)]⟩:=by kernel_rfl
theorem c.kb:zac P F.kb=some ⟨32,2,g.kb.er,[(4,none)]⟩:=by kernel_rfl
end Go.Ab
