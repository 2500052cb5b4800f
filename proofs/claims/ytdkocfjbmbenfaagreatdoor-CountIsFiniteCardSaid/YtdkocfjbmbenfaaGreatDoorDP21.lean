/-
Proofs for the law CountIsFinite, part 21. Conditions: none.
-/
import Derived.Test.YtdkocfjbmbenfaaGreatDoorDP17
import Derived.KernelRfl
set_option maxRecDepth 100000
set_option maxHeartbeats 4000000
set_option linter.all false
namespace Go.Ab
open Go.Proofs
theorem c.gv:zac P F.gv=some ⟨17,1,g.gv.er,[(2,none)]⟩:=by kernel_rfl
theorem c.iq:zac P F.iq=some ⟨52,1,g.iq.er,[(2,none)]⟩:=by kernel_rfl
theorem c.d8:zac P F.d8=some ⟨14,2,g.d8.er,[(4,none)]⟩:=by kernel_rfl
theorem c.cq:zac P F.cq=some ⟨20,2,g.cq.er,[(4,none)]⟩:=by kernel_rfl
theorem c.ic:zac P F.ic=some ⟨75,1,g.ic.er,[(2,none)]⟩:=by kernel_rfl
theorem c.ej:zac P F.ej=some ⟨11,2,g.ej.er,[(4,none)]⟩:=by kernel_rfl
theorem c.gl:zac P F.gl=some ⟨185,3,g.gl.er,[(6,some 7)]⟩:=by kernel_rfl
theorem c.ae:zac P F.ae=some ⟨35,2,g.ae.er,[(4,none)]⟩:=by kernel_rfl
theorem c.bb:zac P F.bb=some ⟨16,2,g.bb.er,[(4,none)]⟩:=by kernel_rfl
theorem c.cd:zac P F.cd=some ⟨41,2,g.cd.er,[(4,some 8)]⟩:=by kernel_rfl
end Go.Ab
