/-
Proofs for the law CountIsFinite, part 18. Conditions: none.
-/
import Derived.Test.YtdkocfjbmbenfaaGreatDoorDP17
import Derived.KernelRfl
set_option maxRecDepth 100000
set_option maxHeartbeats 4000000
set_option linter.all false
namespace Go.Ab
open Go.Proofs
theorem c.fc:zac P F.fc=some ⟨24,2,g.fc.er,[(4,none)]⟩:=by kernel_rfl
theorem c.jf:zac P F.jf=some ⟨9,2,g.jf.er,[(4,none)]⟩:=by kernel_rfl
theorem c.im:zac P F.im=some ⟨31,1,g.im.er,[(2,some 7),(3,none)]⟩:=by kernel_rfl
theorem c.iy:zac P F.iy=some ⟨64,2,g.iy.er,[(4,none)]⟩:=by kernel_rfl
theorem c.ff:zac P F.ff=some ⟨8,2,g.ff.er,[(3,none)]⟩:=by kernel_rfl
theorem c.ir:zac P F.ir=some ⟨65,1,g.ir.er,[(2,none)]⟩:=by kernel_rfl
theorem c.fe:zac P F.fe=some ⟨8,2,g.fe.er,[(3,none)]⟩:=by kernel_rfl
theorem c.ja:zac P F.ja=some ⟨36,2,g.ja.er,[(4,none)]⟩:=by kernel_rfl
theorem c.jk:zac P F.jk=some ⟨12,2,g.jk.er,[(3,none)]⟩:=by kernel_rfl
theorem c.bk:zac P F.bk=some ⟨22,2,g.bk.er,[(4,none)]⟩:=by kernel_rfl
theorem c.iu:zac P F.iu=some ⟨9,1,g.iu.er,[(2,some 2)]⟩:=by kernel_rfl
theorem c.jc:zac P F.jc=some ⟨9,2,g.jc.er,[(4,none)]⟩:=by kernel_rfl
theorem c.fq:zac P F.fq=some ⟨8,2,g.fq.er,[(3,none)]⟩:=by kernel_rfl
theorem c.fu:zac P F.fu=some ⟨20,2,g.fu.er,[(4,none)]⟩:=by kernel_rfl
theorem c.jo:zac P F.jo=some ⟨18,1,g.jo.er,[(2,none)]⟩:=by kernel_rfl
theorem c.jx:zac P F.jx=some ⟨6,1,g.jx.er,[(2,none)]⟩:=by kernel_rfl
theorem c.gk:zac P F.gk=some ⟨21,1,g.gk.er,[(2,none),(3,none)]⟩:=by kernel_rfl
theorem c.kb:zac P F.kb=some ⟨43,2,g.kb.er,[(4,none),(5,none),(6,none)]⟩:=by kernel_rfl
theorem c.kd:zac P F.kd=some ⟨30,2,g.kd.er,[(4,some 3),(5,none)]⟩:=by kernel_rfl
theorem c.kf:zac P F.kf=some ⟨29,2,g.kf.er,[(4,some 3),(5,none)]⟩:=by kernel_rfl
theorem c.gn:zac P F.gn=some ⟨19,2,g.gn.er,[(4,some 3)]⟩:=by kernel_rfl
theorem c.d6:zac P F.d6=some ⟨106,3,g.d6.er,[(6,some 3)]⟩:=by kernel_rfl
theorem c.kg:zac P F.kg=some ⟨71,2,g.kg.er,[(4,none),(5,none)]⟩:=by kernel_rfl
theorem c.b9:zac P F.b9=some ⟨18,2,g.b9.er,[(4,some 3)]⟩:=by kernel_rfl
theorem c.ap:zac P F.ap=some ⟨41,1,g.ap.er,[(2,none),(3,none)]⟩:=by kernel_rfl
theorem c.ka:zac P F.ka=some ⟨51,1,g.ka.er,[(2,none)]⟩:=by kernel_rfl
theorem c.ke:zac P F.ke=some ⟨48,0,g.ke.er,[(0,none)]⟩:=by kernel_rfl
theorem c.gj:zac P F.gj=some ⟨6,1,g.gj.er,[(2,some 7)]⟩:=by kernel_rfl
theorem c.dw:zac P F.dw=some ⟨26,2,g.dw.er,[(4,none)]⟩:=by kernel_rfl
theorem c.ji:zac P F.ji=some ⟨6,1,g.ji.er,[(2,none)]⟩:=by kernel_rfl
theorem c.j8:zac P F.j8=some ⟨8,1,g.j8.er,[(2,none)]⟩:=by kernel_rfl
theorem c.de:zac P F.de=some ⟨19,1,g.de.er,[(2,none)]⟩:=by kernel_rfl
theorem c.j7:zac P F.j7=some ⟨25,1,g.j7.er,[(2,none)]⟩:=by kernel_rfl
theorem c.jz:zac P F.jz=some ⟨29,2,g.jz.er,[(4,none)]⟩:=by kernel_rfl
theorem c.fy:zac P F.fy=some ⟨32,1,g.fy.er,[(2,none)]⟩:=by kernel_rfl
theorem c.gh:zac P F.gh=some ⟨15,1,g.gh.er,[(2,none)]⟩:=by kernel_rfl
theorem c.j3:zac P F.j3=some ⟨32,1,g.j3.er,[(2,none)]⟩:=by kernel_rfl
theorem c.f9:zac P F.f9=some ⟨21,2,g.f9.er,[(4,none)]⟩:=by kernel_rfl
theorem c.j4:zac P F.j4=some ⟨16,3,g.j4.er,[]⟩:=by kernel_rfl
theorem c.ge:zac P F.ge=some ⟨25,1,g.ge.er,[(2,none)]⟩:=by kernel_rfl
theorem c.ba:zac P F.ba=some ⟨10,2,g.ba.er,[(4,none)]⟩:=by kernel_rfl
theorem c.gg:zac P F.gg=some ⟨6,1,g.gg.er,[(2,none)]⟩:=by kernel_rfl
theorem c.au:zac P F.au=some ⟨11,2,g.au.er,[(4,some 3)]⟩:=by kernel_rfl
theorem c.bi:zac P F.bi=some ⟨9,2,g.bi.er,[(4,none)]⟩:=by kernel_rfl
theorem c.be:zac P F.be=some ⟨30,2,g.be.er,[(4,some 3),(5,none)]⟩:=by kernel_rfl
theorem c.ar:zac P F.ar=some ⟨14,1,g.ar.er,[(2,none)]⟩:=by kernel_rfl
theorem c.cm:zac P F.cm=some ⟨12,2,g.cm.er,[(4,some 3)]⟩:=by kernel_rfl
theorem c.bc:zac P F.bc=some ⟨48,1,g.bc.er,[(2,none)]⟩:=by kernel_rfl
theorem c.io:zac P F.io=some ⟨11,1,g.io.er,[(2,some 3)]⟩:=by kernel_rfl
theorem c.d9:zac P F.d9=some ⟨53,2,g.d9.er,[(4,some 3)]⟩:=by kernel_rfl
theorem c.cr:zac P F.cr=some ⟨45,1,g.cr.er,[(2,some 3)]⟩:=by kernel_rfl
theorem c.aj:zac P F.aj=some ⟨14,2,g.aj.er,[(4,none)]⟩:=by kernel_rfl
end Go.Ab
