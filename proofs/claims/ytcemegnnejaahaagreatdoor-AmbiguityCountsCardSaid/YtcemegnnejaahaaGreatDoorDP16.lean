/- Lemmas for the law AmbiguityCounts, part 16. No conditions. -/
import Derived.Test.YtcemegnnejaahaaGreatDoorDP13
import Derived.KernelRfl
set_option maxRecDepth 100000
set_option maxHeartbeats 4000000
set_option linter.all false
namespace Go.Ab
open Go.Proofs
theorem c.bs:zac P F.bs=some ⟨31,1,g.bs.er,[(2,none)]⟩:=by kernel_rfl
theorem c.gk:zac P F.gk=some ⟨6,1,g.gk.er,[(2,none)]⟩:=by kernel_rfl
theorem c.bc:zac P F.bc=some ⟨19,1,g.bc.er,[(2,some 8)]⟩:=by kernel_rfl
theorem c.ge:zac P F.ge=some ⟨8,2,g.ge.er,[(4,some 8)]⟩:=by kernel_rfl
theorem c.ka:zac P F.ka=some ⟨10,0,g.ka.er,[(0,some 9)]⟩:=by kernel_rfl
theorem c.bv:zac P F.bv=some ⟨32,1,g.bv.er,[(2,none)]⟩:=by kernel_rfl
theorem c.bz:zac P F.bz=some ⟨2,0,g.bz.er,[(0,some 8)]⟩:=by kernel_rfl
theorem c.b7:zac P F.b7=some ⟨10,2,g.b7.er,[(4,some 8)]⟩:=by kernel_rfl
theorem c.f9:zac P F.f9=some ⟨28,2,g.f9.er,[(4,some 8)]⟩:=by kernel_rfl
theorem c.kb:zac P F.kb=some ⟨14,0,g.kb.er,[(0,some 9)]⟩:=by kernel_rfl
theorem c.b9:zac P F.b9=some ⟨21,1,g.b9.er,[(2,none)]⟩:=by kernel_rfl
theorem c.dz:zac P F.dz=some ⟨11,2,g.dz.er,[(4,none)]⟩:=by kernel_rfl
theorem c.d0:zac P F.d0=some ⟨17,3,g.d0.er,[(5,some 8)]⟩:=by kernel_rfl
theorem c.aa:zac P F.aa=some ⟨17,1,g.aa.er,[(2,some 9)]⟩:=by kernel_rfl
theorem c.b8:zac P F.b8=some ⟨19,2,g.b8.er,[(4,none)]⟩:=by kernel_rfl
theorem c.kq:zac P F.kq=some ⟨12,1,g.kq.er,[(2,some 8)]⟩:=by kernel_rfl
theorem c.ke:zac P F.ke=some ⟨2,0,g.ke.er,[(0,some 9)]⟩:=by kernel_rfl
theorem c.d6:zac P F.d6=some ⟨13,1,g.d6.er,[(2,none)]⟩:=by kernel_rfl
theorem c.d7:zac P F.d7=some ⟨2,0,g.d7.er,[(0,some 8)]⟩:=by kernel_rfl
theorem c.d8:zac P F.d8=some ⟨11,2,g.d8.er,[(4,some 8)]⟩:=by kernel_rfl
theorem c.dq:zac P F.dq=some ⟨2,0,g.dq.er,[(0,some 9)]⟩:=by kernel_rfl
theorem c.du:zac P F.du=some ⟨13,1,g.du.er,[(2,none)]⟩:=by kernel_rfl
theorem c.ay:zac P F.ay=some ⟨2,0,g.ay.er,[(0,some 8)]⟩:=by kernel_rfl
theorem c.dv:zac P F.dv=some ⟨11,2,g.dv.er,[(4,some 8)]⟩:=by kernel_rfl
theorem c.fy:zac P F.fy=some ⟨24,2,g.fy.er,[(4,none)]⟩:=by kernel_rfl
theorem c.kd:zac P F.kd=some ⟨10,0,g.kd.er,[(0,some 9)]⟩:=by kernel_rfl
theorem c.ca:zac P F.ca=some ⟨8,1,g.ca.er,[(2,none)]⟩:=by kernel_rfl
theorem c.cd:zac P F.cd=some ⟨2,0,g.cd.er,[(0,some 8)]⟩:=by kernel_rfl
theorem c.cg:zac P F.cg=some ⟨11,2,g.cg.er,[(4,some 8)]⟩:=by kernel_rfl
theorem c.gj:zac P F.gj=some ⟨9,1,g.gj.er,[(2,none)]⟩:=by kernel_rfl
theorem c.dw:zac P F.dw=some ⟨4,1,g.dw.er,[(2,none)]⟩:=by kernel_rfl
theorem c.jx:zac P F.jx=some ⟨11,2,g.jx.er,[(4,some 8)]⟩:=by kernel_rfl
theorem c.bi:zac P F.bi=some ⟨8,1,g.bi.er,[(2,none)]⟩:=by kernel_rfl
theorem c.am:zac P F.am=some ⟨8,1,g.am.er,[(2,none)]⟩:=by kernel_rfl
theorem c.ar:zac P F.ar=some ⟨8,1,g.ar.er,[(2,none)]⟩:=by kernel_rfl
theorem c.lc:zac P F.lc=some ⟨36,1,g.lc.er,[(2,none)]⟩:=by kernel_rfl
theorem c.ff:zac P F.ff=some ⟨9,2,g.ff.er,[(4,none)]⟩:=by kernel_rfl
theorem c.ki:zac P F.ki=some ⟨9,2,g.ki.er,[(4,none)]⟩:=by kernel_rfl
theorem c.j9:zac P F.j9=some ⟨9,2,g.j9.er,[(4,none)]⟩:=by kernel_rfl
theorem c.j7:zac P F.j7=some ⟨42,2,g.j7.er,[(4,none)]⟩:=by kernel_rfl
theorem c.jv:zac P F.jv=some ⟨32,3,g.jv.er,[(6,none)]⟩:=by kernel_rfl
theorem c.jw:zac P F.jw=some ⟨32,3,g.jw.er,[(6,none)]⟩:=by kernel_rfl
theorem c.j8:zac P F.j8=some ⟨26,2,g.j8.er,[(4,none)]⟩:=by kernel_rfl
theorem c.lg:zac P F.lg=some ⟨27,2,g.lg.er,[(4,none)]⟩:=by kernel_rfl
theorem c.fv:zac P F.fv=some ⟨19,2,g.fv.er,[(4,none)]⟩:=by kernel_rfl
theorem c.ku:zac P F.ku=some ⟨19,2,g.ku.er,[(4,none)]⟩:=by kernel_rfl
theorem c.ko:zac P F.ko=some ⟨19,2,g.ko.er,[(4,none)]⟩:=by kernel_rfl
theorem c.ch:zac P F.ch=some ⟨14,2,g.ch.er,[]⟩:=by kernel_rfl
theorem c.j6:zac P F.j6=some ⟨9,2,g.j6.er,[]⟩:=by kernel_rfl
theorem c.gw:zac P F.gw=some ⟨53,4,g.gw.er,[]⟩:=by kernel_rfl
theorem c.lm:zac P F.lm=some ⟨53,4,g.lm.er,[]⟩:=by kernel_rfl
theorem c.ib:zac P F.ib=some ⟨148,5,g.ib.er,[]⟩:=by kernel_rfl
end Go.Ab
