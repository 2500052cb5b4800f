/- Lemmas for the law AmbiguityOfDeterministic, part 17. No conditions. -/
import Derived.Test.YtcemegnnejaahaaGreatDoorAP13
import Derived.KernelRfl
set_option maxRecDepth 100000
set_option maxHeartbeats 4000000
set_option linter.all false
namespace Go.Ab
open Go.Proofs
theorem c.ne:zac P F.ne=some ⟨14,0,g.ne.er,[(0,some 9)]⟩:=by kernel_rfl
theorem c.dq:zac P F.dq=some ⟨21,1,g.dq.er,[(2,none)]⟩:=by kernel_rfl
theorem c.fx:zac P F.fx=some ⟨11,2,g.fx.er,[(4,none)]⟩:=by kernel_rfl
theorem c.fy:zac P F.fy=some ⟨17,3,g.fy.er,[(5,some 8)]⟩:=by kernel_rfl
theorem c.af:zac P F.af=some ⟨17,1,g.af.er,[(2,some 9)]⟩:=by kernel_rfl
theorem c.dm:zac P F.dm=some ⟨19,2,g.dm.er,[(4,none)]⟩:=by kernel_rfl
theorem c.nt:zac P F.nt=some ⟨12,1,g.nt.er,[(2,some 8)]⟩:=by kernel_rfl
theorem c.nh:zac P F.nh=some ⟨2,0,g.nh.er,[(0,some 9)]⟩:=by kernel_rfl
theorem c.f9:zac P F.f9=some ⟨13,1,g.f9.er,[(2,none)]⟩:=by kernel_rfl
theorem c.ge:zac P F.ge=some ⟨2,0,g.ge.er,[(0,some 8)]⟩:=by kernel_rfl
theorem c.gh:zac P F.gh=some ⟨11,2,g.gh.er,[(4,some 8)]⟩:=by kernel_rfl
theorem c.fm:zac P F.fm=some ⟨2,0,g.fm.er,[(0,some 9)]⟩:=by kernel_rfl
theorem c.ft:zac P F.ft=some ⟨13,1,g.ft.er,[(2,none)]⟩:=by kernel_rfl
theorem c.bi:zac P F.bi=some ⟨2,0,g.bi.er,[(0,some 8)]⟩:=by kernel_rfl
theorem c.fu:zac P F.fu=some ⟨11,2,g.fu.er,[(4,some 8)]⟩:=by kernel_rfl
theorem c.jg:zac P F.jg=some ⟨24,2,g.jg.er,[(4,none)]⟩:=by kernel_rfl
theorem c.ng:zac P F.ng=some ⟨10,0,g.ng.er,[(0,some 9)]⟩:=by kernel_rfl
theorem c.dr:zac P F.dr=some ⟨8,1,g.dr.er,[(2,none)]⟩:=by kernel_rfl
theorem c.dt:zac P F.dt=some ⟨2,0,g.dt.er,[(0,some 8)]⟩:=by kernel_rfl
theorem c.du:zac P F.du=some ⟨11,2,g.du.er,[(4,some 8)]⟩:=by kernel_rfl
theorem c.jn:zac P F.jn=some ⟨9,1,g.jn.er,[(2,none)]⟩:=by kernel_rfl
theorem c.fv:zac P F.fv=some ⟨4,1,g.fv.er,[(2,none)]⟩:=by kernel_rfl
theorem c.ml:zac P F.ml=some ⟨11,2,g.ml.er,[(4,some 8)]⟩:=by kernel_rfl
theorem c.b7:zac P F.b7=some ⟨8,1,g.b7.er,[(2,none)]⟩:=by kernel_rfl
theorem c.bv:zac P F.bv=some ⟨8,1,g.bv.er,[(2,none)]⟩:=by kernel_rfl
theorem c.be:zac P F.be=some ⟨8,1,g.be.er,[(2,none)]⟩:=by kernel_rfl
theorem c.og:zac P F.og=some ⟨36,1,g.og.er,[(2,none)]⟩:=by kernel_rfl
theorem c.lh:zac P F.lh=some ⟨9,2,g.lh.er,[(4,none)]⟩:=by kernel_rfl
theorem c.nm:zac P F.nm=some ⟨9,2,g.nm.er,[(4,none)]⟩:=by kernel_rfl
theorem c.nc:zac P F.nc=some ⟨9,2,g.nc.er,[(4,none)]⟩:=by kernel_rfl
theorem c.m9:zac P F.m9=some ⟨42,2,g.m9.er,[(4,none)]⟩:=by kernel_rfl
theorem c.mi:zac P F.mi=some ⟨32,3,g.mi.er,[(6,none)]⟩:=by kernel_rfl
theorem c.mj:zac P F.mj=some ⟨32,3,g.mj.er,[(6,none)]⟩:=by kernel_rfl
theorem c.na:zac P F.na=some ⟨26,2,g.na.er,[(4,none)]⟩:=by kernel_rfl
theorem c.oi:zac P F.oi=some ⟨27,2,g.oi.er,[(4,none)]⟩:=by kernel_rfl
theorem c.je:zac P F.je=some ⟨19,2,g.je.er,[(4,none)]⟩:=by kernel_rfl
theorem c.n5:zac P F.n5=some ⟨19,2,g.n5.er,[(4,none)]⟩:=by kernel_rfl
theorem c.nr:zac P F.nr=some ⟨19,2,g.nr.er,[(4,none)]⟩:=by kernel_rfl
theorem c.dv:zac P F.dv=some ⟨14,2,g.dv.er,[]⟩:=by kernel_rfl
theorem c.m8:zac P F.m8=some ⟨9,2,g.m8.er,[]⟩:=by kernel_rfl
theorem c.jw:zac P F.jw=some ⟨53,4,g.jw.er,[]⟩:=by kernel_rfl
theorem c.om:zac P F.om=some ⟨53,4,g.om.er,[]⟩:=by kernel_rfl
theorem c.j3:zac P F.j3=some ⟨148,5,g.j3.er,[]⟩:=by kernel_rfl
theorem c.nn:zac P F.nn=some ⟨63,3,g.nn.er,[]⟩:=by kernel_rfl
theorem c.ki:zac P F.ki=some ⟨62,1,g.ki.er,[(2,some 8),(3,none)]⟩:=by kernel_rfl
theorem c.io:zac P F.io=some ⟨88,5,g.io.er,[(10,none),(11,none)]⟩:=by kernel_rfl
theorem c.bz:zac P F.bz=some ⟨24,5,g.bz.er,[]⟩:=by kernel_rfl
theorem c.bj:zac P F.bj=some ⟨14,2,g.bj.er,[(4,none)]⟩:=by kernel_rfl
theorem c.kj:zac P F.kj=some ⟨17,1,g.kj.er,[(2,none)]⟩:=by kernel_rfl
theorem c.lj:zac P F.lj=some ⟨52,1,g.lj.er,[(2,none)]⟩:=by kernel_rfl
theorem c.bp:zac P F.bp=some ⟨14,2,g.bp.er,[(4,none)]⟩:=by kernel_rfl
theorem c.kz:zac P F.kz=some ⟨20,2,g.kz.er,[(4,none)]⟩:=by kernel_rfl
end Go.Ab
