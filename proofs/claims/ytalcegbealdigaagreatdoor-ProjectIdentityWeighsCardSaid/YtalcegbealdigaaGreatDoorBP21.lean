/-
Proofs for the law ProjectIdentityWeighs, part 21. Conditions: none.
-/
import Derived.Test.YtalcegbealdigaaGreatDoorBP17
import Derived.KernelRfl
set_option maxRecDepth 100000
set_option maxHeartbeats 4000000
set_option linter.all false
namespace Go.Ab
open Go.Proofs
theorem c.bi:zac P F.bi=some ⟨31,1,g.bi.er,[(2,none)]⟩:=by kernel_rfl
theorem c.gt:zac P F.gt=some ⟨6,1,g.gt.er,[(2,none)]⟩:=by kernel_rfl
theorem c.bk:zac P F.bk=some ⟨19,1,g.bk.er,[(2,some 8)]⟩:=by kernel_rfl
theorem c.ic:zac P F.ic=some ⟨8,2,g.ic.er,[(4,some 8)]⟩:=by kernel_rfl
theorem c.l9:zac P F.l9=some ⟨10,0,g.l9.er,[(0,some 9)]⟩:=by kernel_rfl
theorem c.dv:zac P F.dv=some ⟨32,1,g.dv.er,[(2,none)]⟩:=by kernel_rfl
theorem c.dw:zac P F.dw=some ⟨2,0,g.dw.er,[(0,some 8)]⟩:=by kernel_rfl
theorem c.dz:zac P F.dz=some ⟨10,2,g.dz.er,[(4,some 8)]⟩:=by kernel_rfl
theorem c.ia:zac P F.ia=some ⟨28,2,g.ia.er,[(4,some 8)]⟩:=by kernel_rfl
theorem c.me:zac P F.me=some ⟨14,0,g.me.er,[(0,some 9)]⟩:=by kernel_rfl
theorem c.d4:zac P F.d4=some ⟨21,1,g.d4.er,[(2,none)]⟩:=by kernel_rfl
theorem c.i6:zac P F.i6=some ⟨11,2,g.i6.er,[(4,none)]⟩:=by kernel_rfl
theorem c.d5:zac P F.d5=some ⟨17,3,g.d5.er,[(5,some 8)]⟩:=by kernel_rfl
theorem c.ak:zac P F.ak=some ⟨17,1,g.ak.er,[(2,some 9)]⟩:=by kernel_rfl
theorem c.d0:zac P F.d0=some ⟨19,2,g.d0.er,[(4,none)]⟩:=by kernel_rfl
theorem c.mn:zac P F.mn=some ⟨12,1,g.mn.er,[(2,some 8)]⟩:=by kernel_rfl
theorem c.mg:zac P F.mg=some ⟨2,0,g.mg.er,[(0,some 9)]⟩:=by kernel_rfl
theorem c.d9:zac P F.d9=some ⟨13,1,g.d9.er,[(2,none)]⟩:=by kernel_rfl
theorem c.ee:zac P F.ee=some ⟨2,0,g.ee.er,[(0,some 8)]⟩:=by kernel_rfl
theorem c.ej:zac P F.ej=some ⟨11,2,g.ej.er,[(4,some 8)]⟩:=by kernel_rfl
theorem c.dm:zac P F.dm=some ⟨2,0,g.dm.er,[(0,some 9)]⟩:=by kernel_rfl
theorem c.dq:zac P F.dq=some ⟨13,1,g.dq.er,[(2,none)]⟩:=by kernel_rfl
theorem c.bo:zac P F.bo=some ⟨2,0,g.bo.er,[(0,some 8)]⟩:=by kernel_rfl
theorem c.dt:zac P F.dt=some ⟨11,2,g.dt.er,[(4,some 8)]⟩:=by kernel_rfl
theorem c.iu:zac P F.iu=some ⟨24,2,g.iu.er,[(4,none)]⟩:=by kernel_rfl
theorem c.mf:zac P F.mf=some ⟨10,0,g.mf.er,[(0,some 9)]⟩:=by kernel_rfl
theorem c.d6:zac P F.d6=some ⟨8,1,g.d6.er,[(2,none)]⟩:=by kernel_rfl
theorem c.d7:zac P F.d7=some ⟨2,0,g.d7.er,[(0,some 8)]⟩:=by kernel_rfl
theorem c.d8:zac P F.d8=some ⟨11,2,g.d8.er,[(4,some 8)]⟩:=by kernel_rfl
theorem c.gr:zac P F.gr=some ⟨9,1,g.gr.er,[(2,none)]⟩:=by kernel_rfl
theorem c.d3:zac P F.d3=some ⟨4,1,g.d3.er,[(2,none)]⟩:=by kernel_rfl
theorem c.lk:zac P F.lk=some ⟨11,2,g.lk.er,[(4,some 8)]⟩:=by kernel_rfl
theorem c.bm:zac P F.bm=some ⟨8,1,g.bm.er,[(2,none)]⟩:=by kernel_rfl
theorem c.bl:zac P F.bl=some ⟨8,1,g.bl.er,[(2,none)]⟩:=by kernel_rfl
theorem c.ba:zac P F.ba=some ⟨8,1,g.ba.er,[(2,none)]⟩:=by kernel_rfl
theorem c.bf:zac P F.bf=some ⟨8,1,g.bf.er,[(2,none)]⟩:=by kernel_rfl
theorem c.m8:zac P F.m8=some ⟨36,1,g.m8.er,[(2,none)]⟩:=by kernel_rfl
theorem c.kj:zac P F.kj=some ⟨9,2,g.kj.er,[(4,none)]⟩:=by kernel_rfl
theorem c.gw:zac P F.gw=some ⟨9,2,g.gw.er,[(4,none)]⟩:=by kernel_rfl
theorem c.lg:zac P F.lg=some ⟨9,2,g.lg.er,[(4,none)]⟩:=by kernel_rfl
theorem c.l4:zac P F.l4=some ⟨42,2,g.l4.er,[(4,none)]⟩:=by kernel_rfl
theorem c.kw:zac P F.kw=some ⟨42,2,g.kw.er,[(4,none)]⟩:=by kernel_rfl
theorem c.mh:zac P F.mh=some ⟨32,3,g.mh.er,[(6,none)]⟩:=by kernel_rfl
theorem c.mi:zac P F.mi=some ⟨32,3,g.mi.er,[(6,none)]⟩:=by kernel_rfl
theorem c.mq:zac P F.mq=some ⟨26,2,g.mq.er,[(4,none)]⟩:=by kernel_rfl
theorem c.ne:zac P F.ne=some ⟨27,2,g.ne.er,[(4,none)]⟩:=by kernel_rfl
theorem c.gv:zac P F.gv=some ⟨19,2,g.gv.er,[(4,none)]⟩:=by kernel_rfl
theorem c.ln:zac P F.ln=some ⟨19,2,g.ln.er,[(4,none)]⟩:=by kernel_rfl
theorem c.l8:zac P F.l8=some ⟨19,2,g.l8.er,[(4,none)]⟩:=by kernel_rfl
theorem c.l7:zac P F.l7=some ⟨19,2,g.l7.er,[(4,none)]⟩:=by kernel_rfl
theorem c.ch:zac P F.ch=some ⟨14,2,g.ch.er,[]⟩:=by kernel_rfl
theorem c.lr:zac P F.lr=some ⟨9,2,g.lr.er,[]⟩:=by kernel_rfl
end Go.Ab
