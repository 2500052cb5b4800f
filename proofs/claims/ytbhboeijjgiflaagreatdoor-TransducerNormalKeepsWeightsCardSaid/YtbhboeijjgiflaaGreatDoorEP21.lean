/-
Proofs for the law TransducerNormalKeepsWeights, part 21. Conditions: none.
-/
import Derived.Test.YtbhboeijjgiflaaGreatDoorEP18
import Derived.KernelRfl
set_option maxRecDepth 100000
set_option maxHeartbeats 4000000
set_option linter.all false
namespace Go.Ab
open Go.Proofs
theorem c.dm:zad P F.dm=some ⟨53,2,g.dm.er,[(4,none)]⟩:=by kernel_rfl
theorem c.an:zad P F.an=some ⟨47,2,g.an.er,[(4,none)]⟩:=by kernel_rfl
theorem c.gn:zad P F.gn=some ⟨17,2,g.gn.er,[(4,none)]⟩:=by kernel_rfl
theorem c.ap:zad P F.ap=some ⟨30,3,g.ap.er,[(6,some 8)]⟩:=by kernel_rfl
theorem c.fx:zad P F.fx=some ⟨20,4,g.fx.er,[(6,some 8)]⟩:=by kernel_rfl
theorem c.jj:zad P F.jj=some ⟨17,2,g.jj.er,[(4,none)]⟩:=by kernel_rfl
theorem c.av:zad P F.av=some ⟨30,3,g.av.er,[(6,some 8)]⟩:=by kernel_rfl
theorem c.fy:zad P F.fy=some ⟨20,4,g.fy.er,[(6,some 8)]⟩:=by kernel_rfl
theorem c.bp:zad P F.bp=some ⟨31,1,g.bp.er,[(2,none)]⟩:=by kernel_rfl
theorem c.gk:zad P F.gk=some ⟨6,1,g.gk.er,[(2,none)]⟩:=by kernel_rfl
theorem c.ba:zad P F.ba=some ⟨19,1,g.ba.er,[(2,some 8)]⟩:=by kernel_rfl
theorem c.fv:zad P F.fv=some ⟨8,2,g.fv.er,[(4,some 8)]⟩:=by kernel_rfl
theorem c.j6:zad P F.j6=some ⟨10,0,g.j6.er,[(0,some 9)]⟩:=by kernel_rfl
theorem c.b8:zad P F.b8=some ⟨32,1,g.b8.er,[(2,none)]⟩:=by kernel_rfl
theorem c.b9:zad P F.b9=some ⟨2,0,g.b9.er,[(0,some 8)]⟩:=by kernel_rfl
theorem c.ca:zad P F.ca=some ⟨10,2,g.ca.er,[(4,some 8)]⟩:=by kernel_rfl
theorem c.bh:zad P F.bh=some ⟨26,2,g.bh.er,[(4,some 8)]⟩:=by kernel_rfl
theorem c.du:zad P F.du=some ⟨28,2,g.du.er,[(4,some 8)]⟩:=by kernel_rfl
theorem c.j7:zad P F.j7=some ⟨14,0,g.j7.er,[(0,some 9)]⟩:=by kernel_rfl
theorem c.cg:zad P F.cg=some ⟨21,1,g.cg.er,[(2,none)]⟩:=by kernel_rfl
theorem c.d9:zad P F.d9=some ⟨11,2,g.d9.er,[(4,none)]⟩:=by kernel_rfl
theorem c.ee:zad P F.ee=some ⟨17,3,g.ee.er,[(5,some 8)]⟩:=by kernel_rfl
theorem c.am:zad P F.am=some ⟨17,1,g.am.er,[(2,some 9)]⟩:=by kernel_rfl
theorem c.cd:zad P F.cd=some ⟨19,2,g.cd.er,[(4,none)]⟩:=by kernel_rfl
theorem c.kq:zad P F.kq=some ⟨12,1,g.kq.er,[(2,some 8)]⟩:=by kernel_rfl
theorem c.j9:zad P F.j9=some ⟨2,0,g.j9.er,[(0,some 9)]⟩:=by kernel_rfl
theorem c.ef:zad P F.ef=some ⟨13,1,g.ef.er,[(2,none)]⟩:=by kernel_rfl
theorem c.ej:zad P F.ej=some ⟨2,0,g.ej.er,[(0,some 8)]⟩:=by kernel_rfl
theorem c.ep:zad P F.ep=some ⟨11,2,g.ep.er,[(4,some 8)]⟩:=by kernel_rfl
theorem c.eq:zad P F.eq=some ⟨11,2,g.eq.er,[(4,some 8)]⟩:=by kernel_rfl
theorem c.d0:zad P F.d0=some ⟨2,0,g.d0.er,[(0,some 9)]⟩:=by kernel_rfl
theorem c.d4:zad P F.d4=some ⟨13,1,g.d4.er,[(2,none)]⟩:=by kernel_rfl
theorem c.bf:zad P F.bf=some ⟨2,0,g.bf.er,[(0,some 8)]⟩:=by kernel_rfl
theorem c.d6:zad P F.d6=some ⟨11,2,g.d6.er,[(4,some 8)]⟩:=by kernel_rfl
theorem c.bg:zad P F.bg=some ⟨11,2,g.bg.er,[(4,some 8)]⟩:=by kernel_rfl
theorem c.gp:zad P F.gp=some ⟨24,2,g.gp.er,[(4,none)]⟩:=by kernel_rfl
theorem c.j8:zad P F.j8=some ⟨10,0,g.j8.er,[(0,some 9)]⟩:=by kernel_rfl
theorem c.cj:zad P F.cj=some ⟨8,1,g.cj.er,[(2,none)]⟩:=by kernel_rfl
theorem c.cm:zad P F.cm=some ⟨2,0,g.cm.er,[(0,some 8)]⟩:=by kernel_rfl
theorem c.cn:zad P F.cn=some ⟨11,2,g.cn.er,[(4,some 8)]⟩:=by kernel_rfl
theorem c.cq:zad P F.cq=some ⟨11,2,g.cq.er,[(4,some 8)]⟩:=by kernel_rfl
theorem c.gj:zad P F.gj=some ⟨9,1,g.gj.er,[(2,none)]⟩:=by kernel_rfl
theorem c.d8:zad P F.d8=some ⟨4,1,g.d8.er,[(2,none)]⟩:=by kernel_rfl
theorem c.fw:zad P F.fw=some ⟨11,2,g.fw.er,[(4,some 8)]⟩:=by kernel_rfl
theorem c.bq:zad P F.bq=some ⟨8,1,g.bq.er,[(2,none)]⟩:=by kernel_rfl
theorem c.bl:zad P F.bl=some ⟨8,1,g.bl.er,[(2,none)]⟩:=by kernel_rfl
theorem c.bo:zad P F.bo=some ⟨8,1,g.bo.er,[(2,none)]⟩:=by kernel_rfl
theorem c.bj:zad P F.bj=some ⟨8,1,g.bj.er,[(2,none)]⟩:=by kernel_rfl
theorem c.lg:zad P F.lg=some ⟨36,1,g.lg.er,[(2,none)]⟩:=by kernel_rfl
theorem c.jx:zad P F.jx=some ⟨9,2,g.jx.er,[(4,none)]⟩:=by kernel_rfl
theorem c.jw:zad P F.jw=some ⟨9,2,g.jw.er,[(4,none)]⟩:=by kernel_rfl
theorem c.jv:zad P F.jv=some ⟨42,2,g.jv.er,[(4,none)]⟩:=by kernel_rfl
end Go.Ab
