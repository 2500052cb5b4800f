/-
Proofs for the law TransducerSumsPaths, part 21. Conditions: none.
-/
import Derived.Test.YtbhboeijjgiflaaGreatDoorDP18
import Derived.KernelRfl
set_option maxRecDepth 100000
set_option maxHeartbeats 4000000
set_option linter.all false
namespace Go.Ab
open Go.Proofs
theorem c.bm:zad P F.bm=some ⟨11,2,g.bm.er,[(4,some 2)]⟩:=by kernel_rfl
theorem c.ah:zad P F.ah=some ⟨107,2,g.ah.er,[(4,none)]⟩:=by kernel_rfl
theorem c.jt:zad P F.jt=some ⟨9,1,g.jt.er,[(2,none)]⟩:=by kernel_rfl
theorem c.g8:zad P F.g8=some ⟨40,2,g.g8.er,[(4,none)]⟩:=by kernel_rfl
theorem c.bp:zad P F.bp=some ⟨15,3,g.bp.er,[(6,none)]⟩:=by kernel_rfl
theorem c.fy:zad P F.fy=some ⟨24,3,g.fy.er,[(6,none)]⟩:=by kernel_rfl
theorem c.ku:zad P F.ku=some ⟨37,2,g.ku.er,[(4,none)]⟩:=by kernel_rfl
theorem c.jo:zad P F.jo=some ⟨61,3,g.jo.er,[(6,none)]⟩:=by kernel_rfl
theorem c.jh:zad P F.jh=some ⟨58,1,g.jh.er,[(2,some 8)]⟩:=by kernel_rfl
theorem c.fi:zad P F.fi=some ⟨9,1,g.fi.er,[(2,none)]⟩:=by kernel_rfl
theorem c.jj:zad P F.jj=some ⟨105,1,g.jj.er,[(2,none)]⟩:=by kernel_rfl
theorem c.dj:zad P F.dj=some ⟨100,2,g.dj.er,[(4,none)]⟩:=by kernel_rfl
theorem c.j5:zad P F.j5=some ⟨41,2,g.j5.er,[(4,none)]⟩:=by kernel_rfl
theorem c.f9:zad P F.f9=some ⟨24,2,g.f9.er,[(4,none)]⟩:=by kernel_rfl
theorem c.dq:zad P F.dq=some ⟨53,2,g.dq.er,[(4,none)]⟩:=by kernel_rfl
theorem c.az:zad P F.az=some ⟨47,2,g.az.er,[(4,none)]⟩:=by kernel_rfl
theorem c.ia:zad P F.ia=some ⟨17,2,g.ia.er,[(4,none)]⟩:=by kernel_rfl
theorem c.an:zad P F.an=some ⟨30,3,g.an.er,[(6,some 8)]⟩:=by kernel_rfl
theorem c.gh:zad P F.gh=some ⟨20,4,g.gh.er,[(6,some 8)]⟩:=by kernel_rfl
theorem c.ax:zad P F.ax=some ⟨30,3,g.ax.er,[(6,some 8)]⟩:=by kernel_rfl
theorem c.gi:zad P F.gi=some ⟨20,4,g.gi.er,[(6,some 8)]⟩:=by kernel_rfl
theorem c.bo:zad P F.bo=some ⟨31,1,g.bo.er,[(2,none)]⟩:=by kernel_rfl
theorem c.gv:zad P F.gv=some ⟨6,1,g.gv.er,[(2,none)]⟩:=by kernel_rfl
theorem c.bb:zad P F.bb=some ⟨19,1,g.bb.er,[(2,some 8)]⟩:=by kernel_rfl
theorem c.gf:zad P F.gf=some ⟨8,2,g.gf.er,[(4,some 8)]⟩:=by kernel_rfl
theorem c.km:zad P F.km=some ⟨10,0,g.km.er,[(0,some 9)]⟩:=by kernel_rfl
theorem c.b8:zad P F.b8=some ⟨32,1,g.b8.er,[(2,none)]⟩:=by kernel_rfl
theorem c.b9:zad P F.b9=some ⟨2,0,g.b9.er,[(0,some 8)]⟩:=by kernel_rfl
theorem c.cd:zad P F.cd=some ⟨10,2,g.cd.er,[(4,some 8)]⟩:=by kernel_rfl
theorem c.bi:zad P F.bi=some ⟨26,2,g.bi.er,[(4,some 8)]⟩:=by kernel_rfl
theorem c.dv:zad P F.dv=some ⟨28,2,g.dv.er,[(4,some 8)]⟩:=by kernel_rfl
theorem c.ko:zad P F.ko=some ⟨14,0,g.ko.er,[(0,some 9)]⟩:=by kernel_rfl
theorem c.ch:zad P F.ch=some ⟨21,1,g.ch.er,[(2,none)]⟩:=by kernel_rfl
theorem c.ee:zad P F.ee=some ⟨11,2,g.ee.er,[(4,none)]⟩:=by kernel_rfl
theorem c.ef:zad P F.ef=some ⟨17,3,g.ef.er,[(5,some 8)]⟩:=by kernel_rfl
theorem c.am:zad P F.am=some ⟨17,1,g.am.er,[(2,some 9)]⟩:=by kernel_rfl
theorem c.cg:zad P F.cg=some ⟨19,2,g.cg.er,[(4,none)]⟩:=by kernel_rfl
theorem c.lj:zad P F.lj=some ⟨12,1,g.lj.er,[(2,some 8)]⟩:=by kernel_rfl
theorem c.kr:zad P F.kr=some ⟨2,0,g.kr.er,[(0,some 9)]⟩:=by kernel_rfl
theorem c.ej:zad P F.ej=some ⟨13,1,g.ej.er,[(2,none)]⟩:=by kernel_rfl
theorem c.ep:zad P F.ep=some ⟨2,0,g.ep.er,[(0,some 8)]⟩:=by kernel_rfl
theorem c.eq:zad P F.eq=some ⟨11,2,g.eq.er,[(4,some 8)]⟩:=by kernel_rfl
theorem c.eu:zad P F.eu=some ⟨11,2,g.eu.er,[(4,some 8)]⟩:=by kernel_rfl
theorem c.d3:zad P F.d3=some ⟨2,0,g.d3.er,[(0,some 9)]⟩:=by kernel_rfl
theorem c.d5:zad P F.d5=some ⟨13,1,g.d5.er,[(2,none)]⟩:=by kernel_rfl
theorem c.bg:zad P F.bg=some ⟨2,0,g.bg.er,[(0,some 8)]⟩:=by kernel_rfl
theorem c.d7:zad P F.d7=some ⟨11,2,g.d7.er,[(4,some 8)]⟩:=by kernel_rfl
theorem c.bh:zad P F.bh=some ⟨11,2,g.bh.er,[(4,some 8)]⟩:=by kernel_rfl
theorem c.ib:zad P F.ib=some ⟨24,2,g.ib.er,[(4,none)]⟩:=by kernel_rfl
theorem c.kq:zad P F.kq=some ⟨10,0,g.kq.er,[(0,some 9)]⟩:=by kernel_rfl
theorem c.cm:zad P F.cm=some ⟨8,1,g.cm.er,[(2,none)]⟩:=by kernel_rfl
theorem c.cn:zad P F.cn=some ⟨2,0,g.cn.er,[(0,some 8)]⟩:=by kernel_rfl
end Go.Ab
