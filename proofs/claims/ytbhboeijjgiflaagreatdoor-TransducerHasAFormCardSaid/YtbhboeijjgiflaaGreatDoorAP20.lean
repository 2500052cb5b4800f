/-
Proofs for the law TransducerHasAForm, part 20. Conditions: none.
-/
import Derived.Test.YtbhboeijjgiflaaGreatDoorAP18
import Derived.KernelRfl
set_option maxRecDepth 100000
set_option maxHeartbeats 4000000
set_option linter.all false
namespace Go.Ab
open Go.Proofs
theorem c.mg:zad P F.mg=some ⟨20,1,g.mg.er,[(2,none),(3,none)]⟩:=by kernel_rfl
theorem c.dq:zad P F.dq=some ⟨59,2,g.dq.er,[(4,some 3)]⟩:=by kernel_rfl
theorem c.j8:zad P F.j8=some ⟨9,2,g.j8.er,[(4,none)]⟩:=by kernel_rfl
theorem c.fu:zad P F.fu=some ⟨9,2,g.fu.er,[(4,none)]⟩:=by kernel_rfl
theorem c.fy:zad P F.fy=some ⟨17,2,g.fy.er,[(4,none)]⟩:=by kernel_rfl
theorem c.j3:zad P F.j3=some ⟨21,2,g.j3.er,[(4,some 3),(5,none)]⟩:=by kernel_rfl
theorem c.fv:zad P F.fv=some ⟨25,2,g.fv.er,[(4,some 3)]⟩:=by kernel_rfl
theorem c.l6:zad P F.l6=some ⟨16,1,g.l6.er,[(2,some 3)]⟩:=by kernel_rfl
theorem c.bv:zad P F.bv=some ⟨14,2,g.bv.er,[(4,some 3)]⟩:=by kernel_rfl
theorem c.bu:zad P F.bu=some ⟨24,2,g.bu.er,[(4,none)]⟩:=by kernel_rfl
theorem c.bx:zad P F.bx=some ⟨13,1,g.bx.er,[(2,none)]⟩:=by kernel_rfl
theorem c.lc:zad P F.lc=some ⟨9,2,g.lc.er,[(4,some 3)]⟩:=by kernel_rfl
theorem c.au:zad P F.au=some ⟨16,1,g.au.er,[(2,some 3)]⟩:=by kernel_rfl
theorem c.bb:zad P F.bb=some ⟨65,1,g.bb.er,[(2,none)]⟩:=by kernel_rfl
theorem c.ko:zad P F.ko=some ⟨12,1,g.ko.er,[(2,none)]⟩:=by kernel_rfl
theorem c.gl:zad P F.gl=some ⟨45,2,g.gl.er,[(4,none)]⟩:=by kernel_rfl
theorem c.gj:zad P F.gj=some ⟨10,1,g.gj.er,[(2,none)]⟩:=by kernel_rfl
theorem c.ig:zad P F.ig=some ⟨58,2,g.ig.er,[(4,none),(5,none)]⟩:=by kernel_rfl
theorem c.ic:zad P F.ic=some ⟨19,2,g.ic.er,[(4,none)]⟩:=by kernel_rfl
theorem c.ij:zad P F.ij=some ⟨14,2,g.ij.er,[(4,none)]⟩:=by kernel_rfl
theorem c.gm:zad P F.gm=some ⟨35,2,g.gm.er,[(4,none)]⟩:=by kernel_rfl
theorem c.km:zad P F.km=some ⟨10,1,g.km.er,[(2,none)]⟩:=by kernel_rfl
theorem c.ii:zad P F.ii=some ⟨12,1,g.ii.er,[(2,none)]⟩:=by kernel_rfl
theorem c.d4:zad P F.d4=some ⟨37,3,g.d4.er,[(6,some 3)]⟩:=by kernel_rfl
theorem c.gk:zad P F.gk=some ⟨36,2,g.gk.er,[(4,none)]⟩:=by kernel_rfl
theorem c.j0:zad P F.j0=some ⟨26,2,g.j0.er,[(4,none)]⟩:=by kernel_rfl
theorem c.im:zad P F.im=some ⟨9,1,g.im.er,[(2,none)]⟩:=by kernel_rfl
theorem c.gi:zad P F.gi=some ⟨68,2,g.gi.er,[(4,none)]⟩:=by kernel_rfl
theorem c.bq:zad P F.bq=some ⟨21,1,g.bq.er,[(2,none)]⟩:=by kernel_rfl
theorem c.jo:zad P F.jo=some ⟨24,2,g.jo.er,[(4,none)]⟩:=by kernel_rfl
theorem c.jz:zad P F.jz=some ⟨7,1,g.jz.er,[(2,none)]⟩:=by kernel_rfl
theorem c.jp:zad P F.jp=some ⟨64,2,g.jp.er,[(4,none)]⟩:=by kernel_rfl
theorem c.jm:zad P F.jm=some ⟨42,2,g.jm.er,[(4,none)]⟩:=by kernel_rfl
theorem c.d3:zad P F.d3=some ⟨30,1,g.d3.er,[(2,none)]⟩:=by kernel_rfl
theorem c.ib:zad P F.ib=some ⟨54,1,g.ib.er,[(2,none)]⟩:=by kernel_rfl
theorem c.d7:zad P F.d7=some ⟨24,2,g.d7.er,[(4,none)]⟩:=by kernel_rfl
theorem c.io:zad P F.io=some ⟨26,1,g.io.er,[(2,none)]⟩:=by kernel_rfl
theorem c.d5:zad P F.d5=some ⟨85,2,g.d5.er,[(4,none)]⟩:=by kernel_rfl
theorem c.dt:zad P F.dt=some ⟨50,2,g.dt.er,[(4,none)]⟩:=by kernel_rfl
theorem c.bi:zad P F.bi=some ⟨69,2,g.bi.er,[(4,none)]⟩:=by kernel_rfl
theorem c.j6:zad P F.j6=some ⟨9,2,g.j6.er,[(4,none)]⟩:=by kernel_rfl
theorem c.af:zad P F.af=some ⟨42,1,g.af.er,[(2,some 8)]⟩:=by kernel_rfl
theorem c.aa:zad P F.aa=some ⟨100,3,g.aa.er,[(6,some 8)]⟩:=by kernel_rfl
theorem c.jv:zad P F.jv=some ⟨38,2,g.jv.er,[(4,none)]⟩:=by kernel_rfl
theorem c.jw:zad P F.jw=some ⟨27,2,g.jw.er,[(4,none)]⟩:=by kernel_rfl
theorem c.ar:zad P F.ar=some ⟨48,2,g.ar.er,[(4,some 8)]⟩:=by kernel_rfl
theorem c.ae:zad P F.ae=some ⟨97,3,g.ae.er,[(6,some 8)]⟩:=by kernel_rfl
theorem c.az:zad P F.az=some ⟨52,1,g.az.er,[(2,none)]⟩:=by kernel_rfl
theorem c.av:zad P F.av=some ⟨31,1,g.av.er,[(2,some 8)]⟩:=by kernel_rfl
theorem c.bl:zad P F.bl=some ⟨11,2,g.bl.er,[(4,some 2)]⟩:=by kernel_rfl
theorem c.ah:zad P F.ah=some ⟨107,2,g.ah.er,[(4,none)]⟩:=by kernel_rfl
theorem c.ju:zad P F.ju=some ⟨9,1,g.ju.er,[(2,none)]⟩:=by kernel_rfl
end Go.Ab
