/-
Proofs for the law TransducerHasAForm, part 21. Conditions: none.
-/
import Derived.Test.YtbhboeijjgiflaaGreatDoorAP18
import Derived.KernelRfl
set_option maxRecDepth 100000
set_option maxHeartbeats 4000000
set_option linter.all false
namespace Go.Ab
open Go.Proofs
theorem c.gw:zad P F.gw=some ⟨40,2,g.gw.er,[(4,none)]⟩:=by kernel_rfl
theorem c.bo:zad P F.bo=some ⟨15,3,g.bo.er,[(6,none)]⟩:=by kernel_rfl
theorem c.fx:zad P F.fx=some ⟨24,3,g.fx.er,[(6,none)]⟩:=by kernel_rfl
theorem c.kz:zad P F.kz=some ⟨37,2,g.kz.er,[(4,none)]⟩:=by kernel_rfl
theorem c.jn:zad P F.jn=some ⟨61,3,g.jn.er,[(6,none)]⟩:=by kernel_rfl
theorem c.jg:zad P F.jg=some ⟨58,1,g.jg.er,[(2,some 8)]⟩:=by kernel_rfl
theorem c.bj:zad P F.bj=some ⟨9,1,g.bj.er,[(2,none)]⟩:=by kernel_rfl
theorem c.jh:zad P F.jh=some ⟨10,1,g.jh.er,[(2,some 8),(3,none)]⟩:=by kernel_rfl
theorem c.fm:zad P F.fm=some ⟨93,2,g.fm.er,[(4,none)]⟩:=by kernel_rfl
theorem c.di:zad P F.di=some ⟨105,1,g.di.er,[(2,none)]⟩:=by kernel_rfl
theorem c.dm:zad P F.dm=some ⟨100,2,g.dm.er,[(4,none)]⟩:=by kernel_rfl
theorem c.j7:zad P F.j7=some ⟨41,2,g.j7.er,[(4,none)]⟩:=by kernel_rfl
theorem c.du:zad P F.du=some ⟨24,2,g.du.er,[(4,none)]⟩:=by kernel_rfl
theorem c.dr:zad P F.dr=some ⟨53,2,g.dr.er,[(4,none)]⟩:=by kernel_rfl
theorem c.ak:zad P F.ak=some ⟨47,2,g.ak.er,[(4,none)]⟩:=by kernel_rfl
theorem c.g9:zad P F.g9=some ⟨17,2,g.g9.er,[(4,none)]⟩:=by kernel_rfl
theorem c.am:zad P F.am=some ⟨30,3,g.am.er,[(6,some 8)]⟩:=by kernel_rfl
theorem c.gg:zad P F.gg=some ⟨20,4,g.gg.er,[(6,some 8)]⟩:=by kernel_rfl
theorem c.jx:zad P F.jx=some ⟨17,2,g.jx.er,[(4,none)]⟩:=by kernel_rfl
theorem c.ap:zad P F.ap=some ⟨30,3,g.ap.er,[(6,some 8)]⟩:=by kernel_rfl
theorem c.gh:zad P F.gh=some ⟨20,4,g.gh.er,[(6,some 8)]⟩:=by kernel_rfl
theorem c.bn:zad P F.bn=some ⟨31,1,g.bn.er,[(2,none)]⟩:=by kernel_rfl
theorem c.gr:zad P F.gr=some ⟨6,1,g.gr.er,[(2,none)]⟩:=by kernel_rfl
theorem c.ay:zad P F.ay=some ⟨19,1,g.ay.er,[(2,some 8)]⟩:=by kernel_rfl
theorem c.ge:zad P F.ge=some ⟨8,2,g.ge.er,[(4,some 8)]⟩:=by kernel_rfl
theorem c.kr:zad P F.kr=some ⟨10,0,g.kr.er,[(0,some 9)]⟩:=by kernel_rfl
theorem c.bz:zad P F.bz=some ⟨32,1,g.bz.er,[(2,none)]⟩:=by kernel_rfl
theorem c.b7:zad P F.b7=some ⟨2,0,g.b7.er,[(0,some 8)]⟩:=by kernel_rfl
theorem c.b8:zad P F.b8=some ⟨10,2,g.b8.er,[(4,some 8)]⟩:=by kernel_rfl
theorem c.bf:zad P F.bf=some ⟨26,2,g.bf.er,[(4,some 8)]⟩:=by kernel_rfl
theorem c.d0:zad P F.d0=some ⟨28,2,g.d0.er,[(4,some 8)]⟩:=by kernel_rfl
theorem c.ku:zad P F.ku=some ⟨14,0,g.ku.er,[(0,some 9)]⟩:=by kernel_rfl
theorem c.cd:zad P F.cd=some ⟨21,1,g.cd.er,[(2,none)]⟩:=by kernel_rfl
theorem c.ep:zad P F.ep=some ⟨11,2,g.ep.er,[(4,none)]⟩:=by kernel_rfl
theorem c.eq:zad P F.eq=some ⟨17,3,g.eq.er,[(5,some 8)]⟩:=by kernel_rfl
theorem c.aj:zad P F.aj=some ⟨17,1,g.aj.er,[(2,some 9)]⟩:=by kernel_rfl
theorem c.b9:zad P F.b9=some ⟨19,2,g.b9.er,[(4,none)]⟩:=by kernel_rfl
theorem c.lr:zad P F.lr=some ⟨12,1,g.lr.er,[(2,some 8)]⟩:=by kernel_rfl
theorem c.ky:zad P F.ky=some ⟨2,0,g.ky.er,[(0,some 9)]⟩:=by kernel_rfl
theorem c.eu:zad P F.eu=some ⟨13,1,g.eu.er,[(2,none)]⟩:=by kernel_rfl
theorem c.fa:zad P F.fa=some ⟨2,0,g.fa.er,[(0,some 8)]⟩:=by kernel_rfl
theorem c.fb:zad P F.fb=some ⟨11,2,g.fb.er,[(4,some 8)]⟩:=by kernel_rfl
theorem c.fc:zad P F.fc=some ⟨11,2,g.fc.er,[(4,some 8)]⟩:=by kernel_rfl
theorem c.d6:zad P F.d6=some ⟨2,0,g.d6.er,[(0,some 9)]⟩:=by kernel_rfl
theorem c.d8:zad P F.d8=some ⟨13,1,g.d8.er,[(2,none)]⟩:=by kernel_rfl
theorem c.bc:zad P F.bc=some ⟨2,0,g.bc.er,[(0,some 8)]⟩:=by kernel_rfl
theorem c.ee:zad P F.ee=some ⟨11,2,g.ee.er,[(4,some 8)]⟩:=by kernel_rfl
theorem c.be:zad P F.be=some ⟨11,2,g.be.er,[(4,some 8)]⟩:=by kernel_rfl
theorem c.ia:zad P F.ia=some ⟨24,2,g.ia.er,[(4,none)]⟩:=by kernel_rfl
theorem c.kx:zad P F.kx=some ⟨10,0,g.kx.er,[(0,some 9)]⟩:=by kernel_rfl
theorem c.ch:zad P F.ch=some ⟨8,1,g.ch.er,[(2,none)]⟩:=by kernel_rfl
theorem c.cj:zad P F.cj=some ⟨2,0,g.cj.er,[(0,some 8)]⟩:=by kernel_rfl
end Go.Ab
