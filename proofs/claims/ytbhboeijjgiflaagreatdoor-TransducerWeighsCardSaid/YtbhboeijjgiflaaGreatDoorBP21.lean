/-
Proofs for the law TransducerWeighs, part 21. Conditions: none.
-/
import Derived.Test.YtbhboeijjgiflaaGreatDoorBP18
import Derived.KernelRfl
set_option maxRecDepth 100000
set_option maxHeartbeats 4000000
set_option linter.all false
namespace Go.Ab
open Go.Proofs
theorem c.bx:zad P F.bx=some ⟨33,2,g.bx.er,[(4,none)]⟩:=by kernel_rfl
theorem c.bo:zad P F.bo=some ⟨15,3,g.bo.er,[(6,none)]⟩:=by kernel_rfl
theorem c.f9:zad P F.f9=some ⟨24,3,g.f9.er,[(6,none)]⟩:=by kernel_rfl
theorem c.k9:zad P F.k9=some ⟨37,2,g.k9.er,[(4,none)]⟩:=by kernel_rfl
theorem c.ju:zad P F.ju=some ⟨61,3,g.ju.er,[(6,none)]⟩:=by kernel_rfl
theorem c.jj:zad P F.jj=some ⟨58,1,g.jj.er,[(2,some 8)]⟩:=by kernel_rfl
theorem c.jk:zad P F.jk=some ⟨9,1,g.jk.er,[(2,none)]⟩:=by kernel_rfl
theorem c.ft:zad P F.ft=some ⟨105,1,g.ft.er,[(2,none)]⟩:=by kernel_rfl
theorem c.ak:zad P F.ak=some ⟨171,3,g.ak.er,[(6,some 8),(7,none)]⟩:=by kernel_rfl
theorem c.fu:zad P F.fu=some ⟨33,4,g.fu.er,[(8,none)]⟩:=by kernel_rfl
theorem c.dr:zad P F.dr=some ⟨100,2,g.dr.er,[(4,none)]⟩:=by kernel_rfl
theorem c.j9:zad P F.j9=some ⟨41,2,g.j9.er,[(4,none)]⟩:=by kernel_rfl
theorem c.jq:zad P F.jq=some ⟨26,3,g.jq.er,[(6,none)]⟩:=by kernel_rfl
theorem c.ge:zad P F.ge=some ⟨24,2,g.ge.er,[(4,none)]⟩:=by kernel_rfl
theorem c.jr:zad P F.jr=some ⟨52,2,g.jr.er,[(4,none)]⟩:=by kernel_rfl
theorem c.du:zad P F.du=some ⟨53,2,g.du.er,[(4,none)]⟩:=by kernel_rfl
theorem c.ax:zad P F.ax=some ⟨47,2,g.ax.er,[(4,none)]⟩:=by kernel_rfl
theorem c.ic:zad P F.ic=some ⟨17,2,g.ic.er,[(4,none)]⟩:=by kernel_rfl
theorem c.am:zad P F.am=some ⟨30,3,g.am.er,[(6,some 8)]⟩:=by kernel_rfl
theorem c.gj:zad P F.gj=some ⟨20,4,g.gj.er,[(6,some 8)]⟩:=by kernel_rfl
theorem c.au:zad P F.au=some ⟨30,3,g.au.er,[(6,some 8)]⟩:=by kernel_rfl
theorem c.gk:zad P F.gk=some ⟨20,4,g.gk.er,[(6,some 8)]⟩:=by kernel_rfl
theorem c.bn:zad P F.bn=some ⟨31,1,g.bn.er,[(2,none)]⟩:=by kernel_rfl
theorem c.g8:zad P F.g8=some ⟨6,1,g.g8.er,[(2,none)]⟩:=by kernel_rfl
theorem c.az:zad P F.az=some ⟨19,1,g.az.er,[(2,some 8)]⟩:=by kernel_rfl
theorem c.gh:zad P F.gh=some ⟨8,2,g.gh.er,[(4,some 8)]⟩:=by kernel_rfl
theorem c.ku:zad P F.ku=some ⟨10,0,g.ku.er,[(0,some 9)]⟩:=by kernel_rfl
theorem c.cd:zad P F.cd=some ⟨32,1,g.cd.er,[(2,none)]⟩:=by kernel_rfl
theorem c.cg:zad P F.cg=some ⟨2,0,g.cg.er,[(0,some 8)]⟩:=by kernel_rfl
theorem c.ch:zad P F.ch=some ⟨10,2,g.ch.er,[(4,some 8)]⟩:=by kernel_rfl
theorem c.bg:zad P F.bg=some ⟨26,2,g.bg.er,[(4,some 8)]⟩:=by kernel_rfl
theorem c.d0:zad P F.d0=some ⟨28,2,g.d0.er,[(4,some 8)]⟩:=by kernel_rfl
theorem c.kx:zad P F.kx=some ⟨14,0,g.kx.er,[(0,some 9)]⟩:=by kernel_rfl
theorem c.cm:zad P F.cm=some ⟨21,1,g.cm.er,[(2,none)]⟩:=by kernel_rfl
theorem c.eq:zad P F.eq=some ⟨11,2,g.eq.er,[(4,none)]⟩:=by kernel_rfl
theorem c.eu:zad P F.eu=some ⟨17,3,g.eu.er,[(5,some 8)]⟩:=by kernel_rfl
theorem c.aj:zad P F.aj=some ⟨17,1,g.aj.er,[(2,some 9)]⟩:=by kernel_rfl
theorem c.cj:zad P F.cj=some ⟨19,2,g.cj.er,[(4,none)]⟩:=by kernel_rfl
theorem c.lr:zad P F.lr=some ⟨12,1,g.lr.er,[(2,some 8)]⟩:=by kernel_rfl
theorem c.kz:zad P F.kz=some ⟨2,0,g.kz.er,[(0,some 9)]⟩:=by kernel_rfl
theorem c.fa:zad P F.fa=some ⟨13,1,g.fa.er,[(2,none)]⟩:=by kernel_rfl
theorem c.fb:zad P F.fb=some ⟨2,0,g.fb.er,[(0,some 8)]⟩:=by kernel_rfl
theorem c.fc:zad P F.fc=some ⟨11,2,g.fc.er,[(4,some 8)]⟩:=by kernel_rfl
theorem c.fe:zad P F.fe=some ⟨11,2,g.fe.er,[(4,some 8)]⟩:=by kernel_rfl
theorem c.d6:zad P F.d6=some ⟨2,0,g.d6.er,[(0,some 9)]⟩:=by kernel_rfl
theorem c.d8:zad P F.d8=some ⟨13,1,g.d8.er,[(2,none)]⟩:=by kernel_rfl
theorem c.be:zad P F.be=some ⟨2,0,g.be.er,[(0,some 8)]⟩:=by kernel_rfl
theorem c.ee:zad P F.ee=some ⟨11,2,g.ee.er,[(4,some 8)]⟩:=by kernel_rfl
theorem c.bf:zad P F.bf=some ⟨11,2,g.bf.er,[(4,some 8)]⟩:=by kernel_rfl
theorem c.ig:zad P F.ig=some ⟨24,2,g.ig.er,[(4,none)]⟩:=by kernel_rfl
theorem c.ky:zad P F.ky=some ⟨10,0,g.ky.er,[(0,some 9)]⟩:=by kernel_rfl
theorem c.cq:zad P F.cq=some ⟨8,1,g.cq.er,[(2,none)]⟩:=by kernel_rfl
end Go.Ab
