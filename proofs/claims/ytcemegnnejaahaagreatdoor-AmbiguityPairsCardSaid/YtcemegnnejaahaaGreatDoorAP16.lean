/- Lemmas for the law AmbiguityOfDeterministic, part 16. No conditions. -/
import Derived.Test.YtcemegnnejaahaaGreatDoorAP13
import Derived.KernelRfl
set_option maxRecDepth 100000
set_option maxHeartbeats 4000000
set_option linter.all false
namespace Go.Ab
open Go.Proofs
theorem c.gv:zac P F.gv=some ⟨37,3,g.gv.er,[(6,some 3)]⟩:=by kernel_rfl
theorem c.ij:zac P F.ij=some ⟨36,2,g.ij.er,[(4,none)]⟩:=by kernel_rfl
theorem c.mn:zac P F.mn=some ⟨26,2,g.mn.er,[(4,none)]⟩:=by kernel_rfl
theorem c.jc:zac P F.jc=some ⟨9,1,g.jc.er,[(2,none)]⟩:=by kernel_rfl
theorem c.lc:zac P F.lc=some ⟨68,2,g.lc.er,[(4,none)]⟩:=by kernel_rfl
theorem c.bq:zac P F.bq=some ⟨21,1,g.bq.er,[(2,none)]⟩:=by kernel_rfl
theorem c.mm:zac P F.mm=some ⟨24,2,g.mm.er,[(4,none)]⟩:=by kernel_rfl
theorem c.l9:zac P F.l9=some ⟨42,2,g.l9.er,[(4,none)]⟩:=by kernel_rfl
theorem c.jj:zac P F.jj=some ⟨30,1,g.jj.er,[(2,none)]⟩:=by kernel_rfl
theorem c.iz:zac P F.iz=some ⟨54,1,g.iz.er,[(2,none)]⟩:=by kernel_rfl
theorem c.fj:zac P F.fj=some ⟨24,2,g.fj.er,[(4,none)]⟩:=by kernel_rfl
theorem c.jk:zac P F.jk=some ⟨26,1,g.jk.er,[(2,none)]⟩:=by kernel_rfl
theorem c.ni:zac P F.ni=some ⟨85,2,g.ni.er,[(4,none)]⟩:=by kernel_rfl
theorem c.d8:zac P F.d8=some ⟨50,2,g.d8.er,[(4,none)]⟩:=by kernel_rfl
theorem c.ep:zac P F.ep=some ⟨69,2,g.ep.er,[(4,none)]⟩:=by kernel_rfl
theorem c.iu:zac P F.iu=some ⟨9,2,g.iu.er,[(4,none)]⟩:=by kernel_rfl
theorem c.aa:zac P F.aa=some ⟨100,3,g.aa.er,[(6,some 8)]⟩:=by kernel_rfl
theorem c.ay:zac P F.ay=some ⟨48,2,g.ay.er,[(4,some 8)]⟩:=by kernel_rfl
theorem c.cj:zac P F.cj=some ⟨52,1,g.cj.er,[(2,none)]⟩:=by kernel_rfl
theorem c.au:zac P F.au=some ⟨31,1,g.au.er,[(2,some 8)]⟩:=by kernel_rfl
theorem c.ej:zac P F.ej=some ⟨11,2,g.ej.er,[(4,some 2)]⟩:=by kernel_rfl
theorem c.ae:zac P F.ae=some ⟨107,2,g.ae.er,[(4,none)]⟩:=by kernel_rfl
theorem c.ka:zac P F.ka=some ⟨9,1,g.ka.er,[(2,none)]⟩:=by kernel_rfl
theorem c.ii:zac P F.ii=some ⟨40,2,g.ii.er,[(4,none)]⟩:=by kernel_rfl
theorem c.ku:zac P F.ku=some ⟨100,2,g.ku.er,[(4,none)]⟩:=by kernel_rfl
theorem c.j7:zac P F.j7=some ⟨26,1,g.j7.er,[(2,some 7)]⟩:=by kernel_rfl
theorem c.cr:zac P F.cr=some ⟨15,3,g.cr.er,[(6,none)]⟩:=by kernel_rfl
theorem c.gj:zac P F.gj=some ⟨91,1,g.gj.er,[(2,none)]⟩:=by kernel_rfl
theorem c.gp:zac P F.gp=some ⟨24,3,g.gp.er,[(6,none)]⟩:=by kernel_rfl
theorem c.ir:zac P F.ir=some ⟨20,2,g.ir.er,[(4,none)]⟩:=by kernel_rfl
theorem c.kq:zac P F.kq=some ⟨9,1,g.kq.er,[(2,some 2)]⟩:=by kernel_rfl
theorem c.kr:zac P F.kr=some ⟨23,2,g.kr.er,[(4,none)]⟩:=by kernel_rfl
theorem c.kw:zac P F.kw=some ⟨59,3,g.kw.er,[(6,none)]⟩:=by kernel_rfl
theorem c.j8:zac P F.j8=some ⟨102,2,g.j8.er,[(4,some 7)]⟩:=by kernel_rfl
theorem c.kx:zac P F.kx=some ⟨24,2,g.kx.er,[(4,none)]⟩:=by kernel_rfl
theorem c.l7:zac P F.l7=some ⟨37,2,g.l7.er,[(4,none)]⟩:=by kernel_rfl
theorem c.j4:zac P F.j4=some ⟨14,1,g.j4.er,[(2,some 7),(3,none)]⟩:=by kernel_rfl
theorem c.j9:zac P F.j9=some ⟨40,1,g.j9.er,[(2,none)]⟩:=by kernel_rfl
theorem c.fo:zac P F.fo=some ⟨53,2,g.fo.er,[(4,none)]⟩:=by kernel_rfl
theorem c.ak:zac P F.ak=some ⟨47,2,g.ak.er,[(4,none)]⟩:=by kernel_rfl
theorem c.jf:zac P F.jf=some ⟨17,2,g.jf.er,[(4,none)]⟩:=by kernel_rfl
theorem c.bh:zac P F.bh=some ⟨30,3,g.bh.er,[(6,some 8)]⟩:=by kernel_rfl
theorem c.jq:zac P F.jq=some ⟨20,4,g.jq.er,[(6,some 8)]⟩:=by kernel_rfl
theorem c.de:zac P F.de=some ⟨31,1,g.de.er,[(2,none)]⟩:=by kernel_rfl
theorem c.jo:zac P F.jo=some ⟨6,1,g.jo.er,[(2,none)]⟩:=by kernel_rfl
theorem c.bu:zac P F.bu=some ⟨19,1,g.bu.er,[(2,some 8)]⟩:=by kernel_rfl
theorem c.ji:zac P F.ji=some ⟨8,2,g.ji.er,[(4,some 8)]⟩:=by kernel_rfl
theorem c.nd:zac P F.nd=some ⟨10,0,g.nd.er,[(0,some 9)]⟩:=by kernel_rfl
theorem c.dh:zac P F.dh=some ⟨32,1,g.dh.er,[(2,none)]⟩:=by kernel_rfl
theorem c.di:zac P F.di=some ⟨2,0,g.di.er,[(0,some 8)]⟩:=by kernel_rfl
theorem c.dj:zac P F.dj=some ⟨10,2,g.dj.er,[(4,some 8)]⟩:=by kernel_rfl
theorem c.jh:zac P F.jh=some ⟨28,2,g.jh.er,[(4,some 8)]⟩:=by kernel_rfl
end Go.Ab
