/-
Proofs for the law CountIsExhaustive, part 20. Conditions: none.
-/
import Derived.Test.YtdkocfjbmbenfaaGreatDoorBP17
import Derived.KernelRfl
set_option maxRecDepth 100000
set_option maxHeartbeats 4000000
set_option linter.all false
namespace Go.Ab
open Go.Proofs
theorem c.dz:zad P F.dz=some ⟨50,2,g.dz.er,[(4,none)]⟩:=by kernel_rfl
theorem c.dv:zad P F.dv=some ⟨69,2,g.dv.er,[(4,none)]⟩:=by kernel_rfl
theorem c.kg:zad P F.kg=some ⟨9,2,g.kg.er,[(4,none)]⟩:=by kernel_rfl
theorem c.aa:zad P F.aa=some ⟨100,3,g.aa.er,[(6,some 8)]⟩:=by kernel_rfl
theorem c.ap:zad P F.ap=some ⟨48,2,g.ap.er,[(4,some 8)]⟩:=by kernel_rfl
theorem c.ae:zad P F.ae=some ⟨97,3,g.ae.er,[(6,some 8)]⟩:=by kernel_rfl
theorem c.bf:zad P F.bf=some ⟨52,1,g.bf.er,[(2,none)]⟩:=by kernel_rfl
theorem c.aj:zad P F.aj=some ⟨31,1,g.aj.er,[(2,some 8)]⟩:=by kernel_rfl
theorem c.kb:zad P F.kb=some ⟨18,2,g.kb.er,[(4,none)]⟩:=by kernel_rfl
theorem c.bu:zad P F.bu=some ⟨11,2,g.bu.er,[(4,some 2)]⟩:=by kernel_rfl
theorem c.af:zad P F.af=some ⟨107,2,g.af.er,[(4,none)]⟩:=by kernel_rfl
theorem c.f9:zad P F.f9=some ⟨9,1,g.f9.er,[(2,none)]⟩:=by kernel_rfl
theorem c.da:zad P F.da=some ⟨40,2,g.da.er,[(4,none)]⟩:=by kernel_rfl
theorem c.jh:zad P F.jh=some ⟨33,2,g.jh.er,[(4,none)]⟩:=by kernel_rfl
theorem c.d6:zad P F.d6=some ⟨100,2,g.d6.er,[(4,none)]⟩:=by kernel_rfl
theorem c.ju:zad P F.ju=some ⟨26,1,g.ju.er,[(2,some 7)]⟩:=by kernel_rfl
theorem c.bv:zad P F.bv=some ⟨15,3,g.bv.er,[(6,none)]⟩:=by kernel_rfl
theorem c.jt:zad P F.jt=some ⟨91,1,g.jt.er,[(2,none)]⟩:=by kernel_rfl
theorem c.gl:zad P F.gl=some ⟨24,3,g.gl.er,[(6,none)]⟩:=by kernel_rfl
theorem c.gr:zad P F.gr=some ⟨20,2,g.gr.er,[(4,none)]⟩:=by kernel_rfl
theorem c.j0:zad P F.j0=some ⟨9,1,g.j0.er,[(2,some 2)]⟩:=by kernel_rfl
theorem c.j3:zad P F.j3=some ⟨23,2,g.j3.er,[(4,none)]⟩:=by kernel_rfl
theorem c.jq:zad P F.jq=some ⟨37,3,g.jq.er,[(6,some 8)]⟩:=by kernel_rfl
theorem c.jp:zad P F.jp=some ⟨32,2,g.jp.er,[(4,none),(5,none)]⟩:=by kernel_rfl
theorem c.ka:zad P F.ka=some ⟨22,1,g.ka.er,[(2,none)]⟩:=by kernel_rfl
theorem c.jg:zad P F.jg=some ⟨24,2,g.jg.er,[(4,some 8),(5,none)]⟩:=by kernel_rfl
theorem c.jx:zad P F.jx=some ⟨19,2,g.jx.er,[(4,none)]⟩:=by kernel_rfl
theorem c.mq:zad P F.mq=some ⟨54,3,g.mq.er,[(6,none)]⟩:=by kernel_rfl
theorem c.c9:zad P F.c9=some ⟨11,1,g.c9.er,[(2,some 3)]⟩:=by kernel_rfl
theorem c.d9:zad P F.d9=some ⟨53,2,g.d9.er,[(4,none)]⟩:=by kernel_rfl
theorem c.am:zad P F.am=some ⟨47,2,g.am.er,[(4,none)]⟩:=by kernel_rfl
theorem c.gw:zad P F.gw=some ⟨17,2,g.gw.er,[(4,none)]⟩:=by kernel_rfl
theorem c.a7:zad P F.a7=some ⟨30,3,g.a7.er,[(6,some 8)]⟩:=by kernel_rfl
theorem c.ik:zad P F.ik=some ⟨20,4,g.ik.er,[(6,some 8)]⟩:=by kernel_rfl
theorem c.bw:zad P F.bw=some ⟨31,1,g.bw.er,[(2,none)]⟩:=by kernel_rfl
theorem c.ig:zad P F.ig=some ⟨6,1,g.ig.er,[(2,none)]⟩:=by kernel_rfl
theorem c.bh:zad P F.bh=some ⟨19,1,g.bh.er,[(2,some 8)]⟩:=by kernel_rfl
theorem c.g9:zad P F.g9=some ⟨8,2,g.g9.er,[(4,some 8)]⟩:=by kernel_rfl
theorem c.lj:zad P F.lj=some ⟨10,0,g.lj.er,[(0,some 9)]⟩:=by kernel_rfl
theorem c.b7:zad P F.b7=some ⟨32,1,g.b7.er,[(2,none)]⟩:=by kernel_rfl
theorem c.b8:zad P F.b8=some ⟨2,0,g.b8.er,[(0,some 8)]⟩:=by kernel_rfl
theorem c.b9:zad P F.b9=some ⟨10,2,g.b9.er,[(4,some 8)]⟩:=by kernel_rfl
theorem c.g8:zad P F.g8=some ⟨28,2,g.g8.er,[(4,some 8)]⟩:=by kernel_rfl
theorem c.lk:zad P F.lk=some ⟨14,0,g.lk.er,[(0,some 9)]⟩:=by kernel_rfl
theorem c.cg:zad P F.cg=some ⟨21,1,g.cg.er,[(2,none)]⟩:=by kernel_rfl
theorem c.fb:zad P F.fb=some ⟨11,2,g.fb.er,[(4,none)]⟩:=by kernel_rfl
theorem c.fc:zad P F.fc=some ⟨17,3,g.fc.er,[(5,some 8)]⟩:=by kernel_rfl
theorem c.ah:zad P F.ah=some ⟨17,1,g.ah.er,[(2,some 9)]⟩:=by kernel_rfl
theorem c.cd:zad P F.cd=some ⟨19,2,g.cd.er,[(4,none)]⟩:=by kernel_rfl
theorem c.lz:zad P F.lz=some ⟨12,1,g.lz.er,[(2,some 8)]⟩:=by kernel_rfl
theorem c.ln:zad P F.ln=some ⟨2,0,g.ln.er,[(0,some 9)]⟩:=by kernel_rfl
theorem c.fe:zad P F.fe=some ⟨13,1,g.fe.er,[(2,none)]⟩:=by kernel_rfl
end Go.Ab
