/-
Proofs for the law CountGoesOn, part 20. Conditions: none.
-/
import Derived.Test.YtdkocfjbmbenfaaGreatDoorCP17
import Derived.KernelRfl
set_option maxRecDepth 100000
set_option maxHeartbeats 4000000
set_option linter.all false
namespace Go.Ab
open Go.Proofs
theorem c.dt:zad P F.dt=some ⟨69,2,g.dt.er,[(4,none)]⟩:=by kernel_rfl
theorem c.ki:zad P F.ki=some ⟨9,2,g.ki.er,[(4,none)]⟩:=by kernel_rfl
theorem c.aa:zad P F.aa=some ⟨100,3,g.aa.er,[(6,some 8)]⟩:=by kernel_rfl
theorem c.ap:zad P F.ap=some ⟨48,2,g.ap.er,[(4,some 8)]⟩:=by kernel_rfl
theorem c.ae:zad P F.ae=some ⟨97,3,g.ae.er,[(6,some 8)]⟩:=by kernel_rfl
theorem c.be:zad P F.be=some ⟨52,1,g.be.er,[(2,none)]⟩:=by kernel_rfl
theorem c.ak:zad P F.ak=some ⟨31,1,g.ak.er,[(2,some 8)]⟩:=by kernel_rfl
theorem c.kd:zad P F.kd=some ⟨18,2,g.kd.er,[(4,none)]⟩:=by kernel_rfl
theorem c.bu:zad P F.bu=some ⟨11,2,g.bu.er,[(4,some 2)]⟩:=by kernel_rfl
theorem c.af:zad P F.af=some ⟨107,2,g.af.er,[(4,none)]⟩:=by kernel_rfl
theorem c.f9:zad P F.f9=some ⟨9,1,g.f9.er,[(2,none)]⟩:=by kernel_rfl
theorem c.bk:zad P F.bk=some ⟨40,2,g.bk.er,[(4,none)]⟩:=by kernel_rfl
theorem c.ji:zad P F.ji=some ⟨33,2,g.ji.er,[(4,none)]⟩:=by kernel_rfl
theorem c.dz:zad P F.dz=some ⟨100,2,g.dz.er,[(4,none)]⟩:=by kernel_rfl
theorem c.jv:zad P F.jv=some ⟨26,1,g.jv.er,[(2,some 7)]⟩:=by kernel_rfl
theorem c.bv:zad P F.bv=some ⟨15,3,g.bv.er,[(6,none)]⟩:=by kernel_rfl
theorem c.ju:zad P F.ju=some ⟨91,1,g.ju.er,[(2,none)]⟩:=by kernel_rfl
theorem c.gl:zad P F.gl=some ⟨24,3,g.gl.er,[(6,none)]⟩:=by kernel_rfl
theorem c.gr:zad P F.gr=some ⟨20,2,g.gr.er,[(4,none)]⟩:=by kernel_rfl
theorem c.j3:zad P F.j3=some ⟨9,1,g.j3.er,[(2,some 2)]⟩:=by kernel_rfl
theorem c.j4:zad P F.j4=some ⟨23,2,g.j4.er,[(4,none)]⟩:=by kernel_rfl
theorem c.jr:zad P F.jr=some ⟨37,3,g.jr.er,[(6,some 8)]⟩:=by kernel_rfl
theorem c.jq:zad P F.jq=some ⟨32,2,g.jq.er,[(4,none),(5,none)]⟩:=by kernel_rfl
theorem c.kb:zad P F.kb=some ⟨22,1,g.kb.er,[(2,none)]⟩:=by kernel_rfl
theorem c.jh:zad P F.jh=some ⟨24,2,g.jh.er,[(4,some 8),(5,none)]⟩:=by kernel_rfl
theorem c.jy:zad P F.jy=some ⟨19,2,g.jy.er,[(4,none)]⟩:=by kernel_rfl
theorem c.mo:zad P F.mo=some ⟨54,3,g.mo.er,[(6,none)]⟩:=by kernel_rfl
theorem c.ff:zad P F.ff=some ⟨11,1,g.ff.er,[(2,some 3)]⟩:=by kernel_rfl
theorem c.d7:zad P F.d7=some ⟨53,2,g.d7.er,[(4,none)]⟩:=by kernel_rfl
theorem c.an:zad P F.an=some ⟨47,2,g.an.er,[(4,none)]⟩:=by kernel_rfl
theorem c.gw:zad P F.gw=some ⟨17,2,g.gw.er,[(4,none)]⟩:=by kernel_rfl
theorem c.a8:zad P F.a8=some ⟨30,3,g.a8.er,[(6,some 8)]⟩:=by kernel_rfl
theorem c.ik:zad P F.ik=some ⟨20,4,g.ik.er,[(6,some 8)]⟩:=by kernel_rfl
theorem c.bw:zad P F.bw=some ⟨31,1,g.bw.er,[(2,none)]⟩:=by kernel_rfl
theorem c.ig:zad P F.ig=some ⟨6,1,g.ig.er,[(2,none)]⟩:=by kernel_rfl
theorem c.bg:zad P F.bg=some ⟨19,1,g.bg.er,[(2,some 8)]⟩:=by kernel_rfl
theorem c.g9:zad P F.g9=some ⟨8,2,g.g9.er,[(4,some 8)]⟩:=by kernel_rfl
theorem c.lk:zad P F.lk=some ⟨10,0,g.lk.er,[(0,some 9)]⟩:=by kernel_rfl
theorem c.b7:zad P F.b7=some ⟨32,1,g.b7.er,[(2,none)]⟩:=by kernel_rfl
theorem c.b8:zad P F.b8=some ⟨2,0,g.b8.er,[(0,some 8)]⟩:=by kernel_rfl
theorem c.b9:zad P F.b9=some ⟨10,2,g.b9.er,[(4,some 8)]⟩:=by kernel_rfl
theorem c.g8:zad P F.g8=some ⟨28,2,g.g8.er,[(4,some 8)]⟩:=by kernel_rfl
theorem c.lm:zad P F.lm=some ⟨14,0,g.lm.er,[(0,some 9)]⟩:=by kernel_rfl
theorem c.cg:zad P F.cg=some ⟨21,1,g.cg.er,[(2,none)]⟩:=by kernel_rfl
theorem c.eu:zad P F.eu=some ⟨11,2,g.eu.er,[(4,none)]⟩:=by kernel_rfl
theorem c.fa:zad P F.fa=some ⟨17,3,g.fa.er,[(5,some 8)]⟩:=by kernel_rfl
theorem c.ai:zad P F.ai=some ⟨17,1,g.ai.er,[(2,some 9)]⟩:=by kernel_rfl
theorem c.cd:zad P F.cd=some ⟨19,2,g.cd.er,[(4,none)]⟩:=by kernel_rfl
theorem c.l7:zad P F.l7=some ⟨12,1,g.l7.er,[(2,some 8)]⟩:=by kernel_rfl
theorem c.lr:zad P F.lr=some ⟨2,0,g.lr.er,[(0,some 9)]⟩:=by kernel_rfl
theorem c.fb:zad P F.fb=some ⟨13,1,g.fb.er,[(2,none)]⟩:=by kernel_rfl
theorem c.fc:zad P F.fc=some ⟨2,0,g.fc.er,[(0,some 8)]⟩:=by kernel_rfl
end Go.Ab
