/-
Proofs for the law TransducerNormalKeepsWeights, part 20. Conditions: none.
-/
import Derived.Test.YtbhboeijjgiflaaGreatDoorEP18
import Derived.KernelRfl
set_option maxRecDepth 100000
set_option maxHeartbeats 4000000
set_option linter.all false
namespace Go.Ab
open Go.Proofs
theorem c.c9:zad P F.c9=some ⟨27,1,g.c9.er,[(2,some 3)]⟩:=by kernel_rfl
theorem c.eu:zad P F.eu=some ⟨2,0,g.eu.er,[(0,none)]⟩:=by kernel_rfl
theorem c.kz:zad P F.kz=some ⟨15,1,g.kz.er,[(2,none)]⟩:=by kernel_rfl
theorem c.lh:zad P F.lh=some ⟨20,1,g.lh.er,[(2,none),(3,none)]⟩:=by kernel_rfl
theorem c.dk:zad P F.dk=some ⟨59,2,g.dk.er,[(4,some 3)]⟩:=by kernel_rfl
theorem c.jt:zad P F.jt=some ⟨9,2,g.jt.er,[(4,none)]⟩:=by kernel_rfl
theorem c.fj:zad P F.fj=some ⟨9,2,g.fj.er,[(4,none)]⟩:=by kernel_rfl
theorem c.jm:zad P F.jm=some ⟨21,2,g.jm.er,[(4,some 3),(5,none)]⟩:=by kernel_rfl
theorem c.fm:zad P F.fm=some ⟨25,2,g.fm.er,[(4,some 3)]⟩:=by kernel_rfl
theorem c.ky:zad P F.ky=some ⟨16,1,g.ky.er,[(2,some 3)]⟩:=by kernel_rfl
theorem c.au:zad P F.au=some ⟨14,2,g.au.er,[(4,some 3)]⟩:=by kernel_rfl
theorem c.bw:zad P F.bw=some ⟨24,2,g.bw.er,[(4,none)]⟩:=by kernel_rfl
theorem c.b7:zad P F.b7=some ⟨13,1,g.b7.er,[(2,none)]⟩:=by kernel_rfl
theorem c.kd:zad P F.kd=some ⟨9,2,g.kd.er,[(4,some 3)]⟩:=by kernel_rfl
theorem c.az:zad P F.az=some ⟨16,1,g.az.er,[(2,some 3)]⟩:=by kernel_rfl
theorem c.be:zad P F.be=some ⟨65,1,g.be.er,[(2,none)]⟩:=by kernel_rfl
theorem c.j4:zad P F.j4=some ⟨12,1,g.j4.er,[(2,none)]⟩:=by kernel_rfl
theorem c.gg:zad P F.gg=some ⟨45,2,g.gg.er,[(4,none)]⟩:=by kernel_rfl
theorem c.ge:zad P F.ge=some ⟨10,1,g.ge.er,[(2,none)]⟩:=by kernel_rfl
theorem c.gw:zad P F.gw=some ⟨58,2,g.gw.er,[(4,none),(5,none)]⟩:=by kernel_rfl
theorem c.gv:zad P F.gv=some ⟨19,2,g.gv.er,[(4,none)]⟩:=by kernel_rfl
theorem c.g9:zad P F.g9=some ⟨14,2,g.g9.er,[(4,none)]⟩:=by kernel_rfl
theorem c.gh:zad P F.gh=some ⟨35,2,g.gh.er,[(4,none)]⟩:=by kernel_rfl
theorem c.j3:zad P F.j3=some ⟨10,1,g.j3.er,[(2,none)]⟩:=by kernel_rfl
theorem c.g8:zad P F.g8=some ⟨12,1,g.g8.er,[(2,none)]⟩:=by kernel_rfl
theorem c.dw:zad P F.dw=some ⟨37,3,g.dw.er,[(6,some 3)]⟩:=by kernel_rfl
theorem c.gf:zad P F.gf=some ⟨36,2,g.gf.er,[(4,none)]⟩:=by kernel_rfl
theorem c.jl:zad P F.jl=some ⟨26,2,g.jl.er,[(4,none)]⟩:=by kernel_rfl
theorem c.ia:zad P F.ia=some ⟨9,1,g.ia.er,[(2,none)]⟩:=by kernel_rfl
theorem c.f9:zad P F.f9=some ⟨68,2,g.f9.er,[(4,none)]⟩:=by kernel_rfl
theorem c.bs:zad P F.bs=some ⟨21,1,g.bs.er,[(2,none)]⟩:=by kernel_rfl
theorem c.fk:zad P F.fk=some ⟨24,2,g.fk.er,[(4,none)]⟩:=by kernel_rfl
theorem c.bz:zad P F.bz=some ⟨7,1,g.bz.er,[(2,none)]⟩:=by kernel_rfl
theorem c.fq:zad P F.fq=some ⟨64,2,g.fq.er,[(4,none)]⟩:=by kernel_rfl
theorem c.jr:zad P F.jr=some ⟨17,1,g.jr.er,[(2,none)]⟩:=by kernel_rfl
theorem c.je:zad P F.je=some ⟨42,2,g.je.er,[(4,none)]⟩:=by kernel_rfl
theorem c.jq:zad P F.jq=some ⟨9,2,g.jq.er,[(4,none)]⟩:=by kernel_rfl
theorem c.dv:zad P F.dv=some ⟨30,1,g.dv.er,[(2,none)]⟩:=by kernel_rfl
theorem c.gr:zad P F.gr=some ⟨54,1,g.gr.er,[(2,none)]⟩:=by kernel_rfl
theorem c.d3:zad P F.d3=some ⟨24,2,g.d3.er,[(4,none)]⟩:=by kernel_rfl
theorem c.ib:zad P F.ib=some ⟨26,1,g.ib.er,[(2,none)]⟩:=by kernel_rfl
theorem c.dz:zad P F.dz=some ⟨85,2,g.dz.er,[(4,none)]⟩:=by kernel_rfl
theorem c.ji:zad P F.ji=some ⟨50,2,g.ji.er,[(4,none)]⟩:=by kernel_rfl
theorem c.dh:zad P F.dh=some ⟨69,2,g.dh.er,[(4,none)]⟩:=by kernel_rfl
theorem c.aa:zad P F.aa=some ⟨42,1,g.aa.er,[(2,some 8)]⟩:=by kernel_rfl
theorem c.ae:zad P F.ae=some ⟨100,3,g.ae.er,[(6,some 8)]⟩:=by kernel_rfl
theorem c.bb:zad P F.bb=some ⟨48,2,g.bb.er,[(4,some 8)]⟩:=by kernel_rfl
theorem c.af:zad P F.af=some ⟨97,3,g.af.er,[(6,some 8)]⟩:=by kernel_rfl
theorem c.bm:zad P F.bm=some ⟨52,1,g.bm.er,[(2,none)]⟩:=by kernel_rfl
theorem c.ay:zad P F.ay=some ⟨31,1,g.ay.er,[(2,some 8)]⟩:=by kernel_rfl
theorem c.bn:zad P F.bn=some ⟨11,2,g.bn.er,[(4,some 2)]⟩:=by kernel_rfl
theorem c.ah:zad P F.ah=some ⟨107,2,g.ah.er,[(4,none)]⟩:=by kernel_rfl
end Go.Ab
