/-
Proofs for the law TransducerWeighsMadeModels, part 20. Conditions: none.
-/
import Derived.Test.YtbhboeijjgiflaaGreatDoorCP18
import Derived.KernelRfl
set_option maxRecDepth 100000
set_option maxHeartbeats 4000000
set_option linter.all false
namespace Go.Ab
open Go.Proofs
theorem c.dj:zad P F.dj=some ⟨27,1,g.dj.er,[(2,some 3)]⟩:=by kernel_rfl
theorem c.fi:zad P F.fi=some ⟨2,0,g.fi.er,[(0,none)]⟩:=by kernel_rfl
theorem c.mg:zad P F.mg=some ⟨15,1,g.mg.er,[(2,none)]⟩:=by kernel_rfl
theorem c.mm:zad P F.mm=some ⟨20,1,g.mm.er,[(2,none),(3,none)]⟩:=by kernel_rfl
theorem c.dw:zad P F.dw=some ⟨59,2,g.dw.er,[(4,some 3)]⟩:=by kernel_rfl
theorem c.kj:zad P F.kj=some ⟨9,2,g.kj.er,[(4,none)]⟩:=by kernel_rfl
theorem c.f9:zad P F.f9=some ⟨9,2,g.f9.er,[(4,none)]⟩:=by kernel_rfl
theorem c.j7:zad P F.j7=some ⟨21,2,g.j7.er,[(4,some 3),(5,none)]⟩:=by kernel_rfl
theorem c.gf:zad P F.gf=some ⟨25,2,g.gf.er,[(4,some 3)]⟩:=by kernel_rfl
theorem c.mf:zad P F.mf=some ⟨16,1,g.mf.er,[(2,some 3)]⟩:=by kernel_rfl
theorem c.ax:zad P F.ax=some ⟨14,2,g.ax.er,[(4,some 3)]⟩:=by kernel_rfl
theorem c.cd:zad P F.cd=some ⟨24,2,g.cd.er,[(4,none)]⟩:=by kernel_rfl
theorem c.cj:zad P F.cj=some ⟨13,1,g.cj.er,[(2,none)]⟩:=by kernel_rfl
theorem c.lk:zad P F.lk=some ⟨9,2,g.lk.er,[(4,some 3)]⟩:=by kernel_rfl
theorem c.bb:zad P F.bb=some ⟨16,1,g.bb.er,[(2,some 3)]⟩:=by kernel_rfl
theorem c.bg:zad P F.bg=some ⟨65,1,g.bg.er,[(2,none)]⟩:=by kernel_rfl
theorem c.kz:zad P F.kz=some ⟨12,1,g.kz.er,[(2,none)]⟩:=by kernel_rfl
theorem c.g9:zad P F.g9=some ⟨45,2,g.g9.er,[(4,none)]⟩:=by kernel_rfl
theorem c.gw:zad P F.gw=some ⟨10,1,g.gw.er,[(2,none)]⟩:=by kernel_rfl
theorem c.iu:zad P F.iu=some ⟨58,2,g.iu.er,[(4,none),(5,none)]⟩:=by kernel_rfl
theorem c.ir:zad P F.ir=some ⟨19,2,g.ir.er,[(4,none)]⟩:=by kernel_rfl
theorem c.iz:zad P F.iz=some ⟨14,2,g.iz.er,[(4,none)]⟩:=by kernel_rfl
theorem c.ia:zad P F.ia=some ⟨35,2,g.ia.er,[(4,none)]⟩:=by kernel_rfl
theorem c.ky:zad P F.ky=some ⟨10,1,g.ky.er,[(2,none)]⟩:=by kernel_rfl
theorem c.iy:zad P F.iy=some ⟨12,1,g.iy.er,[(2,none)]⟩:=by kernel_rfl
theorem c.d7:zad P F.d7=some ⟨37,3,g.d7.er,[(6,some 3)]⟩:=by kernel_rfl
theorem c.g8:zad P F.g8=some ⟨36,2,g.g8.er,[(4,none)]⟩:=by kernel_rfl
theorem c.j6:zad P F.j6=some ⟨26,2,g.j6.er,[(4,none)]⟩:=by kernel_rfl
theorem c.i6:zad P F.i6=some ⟨9,1,g.i6.er,[(2,none)]⟩:=by kernel_rfl
theorem c.gv:zad P F.gv=some ⟨68,2,g.gv.er,[(4,none)]⟩:=by kernel_rfl
theorem c.bu:zad P F.bu=some ⟨21,1,g.bu.er,[(2,none)]⟩:=by kernel_rfl
theorem c.ge:zad P F.ge=some ⟨24,2,g.ge.er,[(4,none)]⟩:=by kernel_rfl
theorem c.ch:zad P F.ch=some ⟨7,1,g.ch.er,[(2,none)]⟩:=by kernel_rfl
theorem c.gg:zad P F.gg=some ⟨64,2,g.gg.er,[(4,none)]⟩:=by kernel_rfl
theorem c.kf:zad P F.kf=some ⟨17,1,g.kf.er,[(2,none)]⟩:=by kernel_rfl
theorem c.jy:zad P F.jy=some ⟨42,2,g.jy.er,[(4,none)]⟩:=by kernel_rfl
theorem c.ke:zad P F.ke=some ⟨9,2,g.ke.er,[(4,none)]⟩:=by kernel_rfl
theorem c.d6:zad P F.d6=some ⟨30,1,g.d6.er,[(2,none)]⟩:=by kernel_rfl
theorem c.iq:zad P F.iq=some ⟨54,1,g.iq.er,[(2,none)]⟩:=by kernel_rfl
theorem c.ee:zad P F.ee=some ⟨24,2,g.ee.er,[(4,none)]⟩:=by kernel_rfl
theorem c.i7:zad P F.i7=some ⟨26,1,g.i7.er,[(2,none)]⟩:=by kernel_rfl
theorem c.d8:zad P F.d8=some ⟨85,2,g.d8.er,[(4,none)]⟩:=by kernel_rfl
theorem c.d0:zad P F.d0=some ⟨50,2,g.d0.er,[(4,none)]⟩:=by kernel_rfl
theorem c.bx:zad P F.bx=some ⟨69,2,g.bx.er,[(4,none)]⟩:=by kernel_rfl
theorem c.kg:zad P F.kg=some ⟨9,2,g.kg.er,[(4,none)]⟩:=by kernel_rfl
theorem c.af:zad P F.af=some ⟨42,1,g.af.er,[(2,some 8)]⟩:=by kernel_rfl
theorem c.aa:zad P F.aa=some ⟨100,3,g.aa.er,[(6,some 8)]⟩:=by kernel_rfl
theorem c.az:zad P F.az=some ⟨48,2,g.az.er,[(4,some 8)]⟩:=by kernel_rfl
theorem c.ae:zad P F.ae=some ⟨97,3,g.ae.er,[(6,some 8)]⟩:=by kernel_rfl
theorem c.be:zad P F.be=some ⟨52,1,g.be.er,[(2,none)]⟩:=by kernel_rfl
theorem c.au:zad P F.au=some ⟨31,1,g.au.er,[(2,some 8)]⟩:=by kernel_rfl
theorem c.jr:zad P F.jr=some ⟨18,2,g.jr.er,[(4,none)]⟩:=by kernel_rfl
end Go.Ab
