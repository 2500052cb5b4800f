/-
Proofs for the law CountIsExhaustive, part 19. Conditions: none.
-/
import Derived.Test.YtdkocfjbmbenfaaGreatDoorBP17
import Derived.KernelRfl
set_option maxRecDepth 100000
set_option maxHeartbeats 4000000
set_option linter.all false
namespace Go.Ab
open Go.Proofs
theorem c.du:zad P F.du=some ⟨45,1,g.du.er,[(2,some 3)]⟩:=by kernel_rfl
theorem c.ay:zad P F.ay=some ⟨14,2,g.ay.er,[(4,none)]⟩:=by kernel_rfl
theorem c.ak:zad P F.ak=some ⟨21,1,g.ak.er,[(2,none)]⟩:=by kernel_rfl
theorem c.bs:zad P F.bs=some ⟨34,2,g.bs.er,[(4,none)]⟩:=by kernel_rfl
theorem c.fm:zad P F.fm=some ⟨19,2,g.fm.er,[(4,none)]⟩:=by kernel_rfl
theorem c.d7:zad P F.d7=some ⟨45,2,g.d7.er,[(4,none)]⟩:=by kernel_rfl
theorem c.j8:zad P F.j8=some ⟨17,1,g.j8.er,[(2,none)]⟩:=by kernel_rfl
theorem c.dw:zad P F.dw=some ⟨36,2,g.dw.er,[(4,none)]⟩:=by kernel_rfl
theorem c.gi:zad P F.gi=some ⟨111,2,g.gi.er,[(4,none),(5,none)]⟩:=by kernel_rfl
theorem c.jy:zad P F.jy=some ⟨39,2,g.jy.er,[(4,none)]⟩:=by kernel_rfl
theorem c.j9:zad P F.j9=some ⟨33,2,g.j9.er,[(4,none)]⟩:=by kernel_rfl
theorem c.j7:zad P F.j7=some ⟨43,2,g.j7.er,[(4,none),(5,none)]⟩:=by kernel_rfl
theorem c.gk:zad P F.gk=some ⟨59,2,g.gk.er,[(4,none)]⟩:=by kernel_rfl
theorem c.dj:zad P F.dj=some ⟨27,1,g.dj.er,[(2,some 3)]⟩:=by kernel_rfl
theorem c.di:zad P F.di=some ⟨2,0,g.di.er,[(0,none)]⟩:=by kernel_rfl
theorem c.jl:zad P F.jl=some ⟨15,1,g.jl.er,[(2,none)]⟩:=by kernel_rfl
theorem c.jr:zad P F.jr=some ⟨20,1,g.jr.er,[(2,none),(3,none)]⟩:=by kernel_rfl
theorem c.de:zad P F.de=some ⟨59,2,g.de.er,[(4,some 3)]⟩:=by kernel_rfl
theorem c.bk:zad P F.bk=some ⟨9,2,g.bk.er,[(4,none)]⟩:=by kernel_rfl
theorem c.gp:zad P F.gp=some ⟨9,2,g.gp.er,[(4,none)]⟩:=by kernel_rfl
theorem c.bp:zad P F.bp=some ⟨21,2,g.bp.er,[(4,some 3),(5,none)]⟩:=by kernel_rfl
theorem c.gg:zad P F.gg=some ⟨25,2,g.gg.er,[(4,some 3)]⟩:=by kernel_rfl
theorem c.jo:zad P F.jo=some ⟨16,1,g.jo.er,[(2,some 3)]⟩:=by kernel_rfl
theorem c.kx:zad P F.kx=some ⟨14,2,g.kx.er,[(4,some 3)]⟩:=by kernel_rfl
theorem c.d0:zad P F.d0=some ⟨24,2,g.d0.er,[(4,none)]⟩:=by kernel_rfl
theorem c.bm:zad P F.bm=some ⟨13,1,g.bm.er,[(2,none)]⟩:=by kernel_rfl
theorem c.jd:zad P F.jd=some ⟨9,2,g.jd.er,[(4,some 3)]⟩:=by kernel_rfl
theorem c.au:zad P F.au=some ⟨16,1,g.au.er,[(2,some 3)]⟩:=by kernel_rfl
theorem c.ax:zad P F.ax=some ⟨65,1,g.ax.er,[(2,none)]⟩:=by kernel_rfl
theorem c.jn:zad P F.jn=some ⟨12,1,g.jn.er,[(2,none)]⟩:=by kernel_rfl
theorem c.fx:zad P F.fx=some ⟨45,2,g.fx.er,[(4,none)]⟩:=by kernel_rfl
theorem c.fu:zad P F.fu=some ⟨10,1,g.fu.er,[(2,none)]⟩:=by kernel_rfl
theorem c.gj:zad P F.gj=some ⟨58,2,g.gj.er,[(4,none),(5,none)]⟩:=by kernel_rfl
theorem c.gf:zad P F.gf=some ⟨19,2,g.gf.er,[(4,none)]⟩:=by kernel_rfl
theorem c.gm:zad P F.gm=some ⟨14,2,g.gm.er,[(4,none)]⟩:=by kernel_rfl
theorem c.fy:zad P F.fy=some ⟨35,2,g.fy.er,[(4,none)]⟩:=by kernel_rfl
theorem c.jm:zad P F.jm=some ⟨10,1,g.jm.er,[(2,none)]⟩:=by kernel_rfl
theorem c.ge:zad P F.ge=some ⟨12,1,g.ge.er,[(2,none)]⟩:=by kernel_rfl
theorem c.dt:zad P F.dt=some ⟨37,3,g.dt.er,[(6,some 3)]⟩:=by kernel_rfl
theorem c.fv:zad P F.fv=some ⟨36,2,g.fv.er,[(4,none)]⟩:=by kernel_rfl
theorem c.kf:zad P F.kf=some ⟨26,2,g.kf.er,[(4,none)]⟩:=by kernel_rfl
theorem c.gn:zad P F.gn=some ⟨9,1,g.gn.er,[(2,none)]⟩:=by kernel_rfl
theorem c.ft:zad P F.ft=some ⟨68,2,g.ft.er,[(4,none)]⟩:=by kernel_rfl
theorem c.bg:zad P F.bg=some ⟨21,1,g.bg.er,[(2,none)]⟩:=by kernel_rfl
theorem c.kd:zad P F.kd=some ⟨24,2,g.kd.er,[(4,none)]⟩:=by kernel_rfl
theorem c.ke:zad P F.ke=some ⟨64,2,g.ke.er,[(4,none)]⟩:=by kernel_rfl
theorem c.jz:zad P F.jz=some ⟨42,2,g.jz.er,[(4,none)]⟩:=by kernel_rfl
theorem c.d8:zad P F.d8=some ⟨30,1,g.d8.er,[(2,none)]⟩:=by kernel_rfl
theorem c.ib:zad P F.ib=some ⟨54,1,g.ib.er,[(2,none)]⟩:=by kernel_rfl
theorem c.ep:zad P F.ep=some ⟨24,2,g.ep.er,[(4,none)]⟩:=by kernel_rfl
theorem c.io:zad P F.io=some ⟨26,1,g.io.er,[(2,none)]⟩:=by kernel_rfl
theorem c.ia:zad P F.ia=some ⟨85,2,g.ia.er,[(4,none)]⟩:=by kernel_rfl
end Go.Ab
