/-
Proofs for the law CountRanks, part 19. Conditions: none.
-/
import Derived.Test.YtdkocfjbmbenfaaGreatDoorAP17
import Derived.KernelRfl
set_option maxRecDepth 100000
set_option maxHeartbeats 4000000
set_option linter.all false
namespace Go.Ab
open Go.Proofs
theorem c.ay:zad P F.ay=some ⟨14,2,g.ay.er,[(4,none)]⟩:=by kernel_rfl
theorem c.am:zad P F.am=some ⟨21,1,g.am.er,[(2,none)]⟩:=by kernel_rfl
theorem c.bs:zad P F.bs=some ⟨34,2,g.bs.er,[(4,none)]⟩:=by kernel_rfl
theorem c.fj:zad P F.fj=some ⟨19,2,g.fj.er,[(4,none)]⟩:=by kernel_rfl
theorem c.d0:zad P F.d0=some ⟨45,2,g.d0.er,[(4,none)]⟩:=by kernel_rfl
theorem c.j8:zad P F.j8=some ⟨17,1,g.j8.er,[(2,none)]⟩:=by kernel_rfl
theorem c.du:zad P F.du=some ⟨36,2,g.du.er,[(4,none)]⟩:=by kernel_rfl
theorem c.gg:zad P F.gg=some ⟨111,2,g.gg.er,[(4,none),(5,none)]⟩:=by kernel_rfl
theorem c.jy:zad P F.jy=some ⟨39,2,g.jy.er,[(4,none)]⟩:=by kernel_rfl
theorem c.j9:zad P F.j9=some ⟨33,2,g.j9.er,[(4,none)]⟩:=by kernel_rfl
theorem c.j7:zad P F.j7=some ⟨43,2,g.j7.er,[(4,none),(5,none)]⟩:=by kernel_rfl
theorem c.gi:zad P F.gi=some ⟨59,2,g.gi.er,[(4,none)]⟩:=by kernel_rfl
theorem c.dh:zad P F.dh=some ⟨27,1,g.dh.er,[(2,some 3)]⟩:=by kernel_rfl
theorem c.dg:zad P F.dg=some ⟨2,0,g.dg.er,[(0,none)]⟩:=by kernel_rfl
theorem c.jl:zad P F.jl=some ⟨15,1,g.jl.er,[(2,none)]⟩:=by kernel_rfl
theorem c.jr:zad P F.jr=some ⟨20,1,g.jr.er,[(2,none),(3,none)]⟩:=by kernel_rfl
theorem c.db:zad P F.db=some ⟨59,2,g.db.er,[(4,some 3)]⟩:=by kernel_rfl
theorem c.bi:zad P F.bi=some ⟨9,2,g.bi.er,[(4,none)]⟩:=by kernel_rfl
theorem c.gn:zad P F.gn=some ⟨9,2,g.gn.er,[(4,none)]⟩:=by kernel_rfl
theorem c.bp:zad P F.bp=some ⟨21,2,g.bp.er,[(4,some 3),(5,none)]⟩:=by kernel_rfl
theorem c.ge:zad P F.ge=some ⟨25,2,g.ge.er,[(4,some 3)]⟩:=by kernel_rfl
theorem c.jo:zad P F.jo=some ⟨16,1,g.jo.er,[(2,some 3)]⟩:=by kernel_rfl
theorem c.kx:zad P F.kx=some ⟨14,2,g.kx.er,[(4,some 3)]⟩:=by kernel_rfl
theorem c.dw:zad P F.dw=some ⟨24,2,g.dw.er,[(4,none)]⟩:=by kernel_rfl
theorem c.bk:zad P F.bk=some ⟨13,1,g.bk.er,[(2,none)]⟩:=by kernel_rfl
theorem c.jd:zad P F.jd=some ⟨9,2,g.jd.er,[(4,some 3)]⟩:=by kernel_rfl
theorem c.au:zad P F.au=some ⟨16,1,g.au.er,[(2,some 3)]⟩:=by kernel_rfl
theorem c.ax:zad P F.ax=some ⟨65,1,g.ax.er,[(2,none)]⟩:=by kernel_rfl
theorem c.jn:zad P F.jn=some ⟨12,1,g.jn.er,[(2,none)]⟩:=by kernel_rfl
theorem c.fu:zad P F.fu=some ⟨45,2,g.fu.er,[(4,none)]⟩:=by kernel_rfl
theorem c.fq:zad P F.fq=some ⟨10,1,g.fq.er,[(2,none)]⟩:=by kernel_rfl
theorem c.gh:zad P F.gh=some ⟨58,2,g.gh.er,[(4,none),(5,none)]⟩:=by kernel_rfl
theorem c.f9:zad P F.f9=some ⟨19,2,g.f9.er,[(4,none)]⟩:=by kernel_rfl
theorem c.gk:zad P F.gk=some ⟨14,2,g.gk.er,[(4,none)]⟩:=by kernel_rfl
theorem c.fv:zad P F.fv=some ⟨35,2,g.fv.er,[(4,none)]⟩:=by kernel_rfl
theorem c.jm:zad P F.jm=some ⟨10,1,g.jm.er,[(2,none)]⟩:=by kernel_rfl
theorem c.fy:zad P F.fy=some ⟨12,1,g.fy.er,[(2,none)]⟩:=by kernel_rfl
theorem c.dq:zad P F.dq=some ⟨37,3,g.dq.er,[(6,some 3)]⟩:=by kernel_rfl
theorem c.ft:zad P F.ft=some ⟨36,2,g.ft.er,[(4,none)]⟩:=by kernel_rfl
theorem c.kf:zad P F.kf=some ⟨26,2,g.kf.er,[(4,none)]⟩:=by kernel_rfl
theorem c.gl:zad P F.gl=some ⟨9,1,g.gl.er,[(2,none)]⟩:=by kernel_rfl
theorem c.fo:zad P F.fo=some ⟨68,2,g.fo.er,[(4,none)]⟩:=by kernel_rfl
theorem c.be:zad P F.be=some ⟨21,1,g.be.er,[(2,none)]⟩:=by kernel_rfl
theorem c.kd:zad P F.kd=some ⟨24,2,g.kd.er,[(4,none)]⟩:=by kernel_rfl
theorem c.ke:zad P F.ke=some ⟨64,2,g.ke.er,[(4,none)]⟩:=by kernel_rfl
theorem c.jz:zad P F.jz=some ⟨42,2,g.jz.er,[(4,none)]⟩:=by kernel_rfl
theorem c.d6:zad P F.d6=some ⟨30,1,g.d6.er,[(2,none)]⟩:=by kernel_rfl
theorem c.g9:zad P F.g9=some ⟨54,1,g.g9.er,[(2,none)]⟩:=by kernel_rfl
theorem c.ee:zad P F.ee=some ⟨24,2,g.ee.er,[(4,none)]⟩:=by kernel_rfl
theorem c.ik:zad P F.ik=some ⟨26,1,g.ik.er,[(2,none)]⟩:=by kernel_rfl
theorem c.g8:zad P F.g8=some ⟨85,2,g.g8.er,[(4,none)]⟩:=by kernel_rfl
theorem c.dv:zad P F.dv=some ⟨50,2,g.dv.er,[(4,none)]⟩:=by kernel_rfl
end Go.Ab
