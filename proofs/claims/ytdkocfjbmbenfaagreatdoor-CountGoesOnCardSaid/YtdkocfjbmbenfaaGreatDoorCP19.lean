/-
Proofs for the law CountGoesOn, part 19. Conditions: none.
-/
import Derived.Test.YtdkocfjbmbenfaaGreatDoorCP17
import Derived.KernelRfl
set_option maxRecDepth 100000
set_option maxHeartbeats 4000000
set_option linter.all false
namespace Go.Ab
open Go.Proofs
theorem c.az:zad P F.az=some ⟨14,2,g.az.er,[(4,none)]⟩:=by kernel_rfl
theorem c.am:zad P F.am=some ⟨21,1,g.am.er,[(2,none)]⟩:=by kernel_rfl
theorem c.bs:zad P F.bs=some ⟨34,2,g.bs.er,[(4,none)]⟩:=by kernel_rfl
theorem c.fm:zad P F.fm=some ⟨19,2,g.fm.er,[(4,none)]⟩:=by kernel_rfl
theorem c.d0:zad P F.d0=some ⟨45,2,g.d0.er,[(4,none)]⟩:=by kernel_rfl
theorem c.j9:zad P F.j9=some ⟨17,1,g.j9.er,[(2,none)]⟩:=by kernel_rfl
theorem c.du:zad P F.du=some ⟨36,2,g.du.er,[(4,none)]⟩:=by kernel_rfl
theorem c.gi:zad P F.gi=some ⟨111,2,g.gi.er,[(4,none),(5,none)]⟩:=by kernel_rfl
theorem c.jz:zad P F.jz=some ⟨39,2,g.jz.er,[(4,none)]⟩:=by kernel_rfl
theorem c.ka:zad P F.ka=some ⟨33,2,g.ka.er,[(4,none)]⟩:=by kernel_rfl
theorem c.j8:zad P F.j8=some ⟨43,2,g.j8.er,[(4,none),(5,none)]⟩:=by kernel_rfl
theorem c.gk:zad P F.gk=some ⟨59,2,g.gk.er,[(4,none)]⟩:=by kernel_rfl
theorem c.dh:zad P F.dh=some ⟨27,1,g.dh.er,[(2,some 3)]⟩:=by kernel_rfl
theorem c.dg:zad P F.dg=some ⟨2,0,g.dg.er,[(0,none)]⟩:=by kernel_rfl
theorem c.jm:zad P F.jm=some ⟨15,1,g.jm.er,[(2,none)]⟩:=by kernel_rfl
theorem c.jt:zad P F.jt=some ⟨20,1,g.jt.er,[(2,none),(3,none)]⟩:=by kernel_rfl
theorem c.db:zad P F.db=some ⟨59,2,g.db.er,[(4,some 3)]⟩:=by kernel_rfl
theorem c.c9:zad P F.c9=some ⟨9,2,g.c9.er,[(4,none)]⟩:=by kernel_rfl
theorem c.gp:zad P F.gp=some ⟨9,2,g.gp.er,[(4,none)]⟩:=by kernel_rfl
theorem c.bq:zad P F.bq=some ⟨21,2,g.bq.er,[(4,some 3),(5,none)]⟩:=by kernel_rfl
theorem c.gg:zad P F.gg=some ⟨25,2,g.gg.er,[(4,some 3)]⟩:=by kernel_rfl
theorem c.jp:zad P F.jp=some ⟨16,1,g.jp.er,[(2,some 3)]⟩:=by kernel_rfl
theorem c.ky:zad P F.ky=some ⟨14,2,g.ky.er,[(4,some 3)]⟩:=by kernel_rfl
theorem c.dw:zad P F.dw=some ⟨24,2,g.dw.er,[(4,none)]⟩:=by kernel_rfl
theorem c.bm:zad P F.bm=some ⟨13,1,g.bm.er,[(2,none)]⟩:=by kernel_rfl
theorem c.jf:zad P F.jf=some ⟨9,2,g.jf.er,[(4,some 3)]⟩:=by kernel_rfl
theorem c.ax:zad P F.ax=some ⟨16,1,g.ax.er,[(2,some 3)]⟩:=by kernel_rfl
theorem c.ay:zad P F.ay=some ⟨65,1,g.ay.er,[(2,none)]⟩:=by kernel_rfl
theorem c.jo:zad P F.jo=some ⟨12,1,g.jo.er,[(2,none)]⟩:=by kernel_rfl
theorem c.fx:zad P F.fx=some ⟨45,2,g.fx.er,[(4,none)]⟩:=by kernel_rfl
theorem c.fu:zad P F.fu=some ⟨10,1,g.fu.er,[(2,none)]⟩:=by kernel_rfl
theorem c.gj:zad P F.gj=some ⟨58,2,g.gj.er,[(4,none),(5,none)]⟩:=by kernel_rfl
theorem c.gf:zad P F.gf=some ⟨19,2,g.gf.er,[(4,none)]⟩:=by kernel_rfl
theorem c.gm:zad P F.gm=some ⟨14,2,g.gm.er,[(4,none)]⟩:=by kernel_rfl
theorem c.fy:zad P F.fy=some ⟨35,2,g.fy.er,[(4,none)]⟩:=by kernel_rfl
theorem c.jn:zad P F.jn=some ⟨10,1,g.jn.er,[(2,none)]⟩:=by kernel_rfl
theorem c.ge:zad P F.ge=some ⟨12,1,g.ge.er,[(2,none)]⟩:=by kernel_rfl
theorem c.dq:zad P F.dq=some ⟨37,3,g.dq.er,[(6,some 3)]⟩:=by kernel_rfl
theorem c.fv:zad P F.fv=some ⟨36,2,g.fv.er,[(4,none)]⟩:=by kernel_rfl
theorem c.kg:zad P F.kg=some ⟨26,2,g.kg.er,[(4,none)]⟩:=by kernel_rfl
theorem c.gn:zad P F.gn=some ⟨9,1,g.gn.er,[(2,none)]⟩:=by kernel_rfl
theorem c.ft:zad P F.ft=some ⟨68,2,g.ft.er,[(4,none)]⟩:=by kernel_rfl
theorem c.bf:zad P F.bf=some ⟨21,1,g.bf.er,[(2,none)]⟩:=by kernel_rfl
theorem c.ke:zad P F.ke=some ⟨24,2,g.ke.er,[(4,none)]⟩:=by kernel_rfl
theorem c.kf:zad P F.kf=some ⟨64,2,g.kf.er,[(4,none)]⟩:=by kernel_rfl
theorem c.j0:zad P F.j0=some ⟨42,2,g.j0.er,[(4,none)]⟩:=by kernel_rfl
theorem c.d6:zad P F.d6=some ⟨30,1,g.d6.er,[(2,none)]⟩:=by kernel_rfl
theorem c.ib:zad P F.ib=some ⟨54,1,g.ib.er,[(2,none)]⟩:=by kernel_rfl
theorem c.ee:zad P F.ee=some ⟨24,2,g.ee.er,[(4,none)]⟩:=by kernel_rfl
theorem c.io:zad P F.io=some ⟨26,1,g.io.er,[(2,none)]⟩:=by kernel_rfl
theorem c.ia:zad P F.ia=some ⟨85,2,g.ia.er,[(4,none)]⟩:=by kernel_rfl
theorem c.dv:zad P F.dv=some ⟨50,2,g.dv.er,[(4,none)]⟩:=by kernel_rfl
end Go.Ab
