/-
Proofs for the law TransducerHasAForm, part 22. Conditions: none.
-/
import Derived.Test.YtbhboeijjgiflaaGreatDoorAP18
import Derived.KernelRfl
set_option maxRecDepth 100000
set_option maxHeartbeats 4000000
set_option linter.all false
namespace Go.Ab
open Go.Proofs
theorem c.cm:zad P F.cm=some ⟨11,2,g.cm.er,[(4,some 8)]⟩:=by kernel_rfl
theorem c.cn:zad P F.cn=some ⟨11,2,g.cn.er,[(4,some 8)]⟩:=by kernel_rfl
theorem c.gp:zad P F.gp=some ⟨9,1,g.gp.er,[(2,none)]⟩:=by kernel_rfl
theorem c.ej:zad P F.ej=some ⟨4,1,g.ej.er,[(2,none)]⟩:=by kernel_rfl
theorem c.gf:zad P F.gf=some ⟨11,2,g.gf.er,[(4,some 8)]⟩:=by kernel_rfl
theorem c.bp:zad P F.bp=some ⟨8,1,g.bp.er,[(2,none)]⟩:=by kernel_rfl
theorem c.bk:zad P F.bk=some ⟨8,1,g.bk.er,[(2,none)]⟩:=by kernel_rfl
theorem c.bm:zad P F.bm=some ⟨8,1,g.bm.er,[(2,none)]⟩:=by kernel_rfl
theorem c.bh:zad P F.bh=some ⟨8,1,g.bh.er,[(2,none)]⟩:=by kernel_rfl
theorem c.mf:zad P F.mf=some ⟨36,1,g.mf.er,[(2,none)]⟩:=by kernel_rfl
theorem c.kf:zad P F.kf=some ⟨9,2,g.kf.er,[(4,none)]⟩:=by kernel_rfl
theorem c.ke:zad P F.ke=some ⟨9,2,g.ke.er,[(4,none)]⟩:=by kernel_rfl
theorem c.kd:zad P F.kd=some ⟨42,2,g.kd.er,[(4,none)]⟩:=by kernel_rfl
theorem c.ki:zad P F.ki=some ⟨32,3,g.ki.er,[(6,none)]⟩:=by kernel_rfl
theorem c.jy:zad P F.jy=some ⟨32,3,g.jy.er,[(6,none)]⟩:=by kernel_rfl
theorem c.dw:zad P F.dw=some ⟨32,3,g.dw.er,[(6,none)]⟩:=by kernel_rfl
theorem c.kj:zad P F.kj=some ⟨26,2,g.kj.er,[(4,none)]⟩:=by kernel_rfl
theorem c.lm:zad P F.lm=some ⟨26,2,g.lm.er,[(4,none)]⟩:=by kernel_rfl
theorem c.ml:zad P F.ml=some ⟨27,2,g.ml.er,[(4,none)]⟩:=by kernel_rfl
theorem c.lg:zad P F.lg=some ⟨19,2,g.lg.er,[(4,none)]⟩:=by kernel_rfl
theorem c.lj:zad P F.lj=some ⟨19,2,g.lj.er,[(4,none)]⟩:=by kernel_rfl
theorem c.lh:zad P F.lh=some ⟨19,2,g.lh.er,[(4,none)]⟩:=by kernel_rfl
theorem c.j4:zad P F.j4=some ⟨48,2,g.j4.er,[(4,none)]⟩:=by kernel_rfl
theorem c.db:zad P F.db=some ⟨14,2,g.db.er,[]⟩:=by kernel_rfl
theorem c.j9:zad P F.j9=some ⟨9,2,g.j9.er,[]⟩:=by kernel_rfl
theorem c.mu:zad P F.mu=some ⟨53,4,g.mu.er,[]⟩:=by kernel_rfl
theorem c.iy:zad P F.iy=some ⟨53,4,g.iy.er,[]⟩:=by kernel_rfl
theorem c.jd:zad P F.jd=some ⟨148,5,g.jd.er,[]⟩:=by kernel_rfl
theorem c.ld:zad P F.ld=some ⟨63,3,g.ld.er,[]⟩:=by kernel_rfl
theorem c.ax:zad P F.ax=some ⟨20,1,g.ax.er,[(2,none)]⟩:=by kernel_rfl
theorem c.dg:zad P F.dg=some ⟨33,1,g.dg.er,[(2,some 8),(3,none)]⟩:=by kernel_rfl
theorem c.ji:zad P F.ji=some ⟨54,2,g.ji.er,[(4,none)]⟩:=by kernel_rfl
theorem c.dv:zad P F.dv=some ⟨16,2,g.dv.er,[(4,none)]⟩:=by kernel_rfl
theorem c.jq:zad P F.jq=some ⟨64,2,g.jq.er,[(4,none)]⟩:=by kernel_rfl
theorem c.gn:zad P F.gn=some ⟨8,2,g.gn.er,[(3,none)]⟩:=by kernel_rfl
theorem c.dh:zad P F.dh=some ⟨103,1,g.dh.er,[(2,none)]⟩:=by kernel_rfl
theorem c.fk:zad P F.fk=some ⟨132,3,g.fk.er,[(6,some 8),(7,none)]⟩:=by kernel_rfl
theorem c.bw:zad P F.bw=some ⟨27,2,g.bw.er,[(4,none)]⟩:=by kernel_rfl
theorem c.fq:zad P F.fq=some ⟨96,1,g.fq.er,[(2,none)]⟩:=by kernel_rfl
theorem c.dz:zad P F.dz=some ⟨5,1,g.dz.er,[(2,none)]⟩:=by kernel_rfl
theorem c.jr:zad P F.jr=some ⟨9,1,g.jr.er,[(2,none)]⟩:=by kernel_rfl
theorem c.j5:zad P F.j5=some ⟨61,5,g.j5.er,[]⟩:=by kernel_rfl
theorem c.jl:zad P F.jl=some ⟨104,2,g.jl.er,[]⟩:=by kernel_rfl
theorem c.ba:zad P F.ba=some ⟨59,4,g.ba.er,[(8,none)]⟩:=by kernel_rfl
theorem c.jt:zad P F.jt=some ⟨17,3,g.jt.er,[(6,none)]⟩:=by kernel_rfl
theorem c.gv:zad P F.gv=some ⟨8,2,g.gv.er,[(3,none)]⟩:=by kernel_rfl
theorem c.jk:zad P F.jk=some ⟨10,2,g.jk.er,[(4,none)]⟩:=by kernel_rfl
theorem c.ft:zad P F.ft=some ⟨32,2,g.ft.er,[(4,none)]⟩:=by kernel_rfl
end Go.Ab
