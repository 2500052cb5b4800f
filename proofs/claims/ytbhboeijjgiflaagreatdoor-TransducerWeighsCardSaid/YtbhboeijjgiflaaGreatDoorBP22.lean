/-
Proofs for the law TransducerWeighs, part 22. Conditions: none.
-/
import Derived.Test.YtbhboeijjgiflaaGreatDoorBP18
import Derived.KernelRfl
set_option maxRecDepth 100000
set_option maxHeartbeats 4000000
set_option linter.all false
namespace Go.Ab
open Go.Proofs
theorem c.cr:zad P F.cr=some ⟨2,0,g.cr.er,[(0,some 8)]⟩:=by kernel_rfl
theorem c.c9:zad P F.c9=some ⟨11,2,g.c9.er,[(4,some 8)]⟩:=by kernel_rfl
theorem c.da:zad P F.da=some ⟨11,2,g.da.er,[(4,some 8)]⟩:=by kernel_rfl
theorem c.gw:zad P F.gw=some ⟨9,1,g.gw.er,[(2,none)]⟩:=by kernel_rfl
theorem c.ep:zad P F.ep=some ⟨4,1,g.ep.er,[(2,none)]⟩:=by kernel_rfl
theorem c.gi:zad P F.gi=some ⟨11,2,g.gi.er,[(4,some 8)]⟩:=by kernel_rfl
theorem c.bp:zad P F.bp=some ⟨8,1,g.bp.er,[(2,none)]⟩:=by kernel_rfl
theorem c.bk:zad P F.bk=some ⟨8,1,g.bk.er,[(2,none)]⟩:=by kernel_rfl
theorem c.bm:zad P F.bm=some ⟨8,1,g.bm.er,[(2,none)]⟩:=by kernel_rfl
theorem c.bi:zad P F.bi=some ⟨8,1,g.bi.er,[(2,none)]⟩:=by kernel_rfl
theorem c.mf:zad P F.mf=some ⟨36,1,g.mf.er,[(2,none)]⟩:=by kernel_rfl
theorem c.ki:zad P F.ki=some ⟨9,2,g.ki.er,[(4,none)]⟩:=by kernel_rfl
theorem c.kg:zad P F.kg=some ⟨9,2,g.kg.er,[(4,none)]⟩:=by kernel_rfl
theorem c.kf:zad P F.kf=some ⟨42,2,g.kf.er,[(4,none)]⟩:=by kernel_rfl
theorem c.km:zad P F.km=some ⟨32,3,g.km.er,[(6,none)]⟩:=by kernel_rfl
theorem c.j0:zad P F.j0=some ⟨32,3,g.j0.er,[(6,none)]⟩:=by kernel_rfl
theorem c.lm:zad P F.lm=some ⟨26,2,g.lm.er,[(4,none)]⟩:=by kernel_rfl
theorem c.ml:zad P F.ml=some ⟨27,2,g.ml.er,[(4,none)]⟩:=by kernel_rfl
theorem c.lg:zad P F.lg=some ⟨19,2,g.lg.er,[(4,none)]⟩:=by kernel_rfl
theorem c.lj:zad P F.lj=some ⟨19,2,g.lj.er,[(4,none)]⟩:=by kernel_rfl
theorem c.lh:zad P F.lh=some ⟨19,2,g.lh.er,[(4,none)]⟩:=by kernel_rfl
theorem c.j6:zad P F.j6=some ⟨48,2,g.j6.er,[(4,none)]⟩:=by kernel_rfl
theorem c.di:zad P F.di=some ⟨14,2,g.di.er,[]⟩:=by kernel_rfl
theorem c.ke:zad P F.ke=some ⟨9,2,g.ke.er,[]⟩:=by kernel_rfl
theorem c.mu:zad P F.mu=some ⟨53,4,g.mu.er,[]⟩:=by kernel_rfl
theorem c.i7:zad P F.i7=some ⟨53,4,g.i7.er,[]⟩:=by kernel_rfl
theorem c.jg:zad P F.jg=some ⟨148,5,g.jg.er,[]⟩:=by kernel_rfl
theorem c.ld:zad P F.ld=some ⟨63,3,g.ld.er,[]⟩:=by kernel_rfl
theorem c.jm:zad P F.jm=some ⟨20,1,g.jm.er,[(2,none)]⟩:=by kernel_rfl
theorem c.fm:zad P F.fm=some ⟨33,1,g.fm.er,[(2,some 8),(3,none)]⟩:=by kernel_rfl
theorem c.jx:zad P F.jx=some ⟨64,2,g.jx.er,[(4,none)]⟩:=by kernel_rfl
theorem c.gv:zad P F.gv=some ⟨8,2,g.gv.er,[(3,none)]⟩:=by kernel_rfl
theorem c.fq:zad P F.fq=some ⟨103,1,g.fq.er,[(2,none)]⟩:=by kernel_rfl
theorem c.an:zad P F.an=some ⟨132,3,g.an.er,[(6,some 8),(7,none)]⟩:=by kernel_rfl
theorem c.dw:zad P F.dw=some ⟨27,2,g.dw.er,[(4,none)]⟩:=by kernel_rfl
theorem c.dq:zad P F.dq=some ⟨96,1,g.dq.er,[(2,none)]⟩:=by kernel_rfl
theorem c.dz:zad P F.dz=some ⟨5,1,g.dz.er,[(2,none)]⟩:=by kernel_rfl
theorem c.jy:zad P F.jy=some ⟨9,1,g.jy.er,[(2,none)]⟩:=by kernel_rfl
theorem c.j7:zad P F.j7=some ⟨61,5,g.j7.er,[]⟩:=by kernel_rfl
theorem c.jp:zad P F.jp=some ⟨104,2,g.jp.er,[]⟩:=by kernel_rfl
theorem c.bb:zad P F.bb=some ⟨59,4,g.bb.er,[(8,none)]⟩:=by kernel_rfl
theorem c.jz:zad P F.jz=some ⟨17,3,g.jz.er,[(6,none)]⟩:=by kernel_rfl
theorem c.g9:zad P F.g9=some ⟨8,2,g.g9.er,[(3,none)]⟩:=by kernel_rfl
theorem c.jo:zad P F.jo=some ⟨10,2,g.jo.er,[(4,none)]⟩:=by kernel_rfl
theorem c.bj:zad P F.bj=some ⟨32,2,g.bj.er,[(4,none)]⟩:=by kernel_rfl
end Go.Ab
