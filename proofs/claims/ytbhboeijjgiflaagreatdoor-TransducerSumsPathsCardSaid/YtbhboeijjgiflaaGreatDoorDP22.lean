/-
Proofs for the law TransducerSumsPaths, part 22. Conditions: none.
-/
import Derived.Test.YtbhboeijjgiflaaGreatDoorDP18
import Derived.KernelRfl
set_option maxRecDepth 100000
set_option maxHeartbeats 4000000
set_option linter.all false
namespace Go.Ab
open Go.Proofs
theorem c.cq:zad P F.cq=some ⟨11,2,g.cq.er,[(4,some 8)]⟩:=by kernel_rfl
theorem c.cr:zad P F.cr=some ⟨11,2,g.cr.er,[(4,some 8)]⟩:=by kernel_rfl
theorem c.gr:zad P F.gr=some ⟨9,1,g.gr.er,[(2,none)]⟩:=by kernel_rfl
theorem c.d9:zad P F.d9=some ⟨4,1,g.d9.er,[(2,none)]⟩:=by kernel_rfl
theorem c.gg:zad P F.gg=some ⟨11,2,g.gg.er,[(4,some 8)]⟩:=by kernel_rfl
theorem c.bq:zad P F.bq=some ⟨8,1,g.bq.er,[(2,none)]⟩:=by kernel_rfl
theorem c.bl:zad P F.bl=some ⟨8,1,g.bl.er,[(2,none)]⟩:=by kernel_rfl
theorem c.bn:zad P F.bn=some ⟨8,1,g.bn.er,[(2,none)]⟩:=by kernel_rfl
theorem c.bk:zad P F.bk=some ⟨8,1,g.bk.er,[(2,none)]⟩:=by kernel_rfl
theorem c.l7:zad P F.l7=some ⟨36,1,g.l7.er,[(2,none)]⟩:=by kernel_rfl
theorem c.kd:zad P F.kd=some ⟨9,2,g.kd.er,[(4,none)]⟩:=by kernel_rfl
theorem c.j9:zad P F.j9=some ⟨9,2,g.j9.er,[(4,none)]⟩:=by kernel_rfl
theorem c.j8:zad P F.j8=some ⟨42,2,g.j8.er,[(4,none)]⟩:=by kernel_rfl
theorem c.kf:zad P F.kf=some ⟨32,3,g.kf.er,[(6,none)]⟩:=by kernel_rfl
theorem c.ju:zad P F.ju=some ⟨32,3,g.ju.er,[(6,none)]⟩:=by kernel_rfl
theorem c.lg:zad P F.lg=some ⟨26,2,g.lg.er,[(4,none)]⟩:=by kernel_rfl
theorem c.mg:zad P F.mg=some ⟨27,2,g.mg.er,[(4,none)]⟩:=by kernel_rfl
theorem c.kz:zad P F.kz=some ⟨19,2,g.kz.er,[(4,none)]⟩:=by kernel_rfl
theorem c.lc:zad P F.lc=some ⟨19,2,g.lc.er,[(4,none)]⟩:=by kernel_rfl
theorem c.k9:zad P F.k9=some ⟨19,2,g.k9.er,[(4,none)]⟩:=by kernel_rfl
theorem c.jx:zad P F.jx=some ⟨48,2,g.jx.er,[(4,none)]⟩:=by kernel_rfl
theorem c.dg:zad P F.dg=some ⟨14,2,g.dg.er,[]⟩:=by kernel_rfl
theorem c.j7:zad P F.j7=some ⟨9,2,g.j7.er,[]⟩:=by kernel_rfl
theorem c.mo:zad P F.mo=some ⟨53,4,g.mo.er,[]⟩:=by kernel_rfl
theorem c.iz:zad P F.iz=some ⟨53,4,g.iz.er,[]⟩:=by kernel_rfl
theorem c.je:zad P F.je=some ⟨148,5,g.je.er,[]⟩:=by kernel_rfl
theorem c.ky:zad P F.ky=some ⟨63,3,g.ky.er,[]⟩:=by kernel_rfl
theorem c.jk:zad P F.jk=some ⟨20,1,g.jk.er,[(2,none)]⟩:=by kernel_rfl
theorem c.fj:zad P F.fj=some ⟨33,1,g.fj.er,[(2,some 8),(3,none)]⟩:=by kernel_rfl
theorem c.jp:zad P F.jp=some ⟨64,2,g.jp.er,[(4,none)]⟩:=by kernel_rfl
theorem c.gp:zad P F.gp=some ⟨8,2,g.gp.er,[(3,none)]⟩:=by kernel_rfl
theorem c.fk:zad P F.fk=some ⟨103,1,g.fk.er,[(2,none)]⟩:=by kernel_rfl
theorem c.ap:zad P F.ap=some ⟨132,3,g.ap.er,[(6,some 8),(7,none)]⟩:=by kernel_rfl
theorem c.dt:zad P F.dt=some ⟨27,2,g.dt.er,[(4,none)]⟩:=by kernel_rfl
theorem c.di:zad P F.di=some ⟨96,1,g.di.er,[(2,none)]⟩:=by kernel_rfl
theorem c.du:zad P F.du=some ⟨5,1,g.du.er,[(2,none)]⟩:=by kernel_rfl
theorem c.jq:zad P F.jq=some ⟨9,1,g.jq.er,[(2,none)]⟩:=by kernel_rfl
theorem c.jy:zad P F.jy=some ⟨61,5,g.jy.er,[]⟩:=by kernel_rfl
theorem c.jm:zad P F.jm=some ⟨104,2,g.jm.er,[]⟩:=by kernel_rfl
theorem c.be:zad P F.be=some ⟨59,4,g.be.er,[(8,none)]⟩:=by kernel_rfl
theorem c.jr:zad P F.jr=some ⟨17,3,g.jr.er,[(6,none)]⟩:=by kernel_rfl
theorem c.gw:zad P F.gw=some ⟨8,2,g.gw.er,[(3,none)]⟩:=by kernel_rfl
theorem c.jl:zad P F.jl=some ⟨10,2,g.jl.er,[(4,none)]⟩:=by kernel_rfl
theorem c.fm:zad P F.fm=some ⟨32,2,g.fm.er,[(4,none)]⟩:=by kernel_rfl
end Go.Ab
