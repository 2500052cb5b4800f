/-
Proofs for the law CountIsFinite, part 20. Conditions: none.
-/
import Derived.Test.YtdkocfjbmbenfaaGreatDoorDP17
import Derived.KernelRfl
set_option maxRecDepth 100000
set_option maxHeartbeats 4000000
set_option linter.all false
namespace Go.Ab
open Go.Proofs
theorem c.bn:zac P F.bn=some ⟨2,0,g.bn.er,[(0,some 8)]⟩:=by kernel_rfl
theorem c.bp:zac P F.bp=some ⟨10,2,g.bp.er,[(4,some 8)]⟩:=by kernel_rfl
theorem c.fi:zac P F.fi=some ⟨28,2,g.fi.er,[(4,some 8)]⟩:=by kernel_rfl
theorem c.jr:zac P F.jr=some ⟨14,0,g.jr.er,[(0,some 9)]⟩:=by kernel_rfl
theorem c.bs:zac P F.bs=some ⟨21,1,g.bs.er,[(2,none)]⟩:=by kernel_rfl
theorem c.dj:zac P F.dj=some ⟨11,2,g.dj.er,[(4,none)]⟩:=by kernel_rfl
theorem c.dm:zac P F.dm=some ⟨17,3,g.dm.er,[(5,some 8)]⟩:=by kernel_rfl
theorem c.aa:zac P F.aa=some ⟨17,1,g.aa.er,[(2,some 9)]⟩:=by kernel_rfl
theorem c.bq:zac P F.bq=some ⟨19,2,g.bq.er,[(4,none)]⟩:=by kernel_rfl
theorem c.jy:zac P F.jy=some ⟨12,1,g.jy.er,[(2,some 8)]⟩:=by kernel_rfl
theorem c.ju:zac P F.ju=some ⟨2,0,g.ju.er,[(0,some 9)]⟩:=by kernel_rfl
theorem c.dq:zac P F.dq=some ⟨13,1,g.dq.er,[(2,none)]⟩:=by kernel_rfl
theorem c.dr:zac P F.dr=some ⟨2,0,g.dr.er,[(0,some 8)]⟩:=by kernel_rfl
theorem c.dt:zac P F.dt=some ⟨11,2,g.dt.er,[(4,some 8)]⟩:=by kernel_rfl
theorem c.db:zac P F.db=some ⟨2,0,g.db.er,[(0,some 9)]⟩:=by kernel_rfl
theorem c.dg:zac P F.dg=some ⟨13,1,g.dg.er,[(2,none)]⟩:=by kernel_rfl
theorem c.an:zac P F.an=some ⟨2,0,g.an.er,[(0,some 8)]⟩:=by kernel_rfl
theorem c.dh:zac P F.dh=some ⟨11,2,g.dh.er,[(4,some 8)]⟩:=by kernel_rfl
theorem c.fh:zac P F.fh=some ⟨24,2,g.fh.er,[(4,none)]⟩:=by kernel_rfl
theorem c.jt:zac P F.jt=some ⟨10,0,g.jt.er,[(0,some 9)]⟩:=by kernel_rfl
theorem c.bu:zac P F.bu=some ⟨8,1,g.bu.er,[(2,none)]⟩:=by kernel_rfl
theorem c.bv:zac P F.bv=some ⟨2,0,g.bv.er,[(0,some 8)]⟩:=by kernel_rfl
theorem c.bw:zac P F.bw=some ⟨11,2,g.bw.er,[(4,some 8)]⟩:=by kernel_rfl
theorem c.fk:zac P F.fk=some ⟨9,1,g.fk.er,[(2,none)]⟩:=by kernel_rfl
theorem c.di:zac P F.di=some ⟨4,1,g.di.er,[(2,none)]⟩:=by kernel_rfl
theorem c.jm:zac P F.jm=some ⟨11,2,g.jm.er,[(4,some 8)]⟩:=by kernel_rfl
theorem c.a8:zac P F.a8=some ⟨8,1,g.a8.er,[(2,none)]⟩:=by kernel_rfl
theorem c.ax:zac P F.ax=some ⟨8,1,g.ax.er,[(2,none)]⟩:=by kernel_rfl
theorem c.ak:zac P F.ak=some ⟨8,1,g.ak.er,[(2,none)]⟩:=by kernel_rfl
theorem c.j5:zac P F.j5=some ⟨36,1,g.j5.er,[(2,none)]⟩:=by kernel_rfl
theorem c.i9:zac P F.i9=some ⟨9,2,g.i9.er,[(4,none)]⟩:=by kernel_rfl
theorem c.jl:zac P F.jl=some ⟨9,2,g.jl.er,[(4,none)]⟩:=by kernel_rfl
theorem c.jj:zac P F.jj=some ⟨9,2,g.jj.er,[(4,none)]⟩:=by kernel_rfl
theorem c.je:zac P F.je=some ⟨42,2,g.je.er,[(4,none)]⟩:=by kernel_rfl
theorem c.jg:zac P F.jg=some ⟨32,3,g.jg.er,[(6,none)]⟩:=by kernel_rfl
theorem c.jh:zac P F.jh=some ⟨32,3,g.jh.er,[(6,none)]⟩:=by kernel_rfl
theorem c.jp:zac P F.jp=some ⟨26,2,g.jp.er,[(4,none)]⟩:=by kernel_rfl
theorem c.j6:zac P F.j6=some ⟨27,2,g.j6.er,[(4,none)]⟩:=by kernel_rfl
theorem c.fo:zac P F.fo=some ⟨19,2,g.fo.er,[(4,none)]⟩:=by kernel_rfl
theorem c.jw:zac P F.jw=some ⟨19,2,g.jw.er,[(4,none)]⟩:=by kernel_rfl
theorem c.jv:zac P F.jv=some ⟨19,2,g.jv.er,[(4,none)]⟩:=by kernel_rfl
theorem c.bz:zac P F.bz=some ⟨14,2,g.bz.er,[]⟩:=by kernel_rfl
theorem c.jd:zac P F.jd=some ⟨9,2,g.jd.er,[]⟩:=by kernel_rfl
theorem c.fv:zac P F.fv=some ⟨53,4,g.fv.er,[]⟩:=by kernel_rfl
theorem c.j9:zac P F.j9=some ⟨53,4,g.j9.er,[]⟩:=by kernel_rfl
theorem c.gi:zac P F.gi=some ⟨148,5,g.gi.er,[]⟩:=by kernel_rfl
theorem c.jn:zac P F.jn=some ⟨63,3,g.jn.er,[]⟩:=by kernel_rfl
theorem c.gr:zac P F.gr=some ⟨62,1,g.gr.er,[(2,some 8),(3,none)]⟩:=by kernel_rfl
theorem c.ki:zac P F.ki=some ⟨31,1,g.ki.er,[(2,none)]⟩:=by kernel_rfl
theorem c.ai:zac P F.ai=some ⟨46,5,g.ai.er,[(6,none)]⟩:=by kernel_rfl
theorem c.cg:zac P F.cg=some ⟨14,2,g.cg.er,[(4,none)]⟩:=by kernel_rfl
theorem c.gw:zac P F.gw=some ⟨62,1,g.gw.er,[(2,none)]⟩:=by kernel_rfl
end Go.Ab
