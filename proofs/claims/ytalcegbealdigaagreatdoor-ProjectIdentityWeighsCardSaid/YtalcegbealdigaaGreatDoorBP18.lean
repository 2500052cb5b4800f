/-
Proofs for the law ProjectIdentityWeighs, part 18. Conditions: none.
-/
import Derived.Test.YtalcegbealdigaaGreatDoorBP17
import Derived.KernelRfl
set_option maxRecDepth 100000
set_option maxHeartbeats 4000000
set_option linter.all false
namespace Go.Ab
open Go.Proofs
theorem c.cq:zac P F.cq=some ⟨24,2,g.cq.er,[(4,none)]⟩:=by kernel_rfl
theorem c.gj:zac P F.gj=some ⟨9,2,g.gj.er,[(4,none)]⟩:=by kernel_rfl
theorem c.ke:zac P F.ke=some ⟨31,1,g.ke.er,[(2,some 7),(3,none)]⟩:=by kernel_rfl
theorem c.ky:zac P F.ky=some ⟨64,2,g.ky.er,[(4,none)]⟩:=by kernel_rfl
theorem c.ii:zac P F.ii=some ⟨8,2,g.ii.er,[(3,none)]⟩:=by kernel_rfl
theorem c.fv:zac P F.fv=some ⟨65,1,g.fv.er,[(2,none)]⟩:=by kernel_rfl
theorem c.gh:zac P F.gh=some ⟨8,2,g.gh.er,[(3,none)]⟩:=by kernel_rfl
theorem c.km:zac P F.km=some ⟨36,2,g.km.er,[(4,none)]⟩:=by kernel_rfl
theorem c.lh:zac P F.lh=some ⟨12,2,g.lh.er,[(3,none)]⟩:=by kernel_rfl
theorem c.bz:zac P F.bz=some ⟨22,2,g.bz.er,[(4,none)]⟩:=by kernel_rfl
theorem c.kx:zac P F.kx=some ⟨9,1,g.kx.er,[(2,some 2)]⟩:=by kernel_rfl
theorem c.kn:zac P F.kn=some ⟨9,2,g.kn.er,[(4,none)]⟩:=by kernel_rfl
theorem c.gz:zac P F.gz=some ⟨8,2,g.gz.er,[(3,none)]⟩:=by kernel_rfl
theorem c.dj:zac P F.dj=some ⟨20,2,g.dj.er,[(4,none)]⟩:=by kernel_rfl
theorem c.ig:zac P F.ig=some ⟨18,1,g.ig.er,[(2,none)]⟩:=by kernel_rfl
theorem c.mj:zac P F.mj=some ⟨6,1,g.mj.er,[(2,none)]⟩:=by kernel_rfl
theorem c.nq:zac P F.nq=some ⟨100,4,g.nq.er,[(8,none)]⟩:=by kernel_rfl
theorem c.jo:zac P F.jo=some ⟨44,0,g.jo.er,[(0,none)]⟩:=by kernel_rfl
theorem c.ai:zac P F.ai=some ⟨15,2,g.ai.er,[(4,none)]⟩:=by kernel_rfl
theorem c.jq:zac P F.jq=some ⟨114,4,g.jq.er,[(8,some 7)]⟩:=by kernel_rfl
theorem c.j7:zac P F.j7=some ⟨11,1,g.j7.er,[(2,some 3)]⟩:=by kernel_rfl
theorem c.jl:zac P F.jl=some ⟨18,1,g.jl.er,[(2,some 2)]⟩:=by kernel_rfl
theorem c.aj:zac P F.aj=some ⟨83,2,g.aj.er,[(4,some 8)]⟩:=by kernel_rfl
theorem c.bq:zac P F.bq=some ⟨31,3,g.bq.er,[(6,none)]⟩:=by kernel_rfl
theorem c.fh:zac P F.fh=some ⟨28,4,g.fh.er,[(8,some 8)]⟩:=by kernel_rfl
theorem c.nk:zac P F.nk=some ⟨6,1,g.nk.er,[(2,none)]⟩:=by kernel_rfl
theorem c.nj:zac P F.nj=some ⟨8,1,g.nj.er,[(2,none)]⟩:=by kernel_rfl
theorem c.fc:zac P F.fc=some ⟨19,1,g.fc.er,[(2,none)]⟩:=by kernel_rfl
theorem c.mo:zac P F.mo=some ⟨29,2,g.mo.er,[(4,none)]⟩:=by kernel_rfl
theorem c.i7:zac P F.i7=some ⟨32,1,g.i7.er,[(2,none)]⟩:=by kernel_rfl
theorem c.jj:zac P F.jj=some ⟨15,1,g.jj.er,[(2,none)]⟩:=by kernel_rfl
theorem c.mw:zac P F.mw=some ⟨32,1,g.mw.er,[(2,none)]⟩:=by kernel_rfl
theorem c.jf:zac P F.jf=some ⟨21,2,g.jf.er,[(4,none)]⟩:=by kernel_rfl
theorem c.my:zac P F.my=some ⟨16,3,g.my.er,[]⟩:=by kernel_rfl
theorem c.jg:zac P F.jg=some ⟨25,1,g.jg.er,[(2,none)]⟩:=by kernel_rfl
theorem c.bp:zac P F.bp=some ⟨10,2,g.bp.er,[(4,none)]⟩:=by kernel_rfl
theorem c.jh:zac P F.jh=some ⟨6,1,g.jh.er,[(2,none)]⟩:=by kernel_rfl
theorem c.jr:zac P F.jr=some ⟨52,1,g.jr.er,[(2,some 8),(3,none)]⟩:=by kernel_rfl
theorem c.fe:zac P F.fe=some ⟨10,1,g.fe.er,[(2,some 7),(3,none)]⟩:=by kernel_rfl
theorem c.fk:zac P F.fk=some ⟨5,1,g.fk.er,[(2,none)]⟩:=by kernel_rfl
theorem c.jm:zac P F.jm=some ⟨10,1,g.jm.er,[(2,some 7),(3,none)]⟩:=by kernel_rfl
theorem c.fm:zac P F.fm=some ⟨5,1,g.fm.er,[(2,none)]⟩:=by kernel_rfl
theorem c.fj:zac P F.fj=some ⟨52,3,g.fj.er,[(6,some 7),(7,none)]⟩:=by kernel_rfl
theorem c.du:zac P F.du=some ⟨11,2,g.du.er,[(4,some 3)]⟩:=by kernel_rfl
theorem c.iz:zac P F.iz=some ⟨9,2,g.iz.er,[(4,none)]⟩:=by kernel_rfl
theorem c.jc:zac P F.jc=some ⟨30,2,g.jc.er,[(4,some 3),(5,none)]⟩:=by kernel_rfl
theorem c.cd:zac P F.cd=some ⟨14,1,g.cd.er,[(2,none)]⟩:=by kernel_rfl
theorem c.mu:zac P F.mu=some ⟨12,2,g.mu.er,[(4,some 3)]⟩:=by kernel_rfl
theorem c.dr:zac P F.dr=some ⟨48,1,g.dr.er,[(2,none)]⟩:=by kernel_rfl
theorem c.nc:zac P F.nc=some ⟨11,1,g.nc.er,[(2,some 3)]⟩:=by kernel_rfl
theorem c.jd:zac P F.jd=some ⟨53,2,g.jd.er,[(4,some 3)]⟩:=by kernel_rfl
end Go.Ab
