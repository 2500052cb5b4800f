/- Lemmas for the law AmbiguityOfDeterministic, part 15. No conditions. -/
import Derived.Test.YtcemegnnejaahaaGreatDoorAP13
import Derived.KernelRfl
set_option maxRecDepth 100000
set_option maxHeartbeats 4000000
set_option linter.all false
namespace Go.Ab
open Go.Proofs
theorem c.j0:zac P F.j0=some ⟨15,1,g.j0.er,[(2,none)]⟩:=by kernel_rfl
theorem c.od:zac P F.od=some ⟨32,1,g.od.er,[(2,none)]⟩:=by kernel_rfl
theorem c.jx:zac P F.jx=some ⟨21,2,g.jx.er,[(4,none)]⟩:=by kernel_rfl
theorem c.oe:zac P F.oe=some ⟨16,3,g.oe.er,[]⟩:=by kernel_rfl
theorem c.jy:zac P F.jy=some ⟨25,1,g.jy.er,[(2,none)]⟩:=by kernel_rfl
theorem c.b8:zac P F.b8=some ⟨10,2,g.b8.er,[(4,none)]⟩:=by kernel_rfl
theorem c.jz:zac P F.jz=some ⟨6,1,g.jz.er,[(2,none)]⟩:=by kernel_rfl
theorem c.bk:zac P F.bk=some ⟨11,2,g.bk.er,[(4,some 3)]⟩:=by kernel_rfl
theorem c.ju:zac P F.ju=some ⟨9,2,g.ju.er,[(4,none)]⟩:=by kernel_rfl
theorem c.ct:zac P F.ct=some ⟨30,2,g.ct.er,[(4,some 3),(5,none)]⟩:=by kernel_rfl
theorem c.da:zac P F.da=some ⟨14,1,g.da.er,[(2,none)]⟩:=by kernel_rfl
theorem c.n8:zac P F.n8=some ⟨12,2,g.n8.er,[(4,some 3)]⟩:=by kernel_rfl
theorem c.fh:zac P F.fh=some ⟨48,1,g.fh.er,[(2,none)]⟩:=by kernel_rfl
theorem c.oh:zac P F.oh=some ⟨11,1,g.oh.er,[(2,some 3)]⟩:=by kernel_rfl
theorem c.g8:zac P F.g8=some ⟨53,2,g.g8.er,[(4,some 3)]⟩:=by kernel_rfl
theorem c.eq:zac P F.eq=some ⟨45,1,g.eq.er,[(2,some 3)]⟩:=by kernel_rfl
theorem c.bg:zac P F.bg=some ⟨14,2,g.bg.er,[(4,none)]⟩:=by kernel_rfl
theorem c.am:zac P F.am=some ⟨21,1,g.am.er,[(2,none)]⟩:=by kernel_rfl
theorem c.db:zac P F.db=some ⟨34,2,g.db.er,[(4,none)]⟩:=by kernel_rfl
theorem c.i6:zac P F.i6=some ⟨19,2,g.i6.er,[(4,none)]⟩:=by kernel_rfl
theorem c.fk:zac P F.fk=some ⟨45,2,g.fk.er,[(4,none)]⟩:=by kernel_rfl
theorem c.mq:zac P F.mq=some ⟨17,1,g.mq.er,[(2,none)]⟩:=by kernel_rfl
theorem c.fi:zac P F.fi=some ⟨36,2,g.fi.er,[(4,none)]⟩:=by kernel_rfl
theorem c.i7:zac P F.i7=some ⟨111,2,g.i7.er,[(4,none),(5,none)]⟩:=by kernel_rfl
theorem c.mc:zac P F.mc=some ⟨39,2,g.mc.er,[(4,none)]⟩:=by kernel_rfl
theorem c.mu:zac P F.mu=some ⟨33,2,g.mu.er,[(4,none)]⟩:=by kernel_rfl
theorem c.mo:zac P F.mo=some ⟨43,2,g.mo.er,[(4,none),(5,none)]⟩:=by kernel_rfl
theorem c.i9:zac P F.i9=some ⟨59,2,g.i9.er,[(4,none)]⟩:=by kernel_rfl
theorem c.fc:zac P F.fc=some ⟨27,1,g.fc.er,[(2,some 3)]⟩:=by kernel_rfl
theorem c.fg:zac P F.fg=some ⟨2,0,g.fg.er,[(0,none)]⟩:=by kernel_rfl
theorem c.mw:zac P F.mw=some ⟨15,1,g.mw.er,[(2,none)]⟩:=by kernel_rfl
theorem c.ky:zac P F.ky=some ⟨20,1,g.ky.er,[(2,none),(3,none)]⟩:=by kernel_rfl
theorem c.d9:zac P F.d9=some ⟨59,2,g.d9.er,[(4,some 3)]⟩:=by kernel_rfl
theorem c.aj:zac P F.aj=some ⟨9,2,g.aj.er,[(4,none)]⟩:=by kernel_rfl
theorem c.iy:zac P F.iy=some ⟨9,2,g.iy.er,[(4,none)]⟩:=by kernel_rfl
theorem c.ai:zac P F.ai=some ⟨21,2,g.ai.er,[(4,some 3),(5,none)]⟩:=by kernel_rfl
theorem c.k9:zac P F.k9=some ⟨16,1,g.k9.er,[(2,some 3)]⟩:=by kernel_rfl
theorem c.l8:zac P F.l8=some ⟨14,2,g.l8.er,[(4,some 3)]⟩:=by kernel_rfl
theorem c.ff:zac P F.ff=some ⟨24,2,g.ff.er,[(4,none)]⟩:=by kernel_rfl
theorem c.c9:zac P F.c9=some ⟨13,1,g.c9.er,[(2,none)]⟩:=by kernel_rfl
theorem c.kf:zac P F.kf=some ⟨9,2,g.kf.er,[(4,some 3)]⟩:=by kernel_rfl
theorem c.bs:zac P F.bs=some ⟨16,1,g.bs.er,[(2,some 3)]⟩:=by kernel_rfl
theorem c.bc:zac P F.bc=some ⟨65,1,g.bc.er,[(2,none)]⟩:=by kernel_rfl
theorem c.ke:zac P F.ke=some ⟨12,1,g.ke.er,[(2,none)]⟩:=by kernel_rfl
theorem c.ik:zac P F.ik=some ⟨45,2,g.ik.er,[(4,none)]⟩:=by kernel_rfl
theorem c.ld:zac P F.ld=some ⟨10,1,g.ld.er,[(2,none)]⟩:=by kernel_rfl
theorem c.ic:zac P F.ic=some ⟨58,2,g.ic.er,[(4,none),(5,none)]⟩:=by kernel_rfl
theorem c.g9:zac P F.g9=some ⟨19,2,g.g9.er,[(4,none)]⟩:=by kernel_rfl
theorem c.ja:zac P F.ja=some ⟨14,2,g.ja.er,[(4,none)]⟩:=by kernel_rfl
theorem c.im:zac P F.im=some ⟨35,2,g.im.er,[(4,none)]⟩:=by kernel_rfl
theorem c.kd:zac P F.kd=some ⟨10,1,g.kd.er,[(2,none)]⟩:=by kernel_rfl
theorem c.ig:zac P F.ig=some ⟨12,1,g.ig.er,[(2,none)]⟩:=by kernel_rfl
end Go.Ab
