/- Lemmas for the law AmbiguityCounts, part 17. No conditions. -/
import Derived.Test.YtcemegnnejaahaaGreatDoorDP13
import Derived.KernelRfl
set_option maxRecDepth 100000
set_option maxHeartbeats 4000000
set_option linter.all false
namespace Go.Ab
open Go.Proofs
theorem c.kj:zac P F.kj=some ⟨63,3,g.kj.er,[]⟩:=by kernel_rfl
theorem c.i9:zac P F.i9=some ⟨62,1,g.i9.er,[(2,some 8),(3,none)]⟩:=by kernel_rfl
theorem c.fh:zac P F.fh=some ⟨88,5,g.fh.er,[(10,none),(11,none)]⟩:=by kernel_rfl
theorem c.bh:zac P F.bh=some ⟨24,5,g.bh.er,[]⟩:=by kernel_rfl
theorem c.a8:zac P F.a8=some ⟨14,2,g.a8.er,[(4,none)]⟩:=by kernel_rfl
theorem c.ja:zac P F.ja=some ⟨17,1,g.ja.er,[(2,none)]⟩:=by kernel_rfl
theorem c.jk:zac P F.jk=some ⟨52,1,g.jk.er,[(2,none)]⟩:=by kernel_rfl
theorem c.bb:zac P F.bb=some ⟨14,2,g.bb.er,[(4,none)]⟩:=by kernel_rfl
theorem c.jg:zac P F.jg=some ⟨20,2,g.jg.er,[(4,none)]⟩:=by kernel_rfl
theorem c.ec:zac P F.ec=some ⟨42,3,g.ec.er,[(6,none)]⟩:=by kernel_rfl
theorem c.jc:zac P F.jc=some ⟨75,1,g.jc.er,[(2,none)]⟩:=by kernel_rfl
theorem c.ef:zac P F.ef=some ⟨11,2,g.ef.er,[(4,none)]⟩:=by kernel_rfl
theorem c.i6:zac P F.i6=some ⟨31,2,g.i6.er,[(4,some 7),(5,none)]⟩:=by kernel_rfl
theorem c.fg:zac P F.fg=some ⟨6,1,g.fg.er,[(2,none)]⟩:=by kernel_rfl
theorem c.i7:zac P F.i7=some ⟨138,1,g.i7.er,[]⟩:=by kernel_rfl
theorem c.ee:zac P F.ee=some ⟨120,5,g.ee.er,[]⟩:=by kernel_rfl
theorem c.ig:zac P F.ig=some ⟨185,3,g.ig.er,[(6,some 7)]⟩:=by kernel_rfl
theorem c.ae:zac P F.ae=some ⟨35,2,g.ae.er,[(4,none)]⟩:=by kernel_rfl
theorem c.az:zac P F.az=some ⟨16,2,g.az.er,[(4,none)]⟩:=by kernel_rfl
theorem c.im:zac P F.im=some ⟨31,3,g.im.er,[(6,none)]⟩:=by kernel_rfl
theorem c.cq:zac P F.cq=some ⟨41,2,g.cq.er,[(4,some 8)]⟩:=by kernel_rfl
theorem c.eb:zac P F.eb=some ⟨32,2,g.eb.er,[(4,none)]⟩:=by kernel_rfl
end Go.Ab
