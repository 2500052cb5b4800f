/-
Proofs for the law ProjectIdentityWeighs, part 34. Conditions: none.
-/
import Derived.Test.YtalcegbealdigaaGreatDoorBP23
import Derived.Test.YtalcegbealdigaaGreatDoorBP24
import Derived.KernelRfl
set_option maxRecDepth 100000
set_option maxHeartbeats 4000000
set_option linter.all false
namespace Go.Ab
open Go.Proofs
open Enc (enc)
attribute [local go_sem] zas Opd.slots
def g.ni:GC :=
.seq (.reg [⟨some 2,.mv (.c (.p (.int .i64 0))),none⟩] [])
 (.seq (.seq (.reg [⟨some 3,.mv (.t 0),none⟩,⟨some 4,.ibin .geq (.t 3) (.c (.p (.int .u64 4294967296))),none⟩] [[],[3]])
 (.cond (.t 4) [4] (.seq (.reg [⟨some 5,.mv (.t 0),none⟩,⟨some 6,.ibin .shr (.t 5) (.c (.p (.int .u64 32))),none⟩,⟨some 0,.mv (.t 6),none⟩] [[0,2],[5],[6]])
 (.reg [⟨some 2,.mv (.c (.p (.int .i64 32))),none⟩] []))
 (.nop)))
 (.seq (.seq (.reg [⟨some 7,.mv (.t 0),none⟩,⟨some 8,.ibin .geq (.t 7) (.c (.p (.int .u64 65536))),none⟩] [[],[7]])
 (.cond (.t 8) [8] (.seq (.reg [⟨some 9,.mv (.t 0),none⟩,⟨some 10,.ibin .shr (.t 9) (.c (.p (.int .u64 16))),none⟩,⟨some 0,.mv (.t 10),none⟩] [[0],[9],[10]])
 (.reg [⟨some 11,.mv (.t 2),none⟩,⟨some 12,.ibin .add (.t 11) (.c (.p (.int .i64 16))),none⟩,⟨some 2,.mv (.t 12),none⟩] [[2],[11],[12]]))
 (.nop)))
 (.seq (.seq (.reg [⟨some 13,.mv (.t 0),none⟩,⟨some 14,.ibin .geq (.t 13) (.c (.p (.int .u64 256))),none⟩] [[],[13]])
 (.cond (.t 14) [14] (.seq (.reg [⟨some 15,.mv (.t 0),none⟩,⟨some 16,.ibin .shr (.t 15) (.c (.p (.int .u64 8))),none⟩,⟨some 0,.mv (.t 16),none⟩] [[0],[15],[16]])
 (.reg [⟨some 17,.mv (.t 2),none⟩,⟨some 18,.ibin .add (.t 17) (.c (.p (.int .i64 8))),none⟩,⟨some 2,.mv (.t 18),none⟩] [[2],[17],[18]]))
 (.nop)))
 (.seq (.reg [⟨some 19,.mv (.t 2),none⟩,⟨some 20,.mv (.t 0),none⟩,⟨some 21,.conv .u8 (.t 20),none⟩,⟨some 22,.sidx (.c (.p (.str (bya [0,1,2,2,3,3,3,3,4,4,4,4,4,4,4,4,5,5,5,5,5,5,5,5,5,5,5,5,5,5,5,5,6,6,6,6,6,6,6,6,6,6,6,6,6,6,6,6,6,6,6,6,6,6,6,6,6,6,6,6,6,6,6,6,7,7,7,7,7,7,7,7,7,7,7,7,7,7,7,7,7,7,7,7,7,7,7,7,7,7,7,7,7,7,7,7,7,7,7,7,7,7,7,7,7,7,7,7,7,7,7,7,7,7,7,7,7,7,7,7,7,7,7,7,7,7,7,7,8,8,8,8,8,8,8,8,8,8,8,8,8,8,8,8,8,8,8,8,8,8,8,8,8,8,8,8,8,8,8,8,8,8,8,8,8,8,8,8,8,8,8,8,8,8,8,8,8,8,8,8,8,8,8,8,8,8,8,8,8,8,8,8,8,8,8,8,8,8,8,8,8,8,8,8,8,8,8,8,8,8,8,8,8,8,8,8,8,8,8,8,8,8,8,8,8,8,8,8,8,8,8,8,8,8,8,8,8,8,8,8,8,8,8,8,8,8,8,8,8,8,8,8,8,8,8,8])))) (.t 21),none⟩,⟨some 23,.conv .i64 (.t 22),none⟩,⟨some 24,.ibin .add (.t 19) (.t 23),none⟩,⟨some 2,.mv (.t 24),none⟩] [[2],[0],[20],[21],[22],[19,23],[24]])
 (.ret)))))
theorem c.ni:zac P F.ni=some ⟨25,1,g.ni.er,[(2,none)]⟩:=by kernel_rfl
theorem z9f:Sp P F.ni [.int .u64 0] (.pure (.int .i64 0)):=by
 refine Sp.vz c.ni fun _=>?_
 simp [g.ni,go_sem,zwy]
 rw [zer]
 refine ⟨0,by decide +kernel,?_⟩
 have e0:IntKind.i64.wrap 0=0:=by decide +kernel
 simp [go_sem,e0]
theorem z9g:Sp P F.nj [.int .u64 0] (.pure (.int .i64 0)):=by
 refine Sp.vz c.nj fun _=>?_
 simp [g.nj,go_sem]
 refine zaa z9f rfl ?_
 simp [go_sem]
end Go.Ab
