/-
Proofs for the law CountGoesOn, part 31. Conditions: none.
-/
import Derived.Test.YtdkocfjbmbenfaaGreatDoorCP22
import Derived.Test.YtdkocfjbmbenfaaGreatDoorCP23
set_option maxRecDepth 100000
set_option maxHeartbeats 4000000
set_option linter.all false
namespace Go.Ab
open Enc (enc)
attribute [local go_sem] zam Opd.slots
theorem z9w:Sp P F.mg [.int .u64 0] (.pure (.int .i64 0)):=by
 refine Sp.vz c.mg fun _=>?_
 simp [g.mg,go_sem,zwf]
 rw [zgf]
 refine ⟨0,by decide +kernel,?_⟩
 have e0:IntKind.i64.wrap 0=0:=by decide +kernel
 simp [go_sem,e0]
theorem z9x:Sp P F.mh [.int .u64 0] (.pure (.int .i64 0)):=by
 refine Sp.vz c.mh fun _=>?_
 simp [g.mh,go_sem]
 refine zaa z9w rfl ?_
 simp [go_sem]
end Go.Ab
