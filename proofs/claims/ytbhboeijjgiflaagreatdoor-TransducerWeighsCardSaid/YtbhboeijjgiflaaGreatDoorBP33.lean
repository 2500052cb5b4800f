/-
Proofs for the law TransducerWeighs, part 33. Conditions: none.
-/
import Derived.Test.YtbhboeijjgiflaaGreatDoorBP23
import Derived.Test.YtbhboeijjgiflaaGreatDoorBP24
set_option maxRecDepth 100000
set_option maxHeartbeats 4000000
set_option linter.all false
namespace Go.Ab
open Enc (enc)
attribute [local go_sem] zal Opd.slots
theorem ya8:Sp P F.mo [.int .u64 0] (.pure (.int .i64 0)):=by
 refine Sp.vz c.mo fun _=>?_;simp [g.mo,go_sem,zxm];rw [zbt];refine ⟨0,by decide +kernel,?_⟩;have e0:IntKind.i64.wrap 0=0:=by decide +kernel
 simp [go_sem,e0]
theorem ya9:Sp P F.mq [.int .u64 0] (.pure (.int .i64 0)):=by refine Sp.vz c.mq fun _=>?_;simp [g.mq,go_sem];refine zaa ya8 rfl ?_;simp [go_sem]
end Go.Ab
