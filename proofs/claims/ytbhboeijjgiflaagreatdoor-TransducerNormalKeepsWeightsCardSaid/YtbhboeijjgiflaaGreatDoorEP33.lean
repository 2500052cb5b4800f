/-
Proofs for the law TransducerNormalKeepsWeights, part 33. Conditions: none.
-/
import Derived.Test.YtbhboeijjgiflaaGreatDoorEP23
import Derived.Test.YtbhboeijjgiflaaGreatDoorEP24
set_option maxRecDepth 100000
set_option maxHeartbeats 4000000
set_option linter.all false
namespace Go.Ab
open Enc (enc)
attribute [local go_sem] zal Opd.slots
theorem yay:Sp P F.l4 [.int .u64 0] (.pure (.int .i64 0)):=by
 refine Sp.vz c.l4 fun _=>?_
 simp [g.l4,go_sem,zw5]
 rw [zcn]
 refine ⟨0,by decide +kernel,?_⟩
 have e0:IntKind.i64.wrap 0=0:=by decide +kernel
 simp [go_sem,e0]
theorem yaz:Sp P F.l5 [.int .u64 0] (.pure (.int .i64 0)):=by
 refine Sp.vz c.l5 fun _=>?_
 simp [g.l5,go_sem]
 refine zaa yay rfl ?_
 simp [go_sem]
end Go.Ab
