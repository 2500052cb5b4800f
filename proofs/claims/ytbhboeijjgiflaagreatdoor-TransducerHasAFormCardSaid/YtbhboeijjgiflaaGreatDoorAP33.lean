/-
Proofs for the law TransducerHasAForm, part 33. Conditions: none.
-/
import Derived.Test.YtbhboeijjgiflaaGreatDoorAP23
import Derived.Test.YtbhboeijjgiflaaGreatDoorAP24
set_option maxRecDepth 100000
set_option maxHeartbeats 4000000
set_option linter.all false
namespace Go.Ab
open Enc (enc)
attribute [local go_sem] zal Opd.slots
theorem yaa:Sp P F.mo [.int .u64 0] (.pure (.int .i64 0)):=by
 refine Sp.vz c.mo fun _=>?_
 simp [g.mo,go_sem,zwo]
 rw [zck]
 refine ⟨0,by decide +kernel,?_⟩
 have e0:IntKind.i64.wrap 0=0:=by decide +kernel
 simp [go_sem,e0]
theorem yab:Sp P F.mq [.int .u64 0] (.pure (.int .i64 0)):=by
 refine Sp.vz c.mq fun _=>?_
 simp [g.mq,go_sem]
 refine zaa yaa rfl ?_
 simp [go_sem]
end Go.Ab
