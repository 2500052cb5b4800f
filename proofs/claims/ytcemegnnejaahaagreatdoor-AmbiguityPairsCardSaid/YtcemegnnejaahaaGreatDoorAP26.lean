/- Lemmas for the law AmbiguityOfDeterministic, part 26. No conditions. -/
import Derived.Test.YtcemegnnejaahaaGreatDoorAP20
set_option maxRecDepth 100000
set_option maxHeartbeats 4000000
set_option linter.all false
namespace Go.Ab
open Enc (enc)
attribute [local simp] zaj Opd.slots
theorem ydg:Sp P F.oj [.int .u64 0] (.pure (.int .i64 0)):=by
 refine Sp.vz c.oj fun _=>?_;simp[g.oj,zxw];rw[zit];refine⟨0,by decide +kernel,?_⟩;have e0:IntKind.i64.wrap 0=0:=by decide +kernel
 simp[e0]
theorem ydh:Sp P F.ol [.int .u64 0] (.pure (.int .i64 0)):=by refine Sp.vz c.ol fun _=>?_;simp[g.ol];refine zaa ydg rfl ?_;simp
end Go.Ab
