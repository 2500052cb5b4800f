/- Lemmas for the law AmbiguityCounts, part 25. No conditions. -/
import Derived.Test.YtcemegnnejaahaaGreatDoorDP19
set_option maxRecDepth 100000
set_option maxHeartbeats 4000000
set_option linter.all false
namespace Go.Ab
open Enc (enc)
attribute [local simp] zai Opd.slots
theorem z6w:Sp P F.lh [.int .u64 0] (.pure (.int .i64 0)):=by
 refine Sp.vz c.lh fun _=>?_;simp[g.lh,zts];rw[zeb];refine⟨0,by decide +kernel,?_⟩;have e0:IntKind.i64.wrap 0=0:=by decide +kernel
 simp[e0]
theorem z6x:Sp P F.lj [.int .u64 0] (.pure (.int .i64 0)):=by refine Sp.vz c.lj fun _=>?_;simp[g.lj];refine zaa z6w rfl ?_;simp
end Go.Ab
