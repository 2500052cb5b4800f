/-
Proofs for the law TransducerSumsPaths, part 33. Conditions: none.
-/
import Derived.Test.YtbhboeijjgiflaaGreatDoorDP23
import Derived.Test.YtbhboeijjgiflaaGreatDoorDP24
set_option maxRecDepth 100000
set_option maxHeartbeats 4000000
set_option linter.all false
namespace Go.Ab
open Enc (enc)
attribute [local go_sem] zal Opd.slots
theorem ydm:Sp P F.mj [.int .u64 0] (.pure (.int .i64 0)):=by
 refine Sp.vz c.mj fun _=>?_;simp[g.mj,go_sem,zys];rw[zcc];refine⟨0,by decide +kernel,?_⟩;have e0:IntKind.i64.wrap 0=0:=by decide +kernel
 simp[go_sem,e0]
theorem ydn:Sp P F.ml [.int .u64 0] (.pure (.int .i64 0)):=by refine Sp.vz c.ml fun _=>?_;simp[g.ml,go_sem];refine zaa ydm rfl ?_;simp[go_sem]
end Go.Ab
