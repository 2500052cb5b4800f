/-
Proofs for the law TransducerWeighsMadeModels, part 33. Conditions: none.
-/
import Derived.Test.YtbhboeijjgiflaaGreatDoorCP23
import Derived.Test.YtbhboeijjgiflaaGreatDoorCP24
set_option maxRecDepth 100000
set_option maxHeartbeats 4000000
set_option linter.all false
namespace Go.Ab
open Enc (enc)
attribute [local go_sem] zal Opd.slots
theorem ycx:Sp P F.my [.int .u64 0] (.pure (.int .i64 0)):=by
 refine Sp.vz c.my fun _=>?_;simp[g.my,go_sem,zyl];rw[zbx];refine⟨0,by decide +kernel,?_⟩;have e0:IntKind.i64.wrap 0=0:=by decide +kernel
 simp[go_sem,e0]
theorem ycy:Sp P F.m8 [.int .u64 0] (.pure (.int .i64 0)):=by refine Sp.vz c.m8 fun _=>?_;simp[g.m8,go_sem];refine zaa ycx rfl ?_;simp[go_sem]
end Go.Ab
