/-
Proofs for the law CountIsFinite, part 31. Conditions: none.
-/
import Derived.Test.YtdkocfjbmbenfaaGreatDoorDP22
import Derived.Test.YtdkocfjbmbenfaaGreatDoorDP23
set_option maxRecDepth 100000
set_option maxHeartbeats 4000000
set_option linter.all false
namespace Go.Ab
open Enc (enc)
attribute [local go_sem] zal Opd.slots
theorem z4w:Sp P F.j7 [.int .u64 0] (.pure (.int .i64 0)):=by
 refine Sp.vz c.j7 fun _=>?_
 simp [g.j7,go_sem,zte]
 rw [zgw]
 refine ⟨0,by decide +kernel,?_⟩
 have e0:IntKind.i64.wrap 0=0:=by decide +kernel
 simp [go_sem,e0]
theorem z4x:Sp P F.j8 [.int .u64 0] (.pure (.int .i64 0)):=by
 refine Sp.vz c.j8 fun _=>?_
 simp [g.j8,go_sem]
 refine zaa z4w rfl ?_
 simp [go_sem]
end Go.Ab
