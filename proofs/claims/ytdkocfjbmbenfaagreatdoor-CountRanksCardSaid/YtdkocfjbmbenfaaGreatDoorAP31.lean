/-
Proofs for the law CountRanks, part 31. Conditions: none.
-/
import Derived.Test.YtdkocfjbmbenfaaGreatDoorAP22
import Derived.Test.YtdkocfjbmbenfaaGreatDoorAP23
set_option maxRecDepth 100000
set_option maxHeartbeats 4000000
set_option linter.all false
namespace Go.Ab
open Enc (enc)
attribute [local go_sem] zam Opd.slots
theorem z8w:Sp P F.mf [.int .u64 0] (.pure (.int .i64 0)):=by
 refine Sp.vz c.mf fun _=>?_
 simp [g.mf,go_sem,zvw]
 rw [zga]
 refine ⟨0,by decide +kernel,?_⟩
 have e0:IntKind.i64.wrap 0=0:=by decide +kernel
 simp [go_sem,e0]
theorem z8x:Sp P F.mg [.int .u64 0] (.pure (.int .i64 0)):=by
 refine Sp.vz c.mg fun _=>?_
 simp [g.mg,go_sem]
 refine zaa z8w rfl ?_
 simp [go_sem]
end Go.Ab
