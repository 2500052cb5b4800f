/- Lemmas for the law ComposeBuildsMadeModels, part 30. No conditions. -/
import Derived.Test.YthhdboljpgdcpaaGreatDoorAP22
set_option maxRecDepth 100000
set_option maxHeartbeats 4000000
set_option linter.all false
namespace Go.Ab
open Enc (enc)
attribute [local simp] fX bL.aR
def Z8:zS 366 [.int .u64 0] (.int .i64 0):=by
 refine Sp.vz c.om λ_=>?_;simp[g.om,NS];rw[lM];refine⟨0,by decide +kernel,?_⟩;have a:IntKind.i64.wrap 0=0:=by decide +kernel
 simp[a]
def Z7:zS 373 [.int .u64 0] (.int .i64 0):=by refine Sp.vz c.oq λ_=>?_;simp[g.oq];refine bF Z8 rfl ?_;simp
end Go.Ab
