/- Lemmas for the law ProjectApplies, part 19. No conditions. -/
import Derived.Test.YthhdboljpgdcpaaGreatDoorCP15
set_option maxRecDepth 100000
set_option maxHeartbeats 4000000
set_option linter.all false
namespace Go.Ab
open Enc (enc)
attribute [local simp] iJ bP.aY
def yf8:zS 366 [.int .u64 0] (.int .i64 0):=by
 refine Sp.vz c.qg λ_=>?_;simp[g.qg,Ts];rw[lM];refine⟨0,by decide +kernel,?_⟩;have a:IntKind.i64.wrap 0=0:=by decide +kernel
 simp[a]
def yf9:zS 373 [.int .u64 0] (.int .i64 0):=by refine Sp.vz c.qh λ_=>?_;simp[g.qh];refine bA yf8 rfl ?_;simp
end Go.Ab
