/- Lemmas for the law ProjectApplies, part 13. No conditions. -/
import Derived.Test.YthhdboljpgdcpaaGreatDoorCP07
import Derived.KernelRfl
set_option maxRecDepth 100000
set_option maxHeartbeats 4000000
set_option linter.all false
namespace Go.Ab
open Go.Proofs
def c.ln:aP P 307=zC 63 3 g.ln []:=by kernel_rfl
def c.aj:aP P 24=zC 33 1 g.aj [(2,some 8),(3,none)]:=by kernel_rfl
def c.fm:aP P 27=zC 64 2 g.fm [(4,none)]:=by kernel_rfl
def c.jn:aP P 77=zC 8 2 g.jn [(3,none)]:=by kernel_rfl
def c.ck:aP P 47=zC 103 1 g.ck [(2,none)]:=by kernel_rfl
def c.gh:aP P 73=zC 27 2 g.gh [(4,none)]:=by kernel_rfl
def c.n4:aP P 99=zC 9 1 g.n4 [(2,none)]:=by kernel_rfl
def c.n5:aP P 101=zC 17 3 g.n5 [(6,none)]:=by kernel_rfl
def c.j7:aP P 143=zC 8 2 g.j7 [(3,none)]:=by kernel_rfl
def c.fv:aP P 48=zC 32 2 g.fv [(4,none)]:=by kernel_rfl
end Go.Ab
