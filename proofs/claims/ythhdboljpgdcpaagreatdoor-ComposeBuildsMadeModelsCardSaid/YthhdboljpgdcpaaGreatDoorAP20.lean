/- Lemmas for the law ComposeBuildsMadeModels, part 20. No conditions. -/
import Derived.Test.YthhdboljpgdcpaaGreatDoorAP15
import Derived.KernelRfl
set_option maxRecDepth 100000
set_option maxHeartbeats 4000000
set_option linter.all false
namespace Go.Ab
open Go.Proofs
def c.ko:aV P 64=zC 26 2 g.ko [(4,none)]:=by kernel_rfl
def c.nq:aV P 252=zC 26 2 g.nq [(4,none)]:=by kernel_rfl
def c.oh:aV P 343=zC 27 2 g.oh [(4,none)]:=by kernel_rfl
def c.l9:aV P 127=zC 19 2 g.l9 [(4,none)]:=by kernel_rfl
def c.nh:aV P 181=zC 19 2 g.nh [(4,none)]:=by kernel_rfl
def c.mn:aV P 157=zC 19 2 g.mn [(4,none)]:=by kernel_rfl
def c.ng:aV P 180=zC 19 2 g.ng [(4,none)]:=by kernel_rfl
def c.d6:aV P 341=zC 14 2 g.d6 []:=by kernel_rfl
def c.ou:aV P 391=zC 53 4 g.ou []:=by kernel_rfl
def c.j9:aV P 372=zC 148 5 g.j9 []:=by kernel_rfl
def c.ai:aV P 24=zC 33 1 g.ai [(2,some 8),(3,none)]:=by kernel_rfl
def c.ee:aV P 27=zC 64 2 g.ee [(4,none)]:=by kernel_rfl
def c.ij:aV P 77=zC 8 2 g.ij [(3,none)]:=by kernel_rfl
def c.kn:aV P 47=zC 103 1 g.kn [(2,none)]:=by kernel_rfl
def c.fb:aV P 73=zC 27 2 g.fb [(4,none)]:=by kernel_rfl
def c.lx:aV P 99=zC 9 1 g.lx [(2,none)]:=by kernel_rfl
def c.lz:aV P 101=zC 17 3 g.lz [(6,none)]:=by kernel_rfl
def c.jg:aV P 143=zC 8 2 g.jg [(3,none)]:=by kernel_rfl
end Go.Ab
