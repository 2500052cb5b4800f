/- Lemmas for the law ProjectApplies, part 10. No conditions. -/
import Derived.Test.YthhdboljpgdcpaaGreatDoorCP07
import Derived.KernelRfl
set_option maxRecDepth 100000
set_option maxHeartbeats 4000000
set_option linter.all false
namespace Go.Ab
open Go.Proofs
def c.oi:aP P 137=zC 10 1 g.oi [(2,none)]:=by kernel_rfl
def c.km:aP P 176=zC 12 1 g.km [(2,none)]:=by kernel_rfl
def c.go:aP P 132=zC 37 3 g.go [(6,some 3)]:=by kernel_rfl
def c.kr:aP P 188=zC 36 2 g.kr [(4,none)]:=by kernel_rfl
def c.nt:aP P 96=zC 26 2 g.nt [(4,none)]:=by kernel_rfl
def c.lg:aP P 260=zC 9 1 g.lg [(2,none)]:=by kernel_rfl
def c.jz:aP P 133=zC 68 2 g.jz [(4,none)]:=by kernel_rfl
def c.de:aP P 177=zC 21 1 g.de [(2,none)]:=by kernel_rfl
def c.nr:aP P 91=zC 24 2 g.nr [(4,none)]:=by kernel_rfl
def c.m8:aP P 60=zC 7 1 g.m8 [(2,none)]:=by kernel_rfl
def c.nj:aP P 84=zC 64 2 g.nj [(4,none)]:=by kernel_rfl
def c.nq:aP P 89=zC 42 2 g.nq [(4,none)]:=by kernel_rfl
def c.gn:aP P 131=zC 30 1 g.gn [(2,none)]:=by kernel_rfl
def c.kg:aP P 173=zC 54 1 g.kg [(2,none)]:=by kernel_rfl
def c.gr:aP P 153=zC 24 2 g.gr [(4,none)]:=by kernel_rfl
def c.ka:aP P 151=zC 26 1 g.ka [(2,none)]:=by kernel_rfl
def c.gl:aP P 112=zC 85 2 g.gl [(4,none)]:=by kernel_rfl
def c.dv:aP P 108=zC 50 2 g.dv [(4,none)]:=by kernel_rfl
def c.cj:aP P 40=zC 69 2 g.cj [(4,none)]:=by kernel_rfl
def c.ch:aP P 31=zC 9 2 g.ch [(4,none)]:=by kernel_rfl
def c.ae:aP P 22=zC 42 1 g.ae [(2,some 8)]:=by kernel_rfl
def c.ah:aP P 130=zC 100 3 g.ah [(6,some 8)]:=by kernel_rfl
def c.jh:aP P 37=zC 38 2 g.jh [(4,none)]:=by kernel_rfl
def c.mm:aP P 38=zC 27 2 g.mm [(4,none)]:=by kernel_rfl
def c.an:aP P 82=zC 48 2 g.an [(4,some 8)]:=by kernel_rfl
def c.aa:aP P 32=zC 97 3 g.aa [(6,some 8)]:=by kernel_rfl
def c.bf:aP P 59=zC 52 1 g.bf [(2,none)]:=by kernel_rfl
def c.ba:aP P 23=zC 31 1 g.ba [(2,some 8)]:=by kernel_rfl
def c.n8:aP P 110=zC 18 2 g.n8 [(4,none)]:=by kernel_rfl
def c.cq:aP P 61=zC 11 2 g.cq [(4,some 2)]:=by kernel_rfl
def c.ai:aP P 149=zC 107 2 g.ai [(4,none)]:=by kernel_rfl
def c.gj:aP P 105=zC 9 1 g.gj [(2,none)]:=by kernel_rfl
def c.gi:aP P 88=zC 40 2 g.gi [(4,none)]:=by kernel_rfl
def c.fx:aP P 53=zC 33 2 g.fx [(4,none)]:=by kernel_rfl
def c.pf:aP P 187=zC 100 2 g.pf [(4,none)]:=by kernel_rfl
def c.gp:aP P 150=zC 26 1 g.gp [(2,some 7)]:=by kernel_rfl
def c.ax:aP P 106=zC 15 3 g.ax [(6,none)]:=by kernel_rfl
def c.dq:aP P 17=zC 86 2 g.dq [(4,none)]:=by kernel_rfl
def c.n7:aP P 109=zC 91 1 g.n7 [(2,none)]:=by kernel_rfl
def c.gk:aP P 107=zC 24 3 g.gk [(6,none)]:=by kernel_rfl
def c.ge:aP P 57=zC 20 2 g.ge [(4,none)]:=by kernel_rfl
def c.pd:aP P 185=zC 9 1 g.pd [(2,some 2)]:=by kernel_rfl
def c.pe:aP P 186=zC 23 2 g.pe [(4,none)]:=by kernel_rfl
def c.nm:aP P 86=zC 59 3 g.nm [(6,none)]:=by kernel_rfl
def c.nn:aP P 87=zC 24 2 g.nn [(4,none)]:=by kernel_rfl
def c.oh:aP P 135=zC 37 2 g.oh [(4,none)]:=by kernel_rfl
def c.ar:aP P 30=zC 58 1 g.ar [(2,some 8)]:=by kernel_rfl
def c.am:aP P 52=zC 105 1 g.am [(2,none)]:=by kernel_rfl
def c.nh:aP P 81=zC 100 2 g.nh [(4,none)]:=by kernel_rfl
def c.ji:aP P 39=zC 24 2 g.ji [(4,none)]:=by kernel_rfl
def c.dm:aP P 10=zC 213 2 g.dm [(4,some 8),(5,none)]:=by kernel_rfl
def c.je:aP P 29=zC 27 2 g.je [(4,none)]:=by kernel_rfl
end Go.Ab
