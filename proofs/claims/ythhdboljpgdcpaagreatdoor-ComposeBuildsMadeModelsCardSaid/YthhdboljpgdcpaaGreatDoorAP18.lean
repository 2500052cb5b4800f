/- Lemmas for the law ComposeBuildsMadeModels, part 18. No conditions. -/
import Derived.Test.YthhdboljpgdcpaaGreatDoorAP15
import Derived.KernelRfl
set_option maxRecDepth 100000
set_option maxHeartbeats 4000000
set_option linter.all false
namespace Go.Ab
open Go.Proofs
def c.lk:aV P 92=zC 9 2 g.lk [(4,none)]:=by kernel_rfl
def c.fi:aV P 131=zC 30 1 g.fi [(2,none)]:=by kernel_rfl
def c.jm:aV P 173=zC 54 1 g.jm [(2,none)]:=by kernel_rfl
def c.fk:aV P 153=zC 24 2 g.fk [(4,none)]:=by kernel_rfl
def c.jh:aV P 151=zC 26 1 g.jh [(2,none)]:=by kernel_rfl
def c.ff:aV P 112=zC 85 2 g.ff [(4,none)]:=by kernel_rfl
def c.fe:aV P 108=zC 50 2 g.fe [(4,none)]:=by kernel_rfl
def c.bz:aV P 40=zC 69 2 g.bz [(4,none)]:=by kernel_rfl
def c.cq:aV P 31=zC 9 2 g.cq [(4,none)]:=by kernel_rfl
def c.ae:aV P 22=zC 42 1 g.ae [(2,some 8)]:=by kernel_rfl
def c.ah:aV P 130=zC 100 3 g.ah [(6,some 8)]:=by kernel_rfl
def c.ia:aV P 37=zC 38 2 g.ia [(4,none)]:=by kernel_rfl
def c.km:aV P 38=zC 27 2 g.km [(4,none)]:=by kernel_rfl
def c.ba:aV P 82=zC 48 2 g.ba [(4,some 8)]:=by kernel_rfl
def c.aa:aV P 32=zC 97 3 g.aa [(6,some 8)]:=by kernel_rfl
def c.bj:aV P 59=zC 52 1 g.bj [(2,none)]:=by kernel_rfl
def c.ax:aV P 23=zC 31 1 g.ax [(2,some 8)]:=by kernel_rfl
def c.b7:aV P 61=zC 11 2 g.b7 [(4,some 2)]:=by kernel_rfl
def c.aj:aV P 149=zC 107 2 g.aj [(4,none)]:=by kernel_rfl
def c.l7:aV P 105=zC 9 1 g.l7 [(2,none)]:=by kernel_rfl
def c.io:aV P 88=zC 40 2 g.io [(4,none)]:=by kernel_rfl
def c.ch:aV P 106=zC 15 3 g.ch [(6,none)]:=by kernel_rfl
def c.ir:aV P 107=zC 24 3 g.ir [(6,none)]:=by kernel_rfl
def c.ld:aV P 86=zC 59 3 g.ld [(6,none)]:=by kernel_rfl
def c.lg:aV P 87=zC 24 2 g.lg [(4,none)]:=by kernel_rfl
def c.me:aV P 135=zC 37 2 g.me [(4,none)]:=by kernel_rfl
def c.be:aV P 30=zC 58 1 g.be [(2,some 8)]:=by kernel_rfl
def c.bw:aV P 11=zC 93 2 g.bw [(4,none)]:=by kernel_rfl
def c.bi:aV P 52=zC 105 1 g.bi [(2,none)]:=by kernel_rfl
def c.kz:aV P 81=zC 100 2 g.kz [(4,none)]:=by kernel_rfl
def c.ej:aV P 39=zC 24 2 g.ej [(4,none)]:=by kernel_rfl
def c.ay:aV P 10=zC 213 2 g.ay [(4,some 8),(5,none)]:=by kernel_rfl
def c.ef:aV P 29=zC 27 2 g.ef [(4,none)]:=by kernel_rfl
def c.ki:aV P 33=zC 156 3 g.ki [(6,none)]:=by kernel_rfl
def c.k9:aV P 85=zC 30 2 g.k9 [(4,none)]:=by kernel_rfl
def c.g9:aV P 36=zC 142 1 g.g9 [(2,some 8)]:=by kernel_rfl
def c.kj:aV P 34=zC 56 2 g.kj [(4,none)]:=by kernel_rfl
def c.g8:aV P 35=zC 19 2 g.g8 [(4,none)]:=by kernel_rfl
def c.fc:aV P 100=zC 53 2 g.fc [(4,none)]:=by kernel_rfl
def c.bc:aV P 128=zC 47 2 g.bc [(4,none)]:=by kernel_rfl
def c.jj:aV P 168=zC 17 2 g.jj [(4,none)]:=by kernel_rfl
def c.bl:aV P 74=zC 30 3 g.bl [(6,some 8)]:=by kernel_rfl
def c.i9:aV P 125=zC 20 4 g.i9 [(6,some 8)]:=by kernel_rfl
def c.ke:aV P 25=zC 17 2 g.ke [(4,none)]:=by kernel_rfl
def c.bh:aV P 114=zC 30 3 g.bh [(6,some 8)]:=by kernel_rfl
def c.ji:aV P 156=zC 20 4 g.ji [(6,some 8)]:=by kernel_rfl
def c.cg:aV P 98=zC 31 1 g.cg [(2,none)]:=by kernel_rfl
def c.jf:aV P 141=zC 6 1 g.jf [(2,none)]:=by kernel_rfl
def c.cd:aV P 75=zC 19 1 g.cd [(2,some 8)]:=by kernel_rfl
def c.ja:aV P 126=zC 8 2 g.ja [(4,some 8)]:=by kernel_rfl
def c.mz:aV P 164=zC 10 0 g.mz [(0,some 9)]:=by kernel_rfl
def c.de:aV P 207=zC 32 1 g.de [(2,none)]:=by kernel_rfl
end Go.Ab
