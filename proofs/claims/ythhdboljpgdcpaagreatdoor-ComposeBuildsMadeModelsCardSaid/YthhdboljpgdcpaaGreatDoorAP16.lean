/- Lemmas for the law ComposeBuildsMadeModels, part 16. No conditions. -/
import Derived.Test.YthhdboljpgdcpaaGreatDoorAP15
import Derived.KernelRfl
set_option maxRecDepth 100000
set_option maxHeartbeats 4000000
set_option linter.all false
namespace Go.Ab
open Go.Proofs
def c.ig:aV P 63=zC 24 2 g.ig [(4,none)]:=by kernel_rfl
def c.c9:aV P 78=zC 9 2 g.c9 [(4,none)]:=by kernel_rfl
def c.fg:aV P 120=zC 20 2 g.fg [(4,none)]:=by kernel_rfl
def c.i6:aV P 119=zC 18 1 g.i6 [(2,none)]:=by kernel_rfl
def c.mq:aV P 160=zC 6 1 g.mq [(2,none)]:=by kernel_rfl
def c.ak:aV P 9=zC 78 2 g.ak [(4,some 8),(5,none)]:=by kernel_rfl
def c.kr:aV P 65=zC 50 1 g.kr []:=by kernel_rfl
def c.da:aV P 80=zC 58 2 g.da [(4,some 8),(5,some 8)]:=by kernel_rfl
def c.fa:aV P 70=zC 37 2 g.fa []:=by kernel_rfl
def c.ii:aV P 66=zC 136 2 g.ii [(4,none)]:=by kernel_rfl
def c.iz:aV P 117=zC 8 2 g.iz [(3,none)]:=by kernel_rfl
def c.kg:aV P 28=zC 119 1 g.kg [(2,some 8)]:=by kernel_rfl
def c.kf:aV P 26=zC 78 1 g.kf [(2,none)]:=by kernel_rfl
def c.eq:aV P 68=zC 10 2 g.eq [(4,none)]:=by kernel_rfl
def c.ky:aV P 79=zC 139 1 g.ky [(2,none)]:=by kernel_rfl
def c.iy:aV P 115=zC 25 2 g.iy [(4,none)]:=by kernel_rfl
def c.ku:aV P 69=zC 22 2 g.ku [(4,none)]:=by kernel_rfl
def c.mc:aV P 129=zC 59 2 g.mc []:=by kernel_rfl
def c.ow:aV P 3=zC 41 2 g.ow [(4,none)]:=by kernel_rfl
def c.ox:aV P 4=zC 45 3 g.ox [(6,none)]:=by kernel_rfl
def c.gv:aV P 8=zC 64 0 g.gv [(0,none)]:=by kernel_rfl
def c.d9:aV P 21=zC 50 1 g.d9 [(2,none)]:=by kernel_rfl
def c.d8:aV P 20=zC 22 2 g.d8 [(4,none)]:=by kernel_rfl
def c.kd:aV P 19=zC 7 1 g.kd [(2,none)]:=by kernel_rfl
def c.ka:aV P 7=zC 41 1 g.ka [(2,none)]:=by kernel_rfl
def c.ar:aV P 41=zC 15 2 g.ar [(4,none)]:=by kernel_rfl
def c.gw:aV P 13=zC 144 5 g.gw [(10,some 8)]:=by kernel_rfl
def c.lj:aV P 90=zC 11 1 g.lj [(2,some 3)]:=by kernel_rfl
def c.kb:aV P 12=zC 18 1 g.kb [(2,some 2)]:=by kernel_rfl
def c.am:aV P 43=zC 83 2 g.am [(4,some 8)]:=by kernel_rfl
def c.ib:aV P 42=zC 28 4 g.ib [(8,some 8)]:=by kernel_rfl
def c.ot:aV P 383=zC 6 1 g.ot [(2,none)]:=by kernel_rfl
def c.oq:aV P 373=zC 8 1 g.oq [(2,none)]:=by kernel_rfl
def c.gt:aV P 399=zC 19 1 g.gt [(2,none)]:=by kernel_rfl
def c.om:aV P 366=zC 25 1 g.om [(2,none)]:=by kernel_rfl
def c.nk:aV P 240=zC 29 2 g.nk [(4,none)]:=by kernel_rfl
def c.nm:aV P 242=zC 54 2 g.nm [(4,none)]:=by kernel_rfl
def c.jx:aV P 235=zC 32 1 g.jx [(2,none)]:=by kernel_rfl
def c.j8:aV P 340=zC 15 1 g.j8 [(2,none)]:=by kernel_rfl
def c.n5:aV P 289=zC 32 1 g.n5 [(2,none)]:=by kernel_rfl
def c.j6:aV P 290=zC 21 2 g.j6 [(4,none)]:=by kernel_rfl
def c.ck:aV P 291=zC 16 3 g.ck []:=by kernel_rfl
def c.go:aV P 292=zC 25 1 g.go [(2,none)]:=by kernel_rfl
def c.cn:aV P 342=zC 10 2 g.cn [(4,none)]:=by kernel_rfl
def c.d0:aV P 294=zC 6 1 g.d0 [(2,none)]:=by kernel_rfl
def c.ge:aV P 199=zC 11 2 g.ge [(4,some 3)]:=by kernel_rfl
def c.jw:aV P 220=zC 9 2 g.jw [(4,none)]:=by kernel_rfl
def c.j4:aV P 267=zC 30 2 g.j4 [(4,some 3),(5,none)]:=by kernel_rfl
def c.jv:aV P 201=zC 28 2 g.jv [(4,some 3)]:=by kernel_rfl
def c.dm:aV P 219=zC 14 1 g.dm [(2,none)]:=by kernel_rfl
def c.ny:aV P 274=zC 12 2 g.ny [(4,some 3)]:=by kernel_rfl
def c.fx:aV P 194=zC 48 1 g.fx [(2,none)]:=by kernel_rfl
end Go.Ab
