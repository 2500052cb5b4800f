/- Lemmas for the law ProjectApplies, part 8. No conditions. -/
import Derived.Test.YthhdboljpgdcpaaGreatDoorCP07
import Derived.KernelRfl
set_option maxRecDepth 100000
set_option maxHeartbeats 4000000
set_option linter.all false
namespace Go.Ab
open Go.Proofs
def c.bg:aP P 63=zC 24 2 g.bg [(4,none)]:=by kernel_rfl
def c.c9:aP P 78=zC 9 2 g.c9 [(4,none)]:=by kernel_rfl
def c.bq:aP P 136=zC 31 1 g.bq [(2,some 7),(3,none)]:=by kernel_rfl
def c.d6:aP P 179=zC 64 2 g.d6 [(4,none)]:=by kernel_rfl
def c.iz:aP P 258=zC 8 2 g.iz [(3,none)]:=by kernel_rfl
def c.jq:aP P 102=zC 65 1 g.jq [(2,none)]:=by kernel_rfl
def c.j8:aP P 145=zC 8 2 g.j8 [(3,none)]:=by kernel_rfl
def c.oq:aP P 146=zC 36 2 g.oq [(4,none)]:=by kernel_rfl
def c.pb:aP P 183=zC 12 2 g.pb [(3,none)]:=by kernel_rfl
def c.dh:aP P 256=zC 22 2 g.dh [(4,none)]:=by kernel_rfl
def c.o8:aP P 178=zC 9 1 g.o8 [(2,some 2)]:=by kernel_rfl
def c.ot:aP P 147=zC 9 2 g.ot [(4,none)]:=by kernel_rfl
def c.ko:aP P 184=zC 8 2 g.ko [(3,none)]:=by kernel_rfl
def c.dw:aP P 120=zC 20 2 g.dw [(4,none)]:=by kernel_rfl
def c.gm:aP P 119=zC 18 1 g.gm [(2,none)]:=by kernel_rfl
def c.ow:aP P 160=zC 6 1 g.ow [(2,none)]:=by kernel_rfl
def c.dj:aP P 9=zC 78 2 g.dj [(4,some 8),(5,none)]:=by kernel_rfl
def c.na:aP P 65=zC 50 1 g.na []:=by kernel_rfl
def c.du:aP P 80=zC 58 2 g.du [(4,some 8),(5,some 8)]:=by kernel_rfl
def c.gg:aP P 70=zC 37 2 g.gg []:=by kernel_rfl
def c.jm:aP P 66=zC 136 2 g.jm [(4,none)]:=by kernel_rfl
def c.jv:aP P 117=zC 8 2 g.jv [(3,none)]:=by kernel_rfl
def c.mg:aP P 28=zC 119 1 g.mg [(2,some 8)]:=by kernel_rfl
def c.me:aP P 26=zC 78 1 g.me [(2,none)]:=by kernel_rfl
def c.gf:aP P 68=zC 10 2 g.gf [(4,none)]:=by kernel_rfl
def c.ng:aP P 79=zC 139 1 g.ng [(2,none)]:=by kernel_rfl
def c.ju:aP P 115=zC 25 2 g.ju [(4,none)]:=by kernel_rfl
def c.nc:aP P 69=zC 22 2 g.nc [(4,none)]:=by kernel_rfl
def c.og:aP P 129=zC 59 2 g.og []:=by kernel_rfl
def c.qk:aP P 5=zC 51 2 g.qk [(4,none)]:=by kernel_rfl
def c.l8:aP P 14=zC 44 0 g.l8 [(0,none)]:=by kernel_rfl
def c.fk:aP P 21=zC 50 1 g.fk [(2,none)]:=by kernel_rfl
def c.fj:aP P 20=zC 22 2 g.fj [(4,none)]:=by kernel_rfl
def c.l9:aP P 19=zC 7 1 g.l9 [(2,none)]:=by kernel_rfl
def c.l7:aP P 7=zC 41 1 g.l7 [(2,none)]:=by kernel_rfl
def c.qi:aP P 383=zC 6 1 g.qi [(2,none)]:=by kernel_rfl
def c.qh:aP P 373=zC 8 1 g.qh [(2,none)]:=by kernel_rfl
def c.jd:aP P 399=zC 19 1 g.jd [(2,none)]:=by kernel_rfl
def c.qg:aP P 366=zC 25 1 g.qg [(2,none)]:=by kernel_rfl
def c.ph:aP P 240=zC 29 2 g.ph [(4,none)]:=by kernel_rfl
def c.pg:aP P 238=zC 11 1 g.pg [(2,none)]:=by kernel_rfl
def c.pi:aP P 242=zC 54 2 g.pi [(4,none)]:=by kernel_rfl
def c.k9:aP P 235=zC 32 1 g.k9 [(2,none)]:=by kernel_rfl
def c.lx:aP P 340=zC 15 1 g.lx [(2,none)]:=by kernel_rfl
def c.pt:aP P 289=zC 32 1 g.pt [(2,none)]:=by kernel_rfl
def c.lm:aP P 290=zC 21 2 g.lm [(4,none)]:=by kernel_rfl
def c.b7:aP P 291=zC 16 3 g.b7 []:=by kernel_rfl
def c.ff:aP P 292=zC 25 1 g.ff [(2,none)]:=by kernel_rfl
def c.di:aP P 342=zC 10 2 g.di [(4,none)]:=by kernel_rfl
def c.fg:aP P 294=zC 6 1 g.fg [(2,none)]:=by kernel_rfl
def c.cd:aP P 15=zC 51 2 g.cd [(4,some 7),(5,none)]:=by kernel_rfl
def c.jj:aP P 49=zC 52 1 g.jj [(2,some 8),(3,none)]:=by kernel_rfl
end Go.Ab
