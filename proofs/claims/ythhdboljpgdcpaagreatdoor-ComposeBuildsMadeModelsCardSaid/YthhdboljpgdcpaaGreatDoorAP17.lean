/- Lemmas for the law ComposeBuildsMadeModels, part 17. No conditions. -/
import Derived.Test.YthhdboljpgdcpaaGreatDoorAP15
import Derived.KernelRfl
set_option maxRecDepth 100000
set_option maxHeartbeats 4000000
set_option linter.all false
namespace Go.Ab
open Go.Proofs
def c.oe:aV P 315=zC 11 1 g.oe [(2,some 3)]:=by kernel_rfl
def c.j5:aV P 269=zC 53 2 g.j5 [(4,some 3)]:=by kernel_rfl
def c.dz:aV P 270=zC 45 1 g.dz [(2,some 3)]:=by kernel_rfl
def c.bs:aV P 308=zC 14 2 g.bs [(4,none)]:=by kernel_rfl
def c.az:aV P 314=zC 21 1 g.az [(2,none)]:=by kernel_rfl
def c.dv:aV P 264=zC 34 2 g.dv [(4,none)]:=by kernel_rfl
def c.j0:aV P 266=zC 19 2 g.j0 [(4,none)]:=by kernel_rfl
def c.gr:aV P 355=zC 45 2 g.gr [(4,none)]:=by kernel_rfl
def c.oj:aV P 354=zC 17 1 g.oj [(2,none)]:=by kernel_rfl
def c.gp:aV P 312=zC 36 2 g.gp [(4,none)]:=by kernel_rfl
def c.j7:aV P 309=zC 111 2 g.j7 [(4,none),(5,none)]:=by kernel_rfl
def c.od:aV P 311=zC 39 2 g.od [(4,none)]:=by kernel_rfl
def c.ol:aV P 356=zC 33 2 g.ol [(4,none)]:=by kernel_rfl
def c.og:aV P 316=zC 43 2 g.og [(4,none),(5,none)]:=by kernel_rfl
def c.gn:aV P 271=zC 59 2 g.gn [(4,none)]:=by kernel_rfl
def c.dw:aV P 268=zC 27 1 g.dw [(2,some 3)]:=by kernel_rfl
def c.gm:aV P 265=zC 2 0 g.gm [(0,none)]:=by kernel_rfl
def c.nt:aV P 263=zC 15 1 g.nt [(2,none)]:=by kernel_rfl
def c.n9:aV P 310=zC 20 1 g.n9 [(2,none),(3,none)]:=by kernel_rfl
def c.fm:aV P 154=zC 59 2 g.fm [(4,some 3)]:=by kernel_rfl
def c.nr:aV P 253=zC 9 2 g.nr [(4,none)]:=by kernel_rfl
def c.jl:aV P 172=zC 9 2 g.jl [(4,none)]:=by kernel_rfl
def c.ic:aV P 58=zC 17 2 g.ic [(4,none)]:=by kernel_rfl
def c.lr:aV P 97=zC 21 2 g.lr [(4,some 3),(5,none)]:=by kernel_rfl
def c.ik:aV P 83=zC 25 2 g.ik [(4,some 3)]:=by kernel_rfl
def c.oi:aV P 351=zC 16 1 g.oi [(2,some 3)]:=by kernel_rfl
def c.bf:aV P 46=zC 14 2 g.bf [(4,some 3)]:=by kernel_rfl
def c.ep:aV P 45=zC 24 2 g.ep [(4,none)]:=by kernel_rfl
def c.db:aV P 152=zC 13 1 g.db [(2,none)]:=by kernel_rfl
def c.n8:aV P 306=zC 9 2 g.n8 [(4,some 3)]:=by kernel_rfl
def c.bg:aV P 113=zC 16 1 g.bg [(2,some 3)]:=by kernel_rfl
def c.bm:aV P 155=zC 65 1 g.bm [(2,none)]:=by kernel_rfl
def c.mh:aV P 138=zC 12 1 g.mh [(2,none)]:=by kernel_rfl
def c.jr:aV P 189=zC 45 2 g.jr [(4,none)]:=by kernel_rfl
def c.jd:aV P 134=zC 10 1 g.jd [(2,none)]:=by kernel_rfl
def c.jo:aV P 175=zC 58 2 g.jo [(4,none),(5,none)]:=by kernel_rfl
def c.jn:aV P 174=zC 19 2 g.jn [(4,none)]:=by kernel_rfl
def c.jy:aV P 259=zC 14 2 g.jy [(4,none)]:=by kernel_rfl
def c.jt:aV P 190=zC 35 2 g.jt [(4,none)]:=by kernel_rfl
def c.mg:aV P 137=zC 10 1 g.mg [(2,none)]:=by kernel_rfl
def c.jp:aV P 176=zC 12 1 g.jp [(2,none)]:=by kernel_rfl
def c.fj:aV P 132=zC 37 3 g.fj [(6,some 3)]:=by kernel_rfl
def c.jq:aV P 188=zC 36 2 g.jq [(4,none)]:=by kernel_rfl
def c.ln:aV P 96=zC 26 2 g.ln [(4,none)]:=by kernel_rfl
def c.jz:aV P 260=zC 9 1 g.jz [(2,none)]:=by kernel_rfl
def c.jc:aV P 133=zC 68 2 g.jc [(4,none)]:=by kernel_rfl
def c.cj:aV P 177=zC 21 1 g.cj [(2,none)]:=by kernel_rfl
def c.ip:aV P 91=zC 24 2 g.ip [(4,none)]:=by kernel_rfl
def c.cr:aV P 60=zC 7 1 g.cr [(2,none)]:=by kernel_rfl
def c.im:aV P 84=zC 64 2 g.im [(4,none)]:=by kernel_rfl
def c.lm:aV P 93=zC 17 1 g.lm [(2,none)]:=by kernel_rfl
def c.lh:aV P 89=zC 42 2 g.lh [(4,none)]:=by kernel_rfl
end Go.Ab
