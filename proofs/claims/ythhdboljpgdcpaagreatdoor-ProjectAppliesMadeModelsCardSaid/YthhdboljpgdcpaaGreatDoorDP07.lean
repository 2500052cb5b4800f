/- Lemmas for the law ProjectAppliesMadeModels, part 7. No conditions. -/
import Derived.Test.YthhdboljpgdcpaaGreatDoorDP06
set_option maxRecDepth 100000
set_option maxHeartbeats 4000000
set_option linter.all false
namespace Go.Ab
open Go.Proofs
def c.fg:aP P 294=kw 6 1 g.fg 2:=by kernel_rfl
def c.cd:aP P 15=zC 51 2 g.cd [(4,some 7),(5,none)]:=by kernel_rfl
def c.jj:aP P 49=zC 52 1 g.jj [(2,some 8),(3,none)]:=by kernel_rfl
def c.mn:aP P 44=zC 10 1 g.mn [(2,some 7),(3,none)]:=by kernel_rfl
def c.jp:aP P 95=kw 5 1 g.jp 2:=by kernel_rfl
def c.fw:aP P 51=zC 10 1 g.fw [(2,some 7),(3,none)]:=by kernel_rfl
def c.jt:aP P 104=kw 5 1 g.jt 2:=by kernel_rfl
def c.mq:aP P 50=zC 77 3 g.mq [(6,some 7)]:=by kernel_rfl
def c.da:aP P 94=zC 52 3 g.da [(6,some 7),(7,none)]:=by kernel_rfl
def c.ib:aP P 199=zC 11 2 g.ib [(4,some 3)]:=by kernel_rfl
def c.kz:aP P 220=kw 9 2 g.kz 4:=by kernel_rfl
def c.lj:aP P 267=zC 30 2 g.lj [(4,some 3),(5,none)]:=by kernel_rfl
def c.ky:aP P 201=zC 28 2 g.ky [(4,some 3)]:=by kernel_rfl
def c.ej:aP P 219=kw 14 1 g.ej 2:=by kernel_rfl
def c.po:aP P 274=zC 12 2 g.po [(4,some 3)]:=by kernel_rfl
def c.g8:aP P 194=kw 48 1 g.g8 2:=by kernel_rfl
def c.p9:aP P 315=zC 11 1 g.p9 [(2,some 3)]:=by kernel_rfl
def c.lk:aP P 269=zC 53 2 g.lk [(4,some 3)]:=by kernel_rfl
def c.fe:aP P 270=zC 45 1 g.fe [(2,some 3)]:=by kernel_rfl
def c.b8:aP P 308=kw 14 2 g.b8 4:=by kernel_rfl
def c.az:aP P 314=kw 21 1 g.az 2:=by kernel_rfl
def c.fb:aP P 264=kw 34 2 g.fb 4:=by kernel_rfl
def c.lh:aP P 266=kw 19 2 g.lh 4:=by kernel_rfl
def c.jc:aP P 355=kw 45 2 g.jc 4:=by kernel_rfl
def c.qe:aP P 354=kw 17 1 g.qe 2:=by kernel_rfl
def c.i9:aP P 312=kw 36 2 g.i9 4:=by kernel_rfl
def c.lr:aP P 309=zC 111 2 g.lr [(4,none),(5,none)]:=by kernel_rfl
def c.p8:aP P 311=kw 39 2 g.p8 4:=by kernel_rfl
def c.qf:aP P 356=kw 33 2 g.qf 4:=by kernel_rfl
def c.qa:aP P 316=zC 43 2 g.qa [(4,none),(5,none)]:=by kernel_rfl
def c.i7:aP P 271=kw 59 2 g.i7 4:=by kernel_rfl
def c.fc:aP P 268=zC 27 1 g.fc [(2,some 3)]:=by kernel_rfl
def c.i6:aP P 265=kw 2 0 g.i6 0:=by kernel_rfl
def c.pn:aP P 263=kw 15 1 g.pn 2:=by kernel_rfl
def c.p0:aP P 310=zC 20 1 g.p0 [(2,none),(3,none)]:=by kernel_rfl
def c.gt:aP P 154=zC 59 2 g.gt [(4,some 3)]:=by kernel_rfl
def c.pk:aP P 253=kw 9 2 g.pk 4:=by kernel_rfl
def c.kf:aP P 172=kw 9 2 g.kf 4:=by kernel_rfl
def c.ny:aP P 97=zC 21 2 g.ny [(4,some 3),(5,none)]:=by kernel_rfl
def c.jo:aP P 83=zC 25 2 g.jo [(4,some 3)]:=by kernel_rfl
def c.qd:aP P 351=zC 16 1 g.qd [(2,some 3)]:=by kernel_rfl
def c.dt:aP P 46=zC 14 2 g.dt [(4,some 3)]:=by kernel_rfl
def c.dr:aP P 45=kw 24 2 g.dr 4:=by kernel_rfl
def c.d0:aP P 152=kw 13 1 g.d0 2:=by kernel_rfl
def c.py:aP P 306=zC 9 2 g.py [(4,some 3)]:=by kernel_rfl
def c.bj:aP P 113=zC 16 1 g.bj [(2,some 3)]:=by kernel_rfl
def c.bs:aP P 155=kw 65 1 g.bs 2:=by kernel_rfl
def c.oj:aP P 138=kw 12 1 g.oj 2:=by kernel_rfl
def c.ku:aP P 189=kw 45 2 g.ku 4:=by kernel_rfl
def c.j0:aP P 134=kw 10 1 g.j0 2:=by kernel_rfl
def c.kj:aP P 175=zC 58 2 g.kj [(4,none),(5,none)]:=by kernel_rfl
def c.ki:aP P 174=kw 19 2 g.ki 4:=by kernel_rfl
end Go.Ab
