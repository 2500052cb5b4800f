/- Lemmas for the law ProjectAppliesMadeModels, part 9. No conditions. -/
import Derived.Test.YthhdboljpgdcpaaGreatDoorDP08
set_option maxRecDepth 100000
set_option maxHeartbeats 4000000
set_option linter.all false
namespace Go.Ab
open Go.Proofs
def c.nh:aP P 81=kw 100 2 g.nh 4:=by kernel_rfl
def c.ji:aP P 39=kw 24 2 g.ji 4:=by kernel_rfl
def c.dm:aP P 10=zC 213 2 g.dm [(4,some 8),(5,none)]:=by kernel_rfl
def c.je:aP P 29=kw 27 2 g.je 4:=by kernel_rfl
def c.mh:aP P 33=kw 156 3 g.mh 6:=by kernel_rfl
def c.nk:aP P 85=kw 30 2 g.nk 4:=by kernel_rfl
def c.jg:aP P 36=zC 142 1 g.jg [(2,some 8)]:=by kernel_rfl
def c.mj:aP P 34=kw 56 2 g.mj 4:=by kernel_rfl
def c.jf:aP P 35=kw 19 2 g.jf 4:=by kernel_rfl
def c.cg:aP P 16=zC 51 2 g.cg [(4,some 7),(5,none)]:=by kernel_rfl
def c.mz:aP P 55=zC 57 3 g.mz [(6,some 7)]:=by kernel_rfl
def c.jk:aP P 54=zC 54 1 g.jk [(2,some 8),(3,none)]:=by kernel_rfl
def c.f9:aP P 56=zC 10 1 g.f9 [(2,some 7),(3,none)]:=by kernel_rfl
def c.n9:aP P 111=zC 56 2 g.n9 [(4,some 7)]:=by kernel_rfl
def c.db:aP P 100=kw 53 2 g.db 4:=by kernel_rfl
def c.be:aP P 128=kw 47 2 g.be 4:=by kernel_rfl
def c.kd:aP P 168=kw 17 2 g.kd 4:=by kernel_rfl
def c.jr:aP P 103=zC 19 1 g.jr [(2,some 8)]:=by kernel_rfl
def c.j9:aP P 148=zC 8 2 g.j9 [(4,some 8)]:=by kernel_rfl
def c.bc:aP P 74=zC 30 3 g.bc [(6,some 8)]:=by kernel_rfl
def c.jx:aP P 125=zC 20 4 g.jx [(6,some 8)]:=by kernel_rfl
def c.mc:aP P 25=kw 17 2 g.mc 4:=by kernel_rfl
def c.bl:aP P 114=zC 30 3 g.bl [(6,some 8)]:=by kernel_rfl
def c.kb:aP P 156=zC 20 4 g.kb [(6,some 8)]:=by kernel_rfl
def c.bi:aP P 98=kw 31 1 g.bi 2:=by kernel_rfl
def c.j5:aP P 141=kw 6 1 g.j5 2:=by kernel_rfl
def c.bh:aP P 75=zC 19 1 g.bh [(2,some 8)]:=by kernel_rfl
def c.jy:aP P 126=zC 8 2 g.jy [(4,some 8)]:=by kernel_rfl
def c.ox:aP P 164=zC 10 0 g.ox [(0,some 9)]:=by kernel_rfl
def c.d7:aP P 207=kw 32 1 g.d7 2:=by kernel_rfl
def c.d8:aP P 208=zC 2 0 g.d8 [(0,some 8)]:=by kernel_rfl
def c.bm:aP P 209=zC 2 0 g.bm [(0,some 8)]:=by kernel_rfl
def c.d9:aP P 210=zC 10 2 g.d9 [(4,some 8)]:=by kernel_rfl
def c.bz:aP P 212=zC 26 2 g.bz [(4,some 8)]:=by kernel_rfl
def c.dz:aP P 124=zC 28 2 g.dz [(4,some 8)]:=by kernel_rfl
def c.oy:aP P 165=zC 14 0 g.oy [(0,some 9)]:=by kernel_rfl
def c.ef:aP P 218=kw 21 1 g.ef 2:=by kernel_rfl
def c.ii:aP P 221=kw 11 2 g.ii 4:=by kernel_rfl
def c.ij:aP P 222=zC 17 3 g.ij [(5,some 8)]:=by kernel_rfl
def c.ak:aP P 123=zC 17 1 g.ak [(2,some 9)]:=by kernel_rfl
def c.ee:aP P 211=kw 19 2 g.ee 4:=by kernel_rfl
def c.g9:aP P 197=zC 12 1 g.g9 [(2,some 8)]:=by kernel_rfl
def c.o5:aP P 167=zC 2 0 g.o5 [(0,some 9)]:=by kernel_rfl
def c.ik:aP P 234=kw 13 1 g.ik 2:=by kernel_rfl
def c.im:aP P 236=zC 2 0 g.im [(0,some 8)]:=by kernel_rfl
def c.io:aP P 237=zC 5 0 g.io [(0,some 8)]:=by kernel_rfl
def c.ip:aP P 239=zC 11 2 g.ip [(4,some 8)]:=by kernel_rfl
def c.ir:aP P 241=zC 11 2 g.ir [(4,some 8)]:=by kernel_rfl
def c.gv:aP P 163=zC 2 0 g.gv [(0,some 9)]:=by kernel_rfl
def c.gw:aP P 193=kw 13 1 g.gw 2:=by kernel_rfl
def c.bv:aP P 195=zC 2 0 g.bv [(0,some 8)]:=by kernel_rfl
def c.ay:aP P 196=zC 2 0 g.ay [(0,some 8)]:=by kernel_rfl
end Go.Ab
