/- Lemmas for the law ProjectAppliesMadeModels, part 6. No conditions. -/
import Derived.Test.YthhdboljpgdcpaaGreatDoorDP05
import Derived.KernelRfl
set_option maxRecDepth 100000
set_option maxHeartbeats 4000000
set_option linter.all false
namespace Go.Ab
open Go.Proofs
def c.bg:aP P 63=kw 24 2 g.bg 4:=by kernel_rfl
def c.c9:aP P 78=kw 9 2 g.c9 4:=by kernel_rfl
def c.bq:aP P 136=zC 31 1 g.bq [(2,some 7),(3,none)]:=by kernel_rfl
def c.d6:aP P 179=kw 64 2 g.d6 4:=by kernel_rfl
def c.iz:aP P 258=kw 8 2 g.iz 3:=by kernel_rfl
def c.jq:aP P 102=kw 65 1 g.jq 2:=by kernel_rfl
def c.j8:aP P 145=kw 8 2 g.j8 3:=by kernel_rfl
def c.oq:aP P 146=kw 36 2 g.oq 4:=by kernel_rfl
def c.pb:aP P 183=kw 12 2 g.pb 3:=by kernel_rfl
def c.dh:aP P 256=kw 22 2 g.dh 4:=by kernel_rfl
def c.o8:aP P 178=zC 9 1 g.o8 [(2,some 2)]:=by kernel_rfl
def c.ot:aP P 147=kw 9 2 g.ot 4:=by kernel_rfl
def c.ko:aP P 184=kw 8 2 g.ko 3:=by kernel_rfl
def c.dw:aP P 120=kw 20 2 g.dw 4:=by kernel_rfl
def c.gm:aP P 119=kw 18 1 g.gm 2:=by kernel_rfl
def c.ow:aP P 160=kw 6 1 g.ow 2:=by kernel_rfl
def c.dj:aP P 9=zC 78 2 g.dj [(4,some 8),(5,none)]:=by kernel_rfl
def c.na:aP P 65=zC 50 1 g.na []:=by kernel_rfl
def c.du:aP P 80=zC 58 2 g.du [(4,some 8),(5,some 8)]:=by kernel_rfl
def c.gg:aP P 70=zC 37 2 g.gg []:=by kernel_rfl
def c.jm:aP P 66=kw 136 2 g.jm 4:=by kernel_rfl
def c.jv:aP P 117=kw 8 2 g.jv 3:=by kernel_rfl
def c.mg:aP P 28=zC 119 1 g.mg [(2,some 8)]:=by kernel_rfl
def c.me:aP P 26=kw 78 1 g.me 2:=by kernel_rfl
def c.gf:aP P 68=kw 10 2 g.gf 4:=by kernel_rfl
def c.ng:aP P 79=kw 139 1 g.ng 2:=by kernel_rfl
def c.ju:aP P 115=kw 25 2 g.ju 4:=by kernel_rfl
def c.nc:aP P 69=kw 22 2 g.nc 4:=by kernel_rfl
def c.og:aP P 129=zC 59 2 g.og []:=by kernel_rfl
def c.aac:aP P 6=kw 42 3 g.aac 6:=by kernel_rfl
def c.l8:aP P 14=kw 44 0 g.l8 0:=by kernel_rfl
def c.zr:aP P 41=kw 15 2 g.zr 4:=by kernel_rfl
def c.z6:aP P 13=zC 144 5 g.z6 [(10,some 8)]:=by kernel_rfl
def c.z8:aP P 90=zC 11 1 g.z8 [(2,some 3)]:=by kernel_rfl
def c.zz:aP P 12=zC 18 1 g.zz [(2,some 2)]:=by kernel_rfl
def c.zu:aP P 43=zC 83 2 g.zu [(4,some 8)]:=by kernel_rfl
def c.z7:aP P 18=kw 31 3 g.z7 6:=by kernel_rfl
def c.zw:aP P 42=zC 28 4 g.zw [(8,some 8)]:=by kernel_rfl
def c.qi:aP P 383=kw 6 1 g.qi 2:=by kernel_rfl
def c.qh:aP P 373=kw 8 1 g.qh 2:=by kernel_rfl
def c.jd:aP P 399=kw 19 1 g.jd 2:=by kernel_rfl
def c.qg:aP P 366=kw 25 1 g.qg 2:=by kernel_rfl
def c.ph:aP P 240=kw 29 2 g.ph 4:=by kernel_rfl
def c.pg:aP P 238=kw 11 1 g.pg 2:=by kernel_rfl
def c.pi:aP P 242=kw 54 2 g.pi 4:=by kernel_rfl
def c.k9:aP P 235=kw 32 1 g.k9 2:=by kernel_rfl
def c.lx:aP P 340=kw 15 1 g.lx 2:=by kernel_rfl
def c.pt:aP P 289=kw 32 1 g.pt 2:=by kernel_rfl
def c.lm:aP P 290=kw 21 2 g.lm 4:=by kernel_rfl
def c.b7:aP P 291=zC 16 3 g.b7 []:=by kernel_rfl
def c.ff:aP P 292=kw 25 1 g.ff 2:=by kernel_rfl
def c.di:aP P 342=kw 10 2 g.di 4:=by kernel_rfl
end Go.Ab
