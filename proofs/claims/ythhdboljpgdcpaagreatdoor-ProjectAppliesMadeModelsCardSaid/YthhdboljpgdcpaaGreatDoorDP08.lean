/- Lemmas for the law ProjectAppliesMadeModels, part 8. No conditions. -/
import Derived.Test.YthhdboljpgdcpaaGreatDoorDP07
set_option maxRecDepth 100000
set_option maxHeartbeats 4000000
set_option linter.all false
namespace Go.Ab
open Go.Proofs
def c.ld:aP P 259=kw 14 2 g.ld 4:=by kernel_rfl
def c.kx:aP P 190=kw 35 2 g.kx 4:=by kernel_rfl
def c.oi:aP P 137=kw 10 1 g.oi 2:=by kernel_rfl
def c.km:aP P 176=kw 12 1 g.km 2:=by kernel_rfl
def c.go:aP P 132=zC 37 3 g.go [(6,some 3)]:=by kernel_rfl
def c.kr:aP P 188=kw 36 2 g.kr 4:=by kernel_rfl
def c.nt:aP P 96=kw 26 2 g.nt 4:=by kernel_rfl
def c.lg:aP P 260=kw 9 1 g.lg 2:=by kernel_rfl
def c.jz:aP P 133=kw 68 2 g.jz 4:=by kernel_rfl
def c.de:aP P 177=kw 21 1 g.de 2:=by kernel_rfl
def c.nr:aP P 91=kw 24 2 g.nr 4:=by kernel_rfl
def c.m8:aP P 60=kw 7 1 g.m8 2:=by kernel_rfl
def c.nj:aP P 84=kw 64 2 g.nj 4:=by kernel_rfl
def c.aab:aP P 93=kw 17 1 g.aab 2:=by kernel_rfl
def c.nq:aP P 89=kw 42 2 g.nq 4:=by kernel_rfl
def c.aaa:aP P 92=kw 9 2 g.aaa 4:=by kernel_rfl
def c.gn:aP P 131=kw 30 1 g.gn 2:=by kernel_rfl
def c.kg:aP P 173=kw 54 1 g.kg 2:=by kernel_rfl
def c.gr:aP P 153=kw 24 2 g.gr 4:=by kernel_rfl
def c.ka:aP P 151=kw 26 1 g.ka 2:=by kernel_rfl
def c.gl:aP P 112=kw 85 2 g.gl 4:=by kernel_rfl
def c.dv:aP P 108=kw 50 2 g.dv 4:=by kernel_rfl
def c.cj:aP P 40=kw 69 2 g.cj 4:=by kernel_rfl
def c.ch:aP P 31=kw 9 2 g.ch 4:=by kernel_rfl
def c.ae:aP P 22=zC 42 1 g.ae [(2,some 8)]:=by kernel_rfl
def c.ah:aP P 130=zC 100 3 g.ah [(6,some 8)]:=by kernel_rfl
def c.jh:aP P 37=kw 38 2 g.jh 4:=by kernel_rfl
def c.mm:aP P 38=kw 27 2 g.mm 4:=by kernel_rfl
def c.an:aP P 82=zC 48 2 g.an [(4,some 8)]:=by kernel_rfl
def c.aa:aP P 32=zC 97 3 g.aa [(6,some 8)]:=by kernel_rfl
def c.bf:aP P 59=kw 52 1 g.bf 2:=by kernel_rfl
def c.ba:aP P 23=zC 31 1 g.ba [(2,some 8)]:=by kernel_rfl
def c.n8:aP P 110=kw 18 2 g.n8 4:=by kernel_rfl
def c.cq:aP P 61=zC 11 2 g.cq [(4,some 2)]:=by kernel_rfl
def c.ai:aP P 149=kw 107 2 g.ai 4:=by kernel_rfl
def c.gj:aP P 105=kw 9 1 g.gj 2:=by kernel_rfl
def c.gi:aP P 88=kw 40 2 g.gi 4:=by kernel_rfl
def c.fx:aP P 53=kw 33 2 g.fx 4:=by kernel_rfl
def c.pf:aP P 187=kw 100 2 g.pf 4:=by kernel_rfl
def c.gp:aP P 150=zC 26 1 g.gp [(2,some 7)]:=by kernel_rfl
def c.ax:aP P 106=kw 15 3 g.ax 6:=by kernel_rfl
def c.dq:aP P 17=kw 86 2 g.dq 4:=by kernel_rfl
def c.n7:aP P 109=kw 91 1 g.n7 2:=by kernel_rfl
def c.gk:aP P 107=kw 24 3 g.gk 6:=by kernel_rfl
def c.ge:aP P 57=kw 20 2 g.ge 4:=by kernel_rfl
def c.pd:aP P 185=zC 9 1 g.pd [(2,some 2)]:=by kernel_rfl
def c.pe:aP P 186=kw 23 2 g.pe 4:=by kernel_rfl
def c.nm:aP P 86=kw 59 3 g.nm 6:=by kernel_rfl
def c.nn:aP P 87=kw 24 2 g.nn 4:=by kernel_rfl
def c.oh:aP P 135=kw 37 2 g.oh 4:=by kernel_rfl
def c.ar:aP P 30=zC 58 1 g.ar [(2,some 8)]:=by kernel_rfl
def c.am:aP P 52=kw 105 1 g.am 2:=by kernel_rfl
end Go.Ab
