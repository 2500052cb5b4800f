/- Lemmas for the law ProjectAppliesMadeModels, part 10. No conditions. -/
import Derived.Test.YthhdboljpgdcpaaGreatDoorDP09
set_option maxRecDepth 100000
set_option maxHeartbeats 4000000
set_option linter.all false
namespace Go.Ab
open Go.Proofs
def c.ia:aP P 198=zC 11 2 g.ia [(4,some 8)]:=by kernel_rfl
def c.bw:aP P 200=zC 11 2 g.bw [(4,some 8)]:=by kernel_rfl
def c.ke:aP P 169=kw 24 2 g.ke 4:=by kernel_rfl
def c.oz:aP P 166=zC 10 0 g.oz [(0,some 9)]:=by kernel_rfl
def c.ep:aP P 224=kw 8 1 g.ep 2:=by kernel_rfl
def c.eq:aP P 225=zC 2 0 g.eq [(0,some 8)]:=by kernel_rfl
def c.bn:aP P 226=zC 2 0 g.bn [(0,some 8)]:=by kernel_rfl
def c.eu:aP P 227=zC 11 2 g.eu [(4,some 8)]:=by kernel_rfl
def c.fa:aP P 228=zC 11 2 g.fa [(4,some 8)]:=by kernel_rfl
def c.j4:aP P 139=kw 9 1 g.j4 2:=by kernel_rfl
def c.ig:aP P 215=kw 4 1 g.ig 2:=by kernel_rfl
def c.jw:aP P 122=zC 11 2 g.jw [(4,some 8)]:=by kernel_rfl
def c.dg:aP P 254=kw 8 1 g.dg 2:=by kernel_rfl
def c.cr:aP P 71=kw 8 1 g.cr 2:=by kernel_rfl
def c.bp:aP P 62=kw 8 1 g.bp 2:=by kernel_rfl
def c.b9:aP P 313=kw 8 1 g.b9 2:=by kernel_rfl
def c.px:aP P 293=kw 36 1 g.px 2:=by kernel_rfl
def c.om:aP P 144=kw 9 2 g.om 4:=by kernel_rfl
def c.j6:aP P 142=kw 9 2 g.j6 4:=by kernel_rfl
def c.ol:aP P 140=kw 9 2 g.ol 4:=by kernel_rfl
def c.pm:aP P 257=kw 42 2 g.pm 4:=by kernel_rfl
def c.ne:aP P 76=kw 42 2 g.ne 4:=by kernel_rfl
def c.od:aP P 116=kw 42 2 g.od 4:=by kernel_rfl
def c.o6:aP P 170=kw 32 3 g.o6 6:=by kernel_rfl
def c.o7:aP P 171=kw 32 3 g.o7 6:=by kernel_rfl
def c.m9:aP P 64=kw 26 2 g.m9 4:=by kernel_rfl
def c.pj:aP P 252=kw 26 2 g.pj 4:=by kernel_rfl
def c.qc:aP P 343=kw 27 2 g.qc 4:=by kernel_rfl
def c.kn:aP P 182=kw 19 2 g.kn 4:=by kernel_rfl
def c.oe:aP P 127=kw 19 2 g.oe 4:=by kernel_rfl
def c.pa:aP P 181=kw 19 2 g.pa 4:=by kernel_rfl
def c.ou:aP P 157=kw 19 2 g.ou 4:=by kernel_rfl
def c.o9:aP P 180=kw 19 2 g.o9 4:=by kernel_rfl
def c.fh:aP P 341=zC 14 2 g.fh []:=by kernel_rfl
end Go.Ab
