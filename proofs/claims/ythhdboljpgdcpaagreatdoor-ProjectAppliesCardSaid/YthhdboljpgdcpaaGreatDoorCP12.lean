/- Lemmas for the law ProjectApplies, part 12. No conditions. -/
import Derived.Test.YthhdboljpgdcpaaGreatDoorCP07
import Derived.KernelRfl
set_option maxRecDepth 100000
set_option maxHeartbeats 4000000
set_option linter.all false
namespace Go.Ab
open Go.Proofs
def c.ep:aP P 224=zC 8 1 g.ep [(2,none)]:=by kernel_rfl
def c.eq:aP P 225=zC 2 0 g.eq [(0,some 8)]:=by kernel_rfl
def c.bn:aP P 226=zC 2 0 g.bn [(0,some 8)]:=by kernel_rfl
def c.eu:aP P 227=zC 11 2 g.eu [(4,some 8)]:=by kernel_rfl
def c.fa:aP P 228=zC 11 2 g.fa [(4,some 8)]:=by kernel_rfl
def c.j4:aP P 139=zC 9 1 g.j4 [(2,none)]:=by kernel_rfl
def c.ig:aP P 215=zC 4 1 g.ig [(2,none)]:=by kernel_rfl
def c.jw:aP P 122=zC 11 2 g.jw [(4,some 8)]:=by kernel_rfl
def c.dg:aP P 254=zC 8 1 g.dg [(2,none)]:=by kernel_rfl
def c.cr:aP P 71=zC 8 1 g.cr [(2,none)]:=by kernel_rfl
def c.bp:aP P 62=zC 8 1 g.bp [(2,none)]:=by kernel_rfl
def c.b9:aP P 313=zC 8 1 g.b9 [(2,none)]:=by kernel_rfl
def c.px:aP P 293=zC 36 1 g.px [(2,none)]:=by kernel_rfl
def c.om:aP P 144=zC 9 2 g.om [(4,none)]:=by kernel_rfl
def c.j6:aP P 142=zC 9 2 g.j6 [(4,none)]:=by kernel_rfl
def c.ol:aP P 140=zC 9 2 g.ol [(4,none)]:=by kernel_rfl
def c.pm:aP P 257=zC 42 2 g.pm [(4,none)]:=by kernel_rfl
def c.ne:aP P 76=zC 42 2 g.ne [(4,none)]:=by kernel_rfl
def c.od:aP P 116=zC 42 2 g.od [(4,none)]:=by kernel_rfl
def c.o6:aP P 170=zC 32 3 g.o6 [(6,none)]:=by kernel_rfl
def c.o7:aP P 171=zC 32 3 g.o7 [(6,none)]:=by kernel_rfl
def c.m9:aP P 64=zC 26 2 g.m9 [(4,none)]:=by kernel_rfl
def c.pj:aP P 252=zC 26 2 g.pj [(4,none)]:=by kernel_rfl
def c.qc:aP P 343=zC 27 2 g.qc [(4,none)]:=by kernel_rfl
def c.kn:aP P 182=zC 19 2 g.kn [(4,none)]:=by kernel_rfl
def c.oe:aP P 127=zC 19 2 g.oe [(4,none)]:=by kernel_rfl
def c.pa:aP P 181=zC 19 2 g.pa [(4,none)]:=by kernel_rfl
def c.ou:aP P 157=zC 19 2 g.ou [(4,none)]:=by kernel_rfl
def c.o9:aP P 180=zC 19 2 g.o9 [(4,none)]:=by kernel_rfl
def c.fh:aP P 341=zC 14 2 g.fh []:=by kernel_rfl
def c.iy:aP P 255=zC 9 2 g.iy []:=by kernel_rfl
def c.ja:aP P 352=zC 53 4 g.ja []:=by kernel_rfl
def c.qj:aP P 391=zC 53 4 g.qj []:=by kernel_rfl
def c.lz:aP P 372=zC 148 5 g.lz []:=by kernel_rfl
end Go.Ab
