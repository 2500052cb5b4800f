/- Lemmas for the law ComposeBuildsMadeModels, part 19. No conditions. -/
import Derived.Test.YthhdboljpgdcpaaGreatDoorAP15
import Derived.KernelRfl
set_option maxRecDepth 100000
set_option maxHeartbeats 4000000
set_option linter.all false
namespace Go.Ab
open Go.Proofs
def c.dg:aV P 208=zC 2 0 g.dg [(0,some 8)]:=by kernel_rfl
def c.dh:aV P 210=zC 10 2 g.dh [(4,some 8)]:=by kernel_rfl
def c.bq:aV P 212=zC 26 2 g.bq [(4,some 8)]:=by kernel_rfl
def c.fh:aV P 124=zC 28 2 g.fh [(4,some 8)]:=by kernel_rfl
def c.m8:aV P 165=zC 14 0 g.m8 [(0,some 9)]:=by kernel_rfl
def c.dj:aV P 218=zC 21 1 g.dj [(2,none)]:=by kernel_rfl
def c.gg:aV P 221=zC 11 2 g.gg [(4,none)]:=by kernel_rfl
def c.gh:aV P 222=zC 17 3 g.gh [(5,some 8)]:=by kernel_rfl
def c.an:aV P 123=zC 17 1 g.an [(2,some 9)]:=by kernel_rfl
def c.di:aV P 211=zC 19 2 g.di [(4,none)]:=by kernel_rfl
def c.nj:aV P 197=zC 12 1 g.nj [(2,some 8)]:=by kernel_rfl
def c.na:aV P 167=zC 2 0 g.na [(0,some 9)]:=by kernel_rfl
def c.gi:aV P 234=zC 13 1 g.gi [(2,none)]:=by kernel_rfl
def c.gj:aV P 236=zC 2 0 g.gj [(0,some 8)]:=by kernel_rfl
def c.gk:aV P 239=zC 11 2 g.gk [(4,some 8)]:=by kernel_rfl
def c.gl:aV P 241=zC 11 2 g.gl [(4,some 8)]:=by kernel_rfl
def c.fv:aV P 163=zC 2 0 g.fv [(0,some 9)]:=by kernel_rfl
def c.fw:aV P 193=zC 13 1 g.fw [(2,none)]:=by kernel_rfl
def c.bn:aV P 195=zC 2 0 g.bn [(0,some 8)]:=by kernel_rfl
def c.f9:aV P 198=zC 11 2 g.f9 [(4,some 8)]:=by kernel_rfl
def c.bp:aV P 200=zC 11 2 g.bp [(4,some 8)]:=by kernel_rfl
def c.jk:aV P 169=zC 24 2 g.jk [(4,none)]:=by kernel_rfl
def c.m9:aV P 166=zC 10 0 g.m9 [(0,some 9)]:=by kernel_rfl
def c.dq:aV P 224=zC 8 1 g.dq [(2,none)]:=by kernel_rfl
def c.dr:aV P 225=zC 2 0 g.dr [(0,some 8)]:=by kernel_rfl
def c.dt:aV P 227=zC 11 2 g.dt [(4,some 8)]:=by kernel_rfl
def c.du:aV P 228=zC 11 2 g.du [(4,some 8)]:=by kernel_rfl
def c.je:aV P 139=zC 9 1 g.je [(2,none)]:=by kernel_rfl
def c.gf:aV P 215=zC 4 1 g.gf [(2,none)]:=by kernel_rfl
def c.i7:aV P 122=zC 11 2 g.i7 [(4,some 8)]:=by kernel_rfl
def c.b9:aV P 71=zC 8 1 g.b9 [(2,none)]:=by kernel_rfl
def c.b8:aV P 62=zC 8 1 g.b8 [(2,none)]:=by kernel_rfl
def c.bv:aV P 313=zC 8 1 g.bv [(2,none)]:=by kernel_rfl
def c.n7:aV P 293=zC 36 1 g.n7 [(2,none)]:=by kernel_rfl
def c.mm:aV P 142=zC 9 2 g.mm [(4,none)]:=by kernel_rfl
def c.mj:aV P 140=zC 9 2 g.mj [(4,none)]:=by kernel_rfl
def c.kx:aV P 76=zC 42 2 g.kx [(4,none)]:=by kernel_rfl
def c.l8:aV P 116=zC 42 2 g.l8 [(4,none)]:=by kernel_rfl
def c.nc:aV P 170=zC 32 3 g.nc [(6,none)]:=by kernel_rfl
def c.ne:aV P 171=zC 32 3 g.ne [(6,none)]:=by kernel_rfl
end Go.Ab
