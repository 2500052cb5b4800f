/-
Proofs for the law ProjectInvertsTwice, part 19. Conditions: none.
-/
import Derived.Test.YtalcegbealdigaaGreatDoorAP17
import Derived.KernelRfl
set_option maxRecDepth 100000
set_option maxHeartbeats 4000000
set_option linter.all false
namespace Go.Ab
open Go.Proofs
theorem c.ee : zac P F.ee = some ⟨45, 1, g.ee.er, [(2, some 3)]⟩ := by kernel_rfl
theorem c.bc : zac P F.bc = some ⟨14, 2, g.bc.er, [(4, none)]⟩ := by kernel_rfl
theorem c.an : zac P F.an = some ⟨21, 1, g.an.er, [(2, none)]⟩ := by kernel_rfl
theorem c.bx : zac P F.bx = some ⟨34, 2, g.bx.er, [(4, none)]⟩ := by kernel_rfl
theorem c.iz : zac P F.iz = some ⟨19, 2, g.iz.er, [(4, none)]⟩ := by kernel_rfl
theorem c.ep : zac P F.ep = some ⟨45, 2, g.ep.er, [(4, none)]⟩ := by kernel_rfl
theorem c.mj : zac P F.mj = some ⟨17, 1, g.mj.er, [(2, none)]⟩ := by kernel_rfl
theorem c.ej : zac P F.ej = some ⟨36, 2, g.ej.er, [(4, none)]⟩ := by kernel_rfl
theorem c.je : zac P F.je = some ⟨111, 2, g.je.er, [(4, none), (5, none)]⟩ := by kernel_rfl
theorem c.mf : zac P F.mf = some ⟨39, 2, g.mf.er, [(4, none)]⟩ := by kernel_rfl
theorem c.ml : zac P F.ml = some ⟨33, 2, g.ml.er, [(4, none)]⟩ := by kernel_rfl
theorem c.mh : zac P F.mh = some ⟨43, 2, g.mh.er, [(4, none), (5, none)]⟩ := by kernel_rfl
theorem c.i9 : zac P F.i9 = some ⟨59, 2, g.i9.er, [(4, none)]⟩ := by kernel_rfl
theorem c.d9 : zac P F.d9 = some ⟨27, 1, g.d9.er, [(2, some 3)]⟩ := by kernel_rfl
theorem c.d8 : zac P F.d8 = some ⟨2, 0, g.d8.er, [(0, none)]⟩ := by kernel_rfl
theorem c.l7 : zac P F.l7 = some ⟨15, 1, g.l7.er, [(2, none)]⟩ := by kernel_rfl
theorem c.me : zac P F.me = some ⟨20, 1, g.me.er, [(2, none), (3, none)]⟩ := by kernel_rfl
theorem c.cn : zac P F.cn = some ⟨59, 2, g.cn.er, [(4, some 3)]⟩ := by kernel_rfl
theorem c.ki : zac P F.ki = some ⟨9, 2, g.ki.er, [(4, none)]⟩ := by kernel_rfl
theorem c.fw : zac P F.fw = some ⟨9, 2, g.fw.er, [(4, none)]⟩ := by kernel_rfl
theorem c.j4 : zac P F.j4 = some ⟨21, 2, g.j4.er, [(4, some 3), (5, none)]⟩ := by kernel_rfl
theorem c.fx : zac P F.fx = some ⟨25, 2, g.fx.er, [(4, some 3)]⟩ := by kernel_rfl
theorem c.lz : zac P F.lz = some ⟨16, 1, g.lz.er, [(2, some 3)]⟩ := by kernel_rfl
theorem c.ap : zac P F.ap = some ⟨14, 2, g.ap.er, [(4, some 3)]⟩ := by kernel_rfl
theorem c.bs : zac P F.bs = some ⟨24, 2, g.bs.er, [(4, none)]⟩ := by kernel_rfl
theorem c.bu : zac P F.bu = some ⟨13, 1, g.bu.er, [(2, none)]⟩ := by kernel_rfl
theorem c.kz : zac P F.kz = some ⟨9, 2, g.kz.er, [(4, some 3)]⟩ := by kernel_rfl
theorem c.ax : zac P F.ax = some ⟨16, 1, g.ax.er, [(2, some 3)]⟩ := by kernel_rfl
theorem c.bb : zac P F.bb = some ⟨65, 1, g.bb.er, [(2, none)]⟩ := by kernel_rfl
theorem c.km : zac P F.km = some ⟨12, 1, g.km.er, [(2, none)]⟩ := by kernel_rfl
theorem c.gj : zac P F.gj = some ⟨45, 2, g.gj.er, [(4, none)]⟩ := by kernel_rfl
theorem c.gh : zac P F.gh = some ⟨10, 1, g.gh.er, [(2, none)]⟩ := by kernel_rfl
theorem c.ic : zac P F.ic = some ⟨58, 2, g.ic.er, [(4, none), (5, none)]⟩ := by kernel_rfl
theorem c.ib : zac P F.ib = some ⟨19, 2, g.ib.er, [(4, none)]⟩ := by kernel_rfl
theorem c.ii : zac P F.ii = some ⟨14, 2, g.ii.er, [(4, none)]⟩ := by kernel_rfl
theorem c.gk : zac P F.gk = some ⟨35, 2, g.gk.er, [(4, none)]⟩ := by kernel_rfl
theorem c.kj : zac P F.kj = some ⟨10, 1, g.kj.er, [(2, none)]⟩ := by kernel_rfl
theorem c.ig : zac P F.ig = some ⟨12, 1, g.ig.er, [(2, none)]⟩ := by kernel_rfl
theorem c.da : zac P F.da = some ⟨37, 3, g.da.er, [(6, some 3)]⟩ := by kernel_rfl
theorem c.gi : zac P F.gi = some ⟨36, 2, g.gi.er, [(4, none)]⟩ := by kernel_rfl
theorem c.j3 : zac P F.j3 = some ⟨26, 2, g.j3.er, [(4, none)]⟩ := by kernel_rfl
theorem c.ij : zac P F.ij = some ⟨9, 1, g.ij.er, [(2, none)]⟩ := by kernel_rfl
theorem c.gg : zac P F.gg = some ⟨68, 2, g.gg.er, [(4, none)]⟩ := by kernel_rfl
theorem c.bn : zac P F.bn = some ⟨21, 1, g.bn.er, [(2, none)]⟩ := by kernel_rfl
theorem c.fq : zac P F.fq = some ⟨24, 2, g.fq.er, [(4, none)]⟩ := by kernel_rfl
theorem c.bt : zac P F.bt = some ⟨7, 1, g.bt.er, [(2, none)]⟩ := by kernel_rfl
theorem c.fy : zac P F.fy = some ⟨64, 2, g.fy.er, [(4, none)]⟩ := by kernel_rfl
theorem c.jx : zac P F.jx = some ⟨17, 1, g.jx.er, [(2, none)]⟩ := by kernel_rfl
theorem c.jt : zac P F.jt = some ⟨42, 2, g.jt.er, [(4, none)]⟩ := by kernel_rfl
theorem c.jw : zac P F.jw = some ⟨9, 2, g.jw.er, [(4, none)]⟩ := by kernel_rfl
theorem c.cq : zac P F.cq = some ⟨30, 1, g.cq.er, [(2, none)]⟩ := by kernel_rfl
theorem c.gl : zac P F.gl = some ⟨54, 1, g.gl.er, [(2, none)]⟩ := by kernel_rfl
end Go.Ab
