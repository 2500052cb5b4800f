/-
Proofs for the law ProjectInvertsTwice, part 21. Conditions: none.
-/
import Derived.Test.YtalcegbealdigaaGreatDoorAP17
import Derived.KernelRfl
set_option maxRecDepth 100000
set_option maxHeartbeats 4000000
set_option linter.all false
namespace Go.Ab
open Go.Proofs
theorem c.dw : zac P F.dw = some ⟨21, 1, g.dw.er, [(2, none)]⟩ := by kernel_rfl
theorem c.ir : zac P F.ir = some ⟨11, 2, g.ir.er, [(4, none)]⟩ := by kernel_rfl
theorem c.dz : zac P F.dz = some ⟨17, 3, g.dz.er, [(5, some 8)]⟩ := by kernel_rfl
theorem c.ak : zac P F.ak = some ⟨17, 1, g.ak.er, [(2, some 9)]⟩ := by kernel_rfl
theorem c.du : zac P F.du = some ⟨19, 2, g.du.er, [(4, none)]⟩ := by kernel_rfl
theorem c.l4 : zac P F.l4 = some ⟨12, 1, g.l4.er, [(2, some 8)]⟩ := by kernel_rfl
theorem c.lj : zac P F.lj = some ⟨2, 0, g.lj.er, [(0, some 9)]⟩ := by kernel_rfl
theorem c.d5 : zac P F.d5 = some ⟨13, 1, g.d5.er, [(2, none)]⟩ := by kernel_rfl
theorem c.d6 : zac P F.d6 = some ⟨2, 0, g.d6.er, [(0, some 8)]⟩ := by kernel_rfl
theorem c.d7 : zac P F.d7 = some ⟨11, 2, g.d7.er, [(4, some 8)]⟩ := by kernel_rfl
theorem c.dg : zac P F.dg = some ⟨2, 0, g.dg.er, [(0, some 9)]⟩ := by kernel_rfl
theorem c.dh : zac P F.dh = some ⟨13, 1, g.dh.er, [(2, none)]⟩ := by kernel_rfl
theorem c.bo : zac P F.bo = some ⟨2, 0, g.bo.er, [(0, some 8)]⟩ := by kernel_rfl
theorem c.dj : zac P F.dj = some ⟨11, 2, g.dj.er, [(4, some 8)]⟩ := by kernel_rfl
theorem c.io : zac P F.io = some ⟨24, 2, g.io.er, [(4, none)]⟩ := by kernel_rfl
theorem c.lh : zac P F.lh = some ⟨10, 0, g.lh.er, [(0, some 9)]⟩ := by kernel_rfl
theorem c.d0 : zac P F.d0 = some ⟨8, 1, g.d0.er, [(2, none)]⟩ := by kernel_rfl
theorem c.d3 : zac P F.d3 = some ⟨2, 0, g.d3.er, [(0, some 8)]⟩ := by kernel_rfl
theorem c.d4 : zac P F.d4 = some ⟨11, 2, g.d4.er, [(4, some 8)]⟩ := by kernel_rfl
theorem c.gm : zac P F.gm = some ⟨9, 1, g.gm.er, [(2, none)]⟩ := by kernel_rfl
theorem c.dv : zac P F.dv = some ⟨4, 1, g.dv.er, [(2, none)]⟩ := by kernel_rfl
theorem c.kq : zac P F.kq = some ⟨11, 2, g.kq.er, [(4, some 8)]⟩ := by kernel_rfl
theorem c.bm : zac P F.bm = some ⟨8, 1, g.bm.er, [(2, none)]⟩ := by kernel_rfl
theorem c.bl : zac P F.bl = some ⟨8, 1, g.bl.er, [(2, none)]⟩ := by kernel_rfl
theorem c.az : zac P F.az = some ⟨8, 1, g.az.er, [(2, none)]⟩ := by kernel_rfl
theorem c.be : zac P F.be = some ⟨8, 1, g.be.er, [(2, none)]⟩ := by kernel_rfl
theorem c.mc : zac P F.mc = some ⟨36, 1, g.mc.er, [(2, none)]⟩ := by kernel_rfl
theorem c.j6 : zac P F.j6 = some ⟨9, 2, g.j6.er, [(4, none)]⟩ := by kernel_rfl
theorem c.gp : zac P F.gp = some ⟨9, 2, g.gp.er, [(4, none)]⟩ := by kernel_rfl
theorem c.kn : zac P F.kn = some ⟨9, 2, g.kn.er, [(4, none)]⟩ := by kernel_rfl
theorem c.kx : zac P F.kx = some ⟨42, 2, g.kx.er, [(4, none)]⟩ := by kernel_rfl
theorem c.kd : zac P F.kd = some ⟨42, 2, g.kd.er, [(4, none)]⟩ := by kernel_rfl
theorem c.lk : zac P F.lk = some ⟨32, 3, g.lk.er, [(6, none)]⟩ := by kernel_rfl
theorem c.lm : zac P F.lm = some ⟨32, 3, g.lm.er, [(6, none)]⟩ := by kernel_rfl
theorem c.l6 : zac P F.l6 = some ⟨26, 2, g.l6.er, [(4, none)]⟩ := by kernel_rfl
theorem c.mi : zac P F.mi = some ⟨27, 2, g.mi.er, [(4, none)]⟩ := by kernel_rfl
theorem c.go : zac P F.go = some ⟨19, 2, g.go.er, [(4, none)]⟩ := by kernel_rfl
theorem c.ku : zac P F.ku = some ⟨19, 2, g.ku.er, [(4, none)]⟩ := by kernel_rfl
theorem c.lc : zac P F.lc = some ⟨19, 2, g.lc.er, [(4, none)]⟩ := by kernel_rfl
theorem c.k9 : zac P F.k9 = some ⟨19, 2, g.k9.er, [(4, none)]⟩ := by kernel_rfl
theorem c.bz : zac P F.bz = some ⟨14, 2, g.bz.er, []⟩ := by kernel_rfl
theorem c.kw : zac P F.kw = some ⟨9, 2, g.kw.er, []⟩ := by kernel_rfl
theorem c.kb : zac P F.kb = some ⟨9, 2, g.kb.er, []⟩ := by kernel_rfl
theorem c.iy : zac P F.iy = some ⟨53, 4, g.iy.er, []⟩ := by kernel_rfl
theorem c.mq : zac P F.mq = some ⟨53, 4, g.mq.er, []⟩ := by kernel_rfl
theorem c.ip : zac P F.ip = some ⟨53, 4, g.ip.er, []⟩ := by kernel_rfl
theorem c.jg : zac P F.jg = some ⟨148, 5, g.jg.er, []⟩ := by kernel_rfl
theorem c.lr : zac P F.lr = some ⟨63, 3, g.lr.er, []⟩ := by kernel_rfl
theorem c.kr : zac P F.kr = some ⟨63, 3, g.kr.er, []⟩ := by kernel_rfl
theorem c.ff : zac P F.ff = some ⟨33, 1, g.ff.er, [(2, some 8), (3, none)]⟩ := by kernel_rfl
theorem c.jy : zac P F.jy = some ⟨64, 2, g.jy.er, [(4, none)]⟩ := by kernel_rfl
theorem c.ge : zac P F.ge = some ⟨8, 2, g.ge.er, [(3, none)]⟩ := by kernel_rfl
end Go.Ab
