/-
Proofs for the law ProjectInvertsTwice, part 20. Conditions: none.
-/
import Derived.Test.YtalcegbealdigaaGreatDoorAP17
import Derived.KernelRfl
set_option maxRecDepth 100000
set_option maxHeartbeats 4000000
set_option linter.all false
namespace Go.Ab
open Go.Proofs
theorem c.db : zac P F.db = some ⟨24, 2, g.db.er, [(4, none)]⟩ := by kernel_rfl
theorem c.gt : zac P F.gt = some ⟨26, 1, g.gt.er, [(2, none)]⟩ := by kernel_rfl
theorem c.cr : zac P F.cr = some ⟨85, 2, g.cr.er, [(4, none)]⟩ := by kernel_rfl
theorem c.cm : zac P F.cm = some ⟨50, 2, g.cm.er, [(4, none)]⟩ := by kernel_rfl
theorem c.av : zac P F.av = some ⟨69, 2, g.av.er, [(4, none)]⟩ := by kernel_rfl
theorem c.j5 : zac P F.j5 = some ⟨9, 2, g.j5.er, [(4, none)]⟩ := by kernel_rfl
theorem c.af : zac P F.af = some ⟨42, 1, g.af.er, [(2, some 8)]⟩ := by kernel_rfl
theorem c.aa : zac P F.aa = some ⟨100, 3, g.aa.er, [(6, some 8)]⟩ := by kernel_rfl
theorem c.fm : zac P F.fm = some ⟨38, 2, g.fm.er, [(4, none)]⟩ := by kernel_rfl
theorem c.fo : zac P F.fo = some ⟨27, 2, g.fo.er, [(4, none)]⟩ := by kernel_rfl
theorem c.ar : zac P F.ar = some ⟨48, 2, g.ar.er, [(4, some 8)]⟩ := by kernel_rfl
theorem c.ae : zac P F.ae = some ⟨97, 3, g.ae.er, [(6, some 8)]⟩ := by kernel_rfl
theorem c.ay : zac P F.ay = some ⟨52, 1, g.ay.er, [(2, none)]⟩ := by kernel_rfl
theorem c.am : zac P F.am = some ⟨31, 1, g.am.er, [(2, some 8)]⟩ := by kernel_rfl
theorem c.jo : zac P F.jo = some ⟨18, 2, g.jo.er, [(4, none)]⟩ := by kernel_rfl
theorem c.bg : zac P F.bg = some ⟨11, 2, g.bg.er, [(4, some 2)]⟩ := by kernel_rfl
theorem c.ah : zac P F.ah = some ⟨107, 2, g.ah.er, [(4, none)]⟩ := by kernel_rfl
theorem c.fu : zac P F.fu = some ⟨9, 1, g.fu.er, [(2, none)]⟩ := by kernel_rfl
theorem c.cg : zac P F.cg = some ⟨40, 2, g.cg.er, [(4, none)]⟩ := by kernel_rfl
theorem c.jn : zac P F.jn = some ⟨33, 2, g.jn.er, [(4, none)]⟩ := by kernel_rfl
theorem c.bh : zac P F.bh = some ⟨15, 3, g.bh.er, [(6, none)]⟩ := by kernel_rfl
theorem c.fc : zac P F.fc = some ⟨86, 2, g.fc.er, [(4, none)]⟩ := by kernel_rfl
theorem c.fv : zac P F.fv = some ⟨24, 3, g.fv.er, [(6, none)]⟩ := by kernel_rfl
theorem c.jr : zac P F.jr = some ⟨20, 2, g.jr.er, [(4, none)]⟩ := by kernel_rfl
theorem c.ky : zac P F.ky = some ⟨37, 2, g.ky.er, [(4, none)]⟩ := by kernel_rfl
theorem c.fb : zac P F.fb = some ⟨58, 1, g.fb.er, [(2, some 8)]⟩ := by kernel_rfl
theorem c.jm : zac P F.jm = some ⟨9, 1, g.jm.er, [(2, none)]⟩ := by kernel_rfl
theorem c.fa : zac P F.fa = some ⟨93, 2, g.fa.er, [(4, none)]⟩ := by kernel_rfl
theorem c.fj : zac P F.fj = some ⟨105, 1, g.fj.er, [(2, none)]⟩ := by kernel_rfl
theorem c.bf : zac P F.bf = some ⟨171, 3, g.bf.er, [(6, some 8), (7, none)]⟩ := by kernel_rfl
theorem c.fk : zac P F.fk = some ⟨33, 4, g.fk.er, [(8, none)]⟩ := by kernel_rfl
theorem c.cj : zac P F.cj = some ⟨100, 2, g.cj.er, [(4, none)]⟩ := by kernel_rfl
theorem c.kg : zac P F.kg = some ⟨41, 2, g.kg.er, [(4, none)]⟩ := by kernel_rfl
theorem c.jp : zac P F.jp = some ⟨26, 3, g.jp.er, [(6, none)]⟩ := by kernel_rfl
theorem c.ch : zac P F.ch = some ⟨24, 2, g.ch.er, [(4, none)]⟩ := by kernel_rfl
theorem c.jq : zac P F.jq = some ⟨52, 2, g.jq.er, [(4, none)]⟩ := by kernel_rfl
theorem c.bj : zac P F.bj = some ⟨53, 2, g.bj.er, [(4, none)]⟩ := by kernel_rfl
theorem c.au : zac P F.au = some ⟨47, 2, g.au.er, [(4, none)]⟩ := by kernel_rfl
theorem c.im : zac P F.im = some ⟨17, 2, g.im.er, [(4, none)]⟩ := by kernel_rfl
theorem c.ba : zac P F.ba = some ⟨30, 3, g.ba.er, [(6, some 8)]⟩ := by kernel_rfl
theorem c.gz : zac P F.gz = some ⟨20, 4, g.gz.er, [(6, some 8)]⟩ := by kernel_rfl
theorem c.bi : zac P F.bi = some ⟨31, 1, g.bi.er, [(2, none)]⟩ := by kernel_rfl
theorem c.gn : zac P F.gn = some ⟨6, 1, g.gn.er, [(2, none)]⟩ := by kernel_rfl
theorem c.bk : zac P F.bk = some ⟨19, 1, g.bk.er, [(2, some 8)]⟩ := by kernel_rfl
theorem c.g8 : zac P F.g8 = some ⟨8, 2, g.g8.er, [(4, some 8)]⟩ := by kernel_rfl
theorem c.ld : zac P F.ld = some ⟨10, 0, g.ld.er, [(0, some 9)]⟩ := by kernel_rfl
theorem c.dq : zac P F.dq = some ⟨32, 1, g.dq.er, [(2, none)]⟩ := by kernel_rfl
theorem c.dr : zac P F.dr = some ⟨2, 0, g.dr.er, [(0, some 8)]⟩ := by kernel_rfl
theorem c.dt : zac P F.dt = some ⟨10, 2, g.dt.er, [(4, some 8)]⟩ := by kernel_rfl
theorem c.gw : zac P F.gw = some ⟨28, 2, g.gw.er, [(4, some 8)]⟩ := by kernel_rfl
theorem c.lg : zac P F.lg = some ⟨14, 0, g.lg.er, [(0, some 9)]⟩ := by kernel_rfl
end Go.Ab
