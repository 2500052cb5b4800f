/-
Proofs for the law ProjectInvertsTwice, part 18. Conditions: none.
-/
import Derived.Test.YtalcegbealdigaaGreatDoorAP17
import Derived.KernelRfl
set_option maxRecDepth 100000
set_option maxHeartbeats 4000000
set_option linter.all false
namespace Go.Ab
open Go.Proofs
theorem c.ck : zac P F.ck = some ⟨24, 2, g.ck.er, [(4, none)]⟩ := by kernel_rfl
theorem c.gf : zac P F.gf = some ⟨9, 2, g.gf.er, [(4, none)]⟩ := by kernel_rfl
theorem c.jz : zac P F.jz = some ⟨31, 1, g.jz.er, [(2, some 7), (3, none)]⟩ := by kernel_rfl
theorem c.kf : zac P F.kf = some ⟨64, 2, g.kf.er, [(4, none)]⟩ := by kernel_rfl
theorem c.ia : zac P F.ia = some ⟨8, 2, g.ia.er, [(3, none)]⟩ := by kernel_rfl
theorem c.ju : zac P F.ju = some ⟨65, 1, g.ju.er, [(2, none)]⟩ := by kernel_rfl
theorem c.f9 : zac P F.f9 = some ⟨8, 2, g.f9.er, [(3, none)]⟩ := by kernel_rfl
theorem c.j7 : zac P F.j7 = some ⟨36, 2, g.j7.er, [(4, none)]⟩ := by kernel_rfl
theorem c.ko : zac P F.ko = some ⟨12, 2, g.ko.er, [(3, none)]⟩ := by kernel_rfl
theorem c.bv : zac P F.bv = some ⟨22, 2, g.bv.er, [(4, none)]⟩ := by kernel_rfl
theorem c.ke : zac P F.ke = some ⟨9, 1, g.ke.er, [(2, some 2)]⟩ := by kernel_rfl
theorem c.j8 : zac P F.j8 = some ⟨9, 2, g.j8.er, [(4, none)]⟩ := by kernel_rfl
theorem c.gr : zac P F.gr = some ⟨8, 2, g.gr.er, [(3, none)]⟩ := by kernel_rfl
theorem c.de : zac P F.de = some ⟨20, 2, g.de.er, [(4, none)]⟩ := by kernel_rfl
theorem c.g9 : zac P F.g9 = some ⟨18, 1, g.g9.er, [(2, none)]⟩ := by kernel_rfl
theorem c.ln : zac P F.ln = some ⟨6, 1, g.ln.er, [(2, none)]⟩ := by kernel_rfl
theorem c.mr : zac P F.mr = some ⟨104, 4, g.mr.er, [(8, none)]⟩ := by kernel_rfl
theorem c.jl : zac P F.jl = some ⟨44, 0, g.jl.er, [(0, none)]⟩ := by kernel_rfl
theorem c.ai : zac P F.ai = some ⟨15, 2, g.ai.er, [(4, none)]⟩ := by kernel_rfl
theorem c.jh : zac P F.jh = some ⟨144, 5, g.jh.er, [(10, some 8)]⟩ := by kernel_rfl
theorem c.jv : zac P F.jv = some ⟨11, 1, g.jv.er, [(2, some 3)]⟩ := by kernel_rfl
theorem c.ji : zac P F.ji = some ⟨18, 1, g.ji.er, [(2, some 2)]⟩ := by kernel_rfl
theorem c.aj : zac P F.aj = some ⟨83, 2, g.aj.er, [(4, some 8)]⟩ := by kernel_rfl
theorem c.bq : zac P F.bq = some ⟨31, 3, g.bq.er, [(6, none)]⟩ := by kernel_rfl
theorem c.fe : zac P F.fe = some ⟨28, 4, g.fe.er, [(8, some 8)]⟩ := by kernel_rfl
theorem c.mo : zac P F.mo = some ⟨6, 1, g.mo.er, [(2, none)]⟩ := by kernel_rfl
theorem c.mn : zac P F.mn = some ⟨8, 1, g.mn.er, [(2, none)]⟩ := by kernel_rfl
theorem c.eq : zac P F.eq = some ⟨19, 1, g.eq.er, [(2, none)]⟩ := by kernel_rfl
theorem c.l5 : zac P F.l5 = some ⟨29, 2, g.l5.er, [(4, none)]⟩ := by kernel_rfl
theorem c.iu : zac P F.iu = some ⟨32, 1, g.iu.er, [(2, none)]⟩ := by kernel_rfl
theorem c.jf : zac P F.jf = some ⟨15, 1, g.jf.er, [(2, none)]⟩ := by kernel_rfl
theorem c.l9 : zac P F.l9 = some ⟨32, 1, g.l9.er, [(2, none)]⟩ := by kernel_rfl
theorem c.ja : zac P F.ja = some ⟨21, 2, g.ja.er, [(4, none)]⟩ := by kernel_rfl
theorem c.ma : zac P F.ma = some ⟨16, 3, g.ma.er, []⟩ := by kernel_rfl
theorem c.jc : zac P F.jc = some ⟨25, 1, g.jc.er, [(2, none)]⟩ := by kernel_rfl
theorem c.bp : zac P F.bp = some ⟨10, 2, g.bp.er, [(4, none)]⟩ := by kernel_rfl
theorem c.jd : zac P F.jd = some ⟨6, 1, g.jd.er, [(2, none)]⟩ := by kernel_rfl
theorem c.eu : zac P F.eu = some ⟨10, 1, g.eu.er, [(2, some 7), (3, none)]⟩ := by kernel_rfl
theorem c.fh : zac P F.fh = some ⟨5, 1, g.fh.er, [(2, none)]⟩ := by kernel_rfl
theorem c.jj : zac P F.jj = some ⟨39, 1, g.jj.er, [(2, some 8), (3, none)]⟩ := by kernel_rfl
theorem c.jk : zac P F.jk = some ⟨10, 1, g.jk.er, [(2, some 7), (3, none)]⟩ := by kernel_rfl
theorem c.fi : zac P F.fi = some ⟨5, 1, g.fi.er, [(2, none)]⟩ := by kernel_rfl
theorem c.fg : zac P F.fg = some ⟨52, 3, g.fg.er, [(6, some 7), (7, none)]⟩ := by kernel_rfl
theorem c.dm : zac P F.dm = some ⟨11, 2, g.dm.er, [(4, some 3)]⟩ := by kernel_rfl
theorem c.iq : zac P F.iq = some ⟨9, 2, g.iq.er, [(4, none)]⟩ := by kernel_rfl
theorem c.i6 : zac P F.i6 = some ⟨30, 2, g.i6.er, [(4, some 3), (5, none)]⟩ := by kernel_rfl
theorem c.bw : zac P F.bw = some ⟨14, 1, g.bw.er, [(2, none)]⟩ := by kernel_rfl
theorem c.l8 : zac P F.l8 = some ⟨12, 2, g.l8.er, [(4, some 3)]⟩ := by kernel_rfl
theorem c.di : zac P F.di = some ⟨48, 1, g.di.er, [(2, none)]⟩ := by kernel_rfl
theorem c.mg : zac P F.mg = some ⟨11, 1, g.mg.er, [(2, some 3)]⟩ := by kernel_rfl
theorem c.i7 : zac P F.i7 = some ⟨53, 2, g.i7.er, [(4, some 3)]⟩ := by kernel_rfl
end Go.Ab
