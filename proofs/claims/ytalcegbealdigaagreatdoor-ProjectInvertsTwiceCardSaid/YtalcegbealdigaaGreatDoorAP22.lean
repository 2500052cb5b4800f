/-
Proofs for the law ProjectInvertsTwice, part 22. Conditions: none.
-/
import Derived.Test.YtalcegbealdigaaGreatDoorAP17
import Derived.KernelRfl
set_option maxRecDepth 100000
set_option maxHeartbeats 4000000
set_option linter.all false
namespace Go.Ab
open Go.Proofs
theorem c.ft : zac P F.ft = some ⟨103, 1, g.ft.er, [(2, none)]⟩ := by kernel_rfl
theorem c.c9 : zac P F.c9 = some ⟨27, 2, g.c9.er, [(4, none)]⟩ := by kernel_rfl
theorem c.j9 : zac P F.j9 = some ⟨9, 1, g.j9.er, [(2, none)]⟩ := by kernel_rfl
theorem c.ka : zac P F.ka = some ⟨17, 3, g.ka.er, [(6, none)]⟩ := by kernel_rfl
theorem c.gv : zac P F.gv = some ⟨8, 2, g.gv.er, [(3, none)]⟩ := by kernel_rfl
end Go.Ab
