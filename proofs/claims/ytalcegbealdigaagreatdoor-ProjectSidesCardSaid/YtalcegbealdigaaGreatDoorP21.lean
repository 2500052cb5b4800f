/-
Proofs for the law ProjectSides of the seat, part 21 (texts DevC1). Conditions: none.
-/
import Derived.Test.YtalcegbealdigaaGreatDoorP19
import Derived.KernelRfl
set_option maxRecDepth 100000
set_option maxHeartbeats 4000000
set_option linter.all false
namespace Go.Ab
open Go.Proofs
theorem c.rational_limbs_at : compFn P F.rational_limbs_at = some ⟨14, 2, g.rational_limbs_at.er, [(4, none)]⟩ := by kernel_rfl
theorem c.rational_limbs_clean : compFn P F.rational_limbs_clean = some ⟨21, 1, g.rational_limbs_clean.er, [(2, none)]⟩ := by kernel_rfl
theorem c.rational_limbs_cmp : compFn P F.rational_limbs_cmp = some ⟨34, 2, g.rational_limbs_cmp.er, [(4, none)]⟩ := by kernel_rfl
theorem c.rational_limbs_gcd : compFn P F.rational_limbs_gcd = some ⟨19, 2, g.rational_limbs_gcd.er, [(4, none)]⟩ := by kernel_rfl
theorem c.rational_limbs_left : compFn P F.rational_limbs_left = some ⟨45, 2, g.rational_limbs_left.er, [(4, none)]⟩ := by kernel_rfl
theorem c.rational_limbs_length : compFn P F.rational_limbs_length = some ⟨17, 1, g.rational_limbs_length.er, [(2, none)]⟩ := by kernel_rfl
theorem c.rational_limbs_minus : compFn P F.rational_limbs_minus = some ⟨36, 2, g.rational_limbs_minus.er, [(4, none)]⟩ := by kernel_rfl
theorem c.rational_limbs_over : compFn P F.rational_limbs_over = some ⟨111, 2, g.rational_limbs_over.er, [(4, none), (5, none)]⟩ := by kernel_rfl
theorem c.rational_limbs_plus : compFn P F.rational_limbs_plus = some ⟨39, 2, g.rational_limbs_plus.er, [(4, none)]⟩ := by kernel_rfl
theorem c.rational_limbs_right : compFn P F.rational_limbs_right = some ⟨33, 2, g.rational_limbs_right.er, [(4, none)]⟩ := by kernel_rfl
theorem c.rational_limbs_small : compFn P F.rational_limbs_small = some ⟨43, 2, g.rational_limbs_small.er, [(4, none), (5, none)]⟩ := by kernel_rfl
theorem c.rational_limbs_times : compFn P F.rational_limbs_times = some ⟨59, 2, g.rational_limbs_times.er, [(4, none)]⟩ := by kernel_rfl
theorem c.rational_of : compFn P F.rational_of = some ⟨27, 1, g.rational_of.er, [(2, some 3)]⟩ := by kernel_rfl
theorem c.rational_one : compFn P F.rational_one = some ⟨2, 0, g.rational_one.er, [(0, none)]⟩ := by kernel_rfl
theorem c.rational_proper : compFn P F.rational_proper = some ⟨15, 1, g.rational_proper.er, [(2, none)]⟩ := by kernel_rfl
theorem c.rational_whole : compFn P F.rational_whole = some ⟨20, 1, g.rational_whole.er, [(2, none), (3, none)]⟩ := by kernel_rfl
theorem c.ref01_Add : compFn P F.ref01_Add = some ⟨59, 2, g.ref01_Add.er, [(4, some 3)]⟩ := by kernel_rfl
theorem c.ref01_Compare : compFn P F.ref01_Compare = some ⟨9, 2, g.ref01_Compare.er, [(4, none)]⟩ := by kernel_rfl
theorem c.ref01_Less : compFn P F.ref01_Less = some ⟨9, 2, g.ref01_Less.er, [(4, none)]⟩ := by kernel_rfl
theorem c.ref01_Light : compFn P F.ref01_Light = some ⟨17, 2, g.ref01_Light.er, [(4, none)]⟩ := by kernel_rfl
theorem c.ref01_Make : compFn P F.ref01_Make = some ⟨21, 2, g.ref01_Make.er, [(4, some 3), (5, none)]⟩ := by kernel_rfl
theorem c.ref01_Neg : compFn P F.ref01_Neg = some ⟨16, 1, g.ref01_Neg.er, [(2, some 3)]⟩ := by kernel_rfl
theorem c.ref01_Of : compFn P F.ref01_Of = some ⟨14, 2, g.ref01_Of.er, [(4, some 3)]⟩ := by kernel_rfl
theorem c.ref01_Same : compFn P F.ref01_Same = some ⟨24, 2, g.ref01_Same.er, [(4, none)]⟩ := by kernel_rfl
theorem c.ref01_Sign : compFn P F.ref01_Sign = some ⟨13, 1, g.ref01_Sign.er, [(2, none)]⟩ := by kernel_rfl
theorem c.ref01_Sub : compFn P F.ref01_Sub = some ⟨9, 2, g.ref01_Sub.er, [(4, some 3)]⟩ := by kernel_rfl
theorem c.ref01_Take : compFn P F.ref01_Take = some ⟨16, 1, g.ref01_Take.er, [(2, some 3)]⟩ := by kernel_rfl
theorem c.ref01_Valid : compFn P F.ref01_Valid = some ⟨65, 1, g.ref01_Valid.er, [(2, none)]⟩ := by kernel_rfl
theorem c.ref01_absolute : compFn P F.ref01_absolute = some ⟨12, 1, g.ref01_absolute.er, [(2, none)]⟩ := by kernel_rfl
theorem c.ref01_compare : compFn P F.ref01_compare = some ⟨45, 2, g.ref01_compare.er, [(4, none)]⟩ := by kernel_rfl
theorem c.ref01_den : compFn P F.ref01_den = some ⟨10, 1, g.ref01_den.er, [(2, none)]⟩ := by kernel_rfl
theorem c.ref01_divide : compFn P F.ref01_divide = some ⟨58, 2, g.ref01_divide.er, [(4, none), (5, none)]⟩ := by kernel_rfl
theorem c.ref01_divisor : compFn P F.ref01_divisor = some ⟨19, 2, g.ref01_divisor.er, [(4, none)]⟩ := by kernel_rfl
theorem c.ref01_limb : compFn P F.ref01_limb = some ⟨14, 2, g.ref01_limb.er, [(4, none)]⟩ := by kernel_rfl
theorem c.ref01_minus : compFn P F.ref01_minus = some ⟨35, 2, g.ref01_minus.er, [(4, none)]⟩ := by kernel_rfl
theorem c.ref01_natural : compFn P F.ref01_natural = some ⟨10, 1, g.ref01_natural.er, [(2, none)]⟩ := by kernel_rfl
theorem c.ref01_one : compFn P F.ref01_one = some ⟨12, 1, g.ref01_one.er, [(2, none)]⟩ := by kernel_rfl
theorem c.ref01_over : compFn P F.ref01_over = some ⟨37, 3, g.ref01_over.er, [(6, some 3)]⟩ := by kernel_rfl
theorem c.ref01_plus : compFn P F.ref01_plus = some ⟨36, 2, g.ref01_plus.er, [(4, none)]⟩ := by kernel_rfl
theorem c.ref01_same : compFn P F.ref01_same = some ⟨26, 2, g.ref01_same.er, [(4, none)]⟩ := by kernel_rfl
theorem c.ref01_sign : compFn P F.ref01_sign = some ⟨9, 1, g.ref01_sign.er, [(2, none)]⟩ := by kernel_rfl
theorem c.ref01_times : compFn P F.ref01_times = some ⟨68, 2, g.ref01_times.er, [(4, none)]⟩ := by kernel_rfl
theorem c.ref01_trim : compFn P F.ref01_trim = some ⟨21, 1, g.ref01_trim.er, [(2, none)]⟩ := by kernel_rfl
theorem c.ref02_Add : compFn P F.ref02_Add = some ⟨24, 2, g.ref02_Add.er, [(4, none)]⟩ := by kernel_rfl
theorem c.ref02_Constant : compFn P F.ref02_Constant = some ⟨7, 1, g.ref02_Constant.er, [(2, none)]⟩ := by kernel_rfl
theorem c.ref02_Same : compFn P F.ref02_Same = some ⟨42, 2, g.ref02_Same.er, [(4, none)]⟩ := by kernel_rfl
theorem c.ref02_Take : compFn P F.ref02_Take = some ⟨30, 1, g.ref02_Take.er, [(2, none)]⟩ := by kernel_rfl
theorem c.ref02_Valid : compFn P F.ref02_Valid = some ⟨54, 1, g.ref02_Valid.er, [(2, none)]⟩ := by kernel_rfl
theorem c.ref02_order : compFn P F.ref02_order = some ⟨24, 2, g.ref02_order.er, [(4, none)]⟩ := by kernel_rfl
theorem c.ref02_possible : compFn P F.ref02_possible = some ⟨26, 1, g.ref02_possible.er, [(2, none)]⟩ := by kernel_rfl
theorem c.ref02_put : compFn P F.ref02_put = some ⟨85, 2, g.ref02_put.er, [(4, none)]⟩ := by kernel_rfl
theorem c.ref03_Check : compFn P F.ref03_Check = some ⟨50, 2, g.ref03_Check.er, [(4, none)]⟩ := by kernel_rfl
end Go.Ab
