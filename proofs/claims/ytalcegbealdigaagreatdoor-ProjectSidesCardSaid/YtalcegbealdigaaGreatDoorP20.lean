/-
Proofs for the law ProjectSides of the seat, part 20 (texts DevC0). Conditions: none.
-/
import Derived.Test.YtalcegbealdigaaGreatDoorP19
import Derived.KernelRfl
set_option maxRecDepth 100000
set_option maxHeartbeats 4000000
set_option linter.all false
namespace Go.Ab
open Go.Proofs
theorem c.automaton_Copy : compFn P F.automaton_Copy = some ⟨24, 2, g.automaton_Copy.er, [(4, none)]⟩ := by kernel_rfl
theorem c.automaton_IsZero : compFn P F.automaton_IsZero = some ⟨9, 2, g.automaton_IsZero.er, [(4, none)]⟩ := by kernel_rfl
theorem c.automaton_Normal : compFn P F.automaton_Normal = some ⟨31, 1, g.automaton_Normal.er, [(2, some 7), (3, none)]⟩ := by kernel_rfl
theorem c.automaton_Tidy : compFn P F.automaton_Tidy = some ⟨64, 2, g.automaton_Tidy.er, [(4, none)]⟩ := by kernel_rfl
theorem c.automaton_Tidy_k1 : compFn P F.automaton_Tidy_k1 = some ⟨8, 2, g.automaton_Tidy_k1.er, [(3, none)]⟩ := by kernel_rfl
theorem c.automaton_Valid : compFn P F.automaton_Valid = some ⟨65, 1, g.automaton_Valid.er, [(2, none)]⟩ := by kernel_rfl
theorem c.automaton_Valid_k1 : compFn P F.automaton_Valid_k1 = some ⟨8, 2, g.automaton_Valid_k1.er, [(3, none)]⟩ := by kernel_rfl
theorem c.automaton_inside : compFn P F.automaton_inside = some ⟨36, 2, g.automaton_inside.er, [(4, none)]⟩ := by kernel_rfl
theorem c.automaton_inside_k1 : compFn P F.automaton_inside_k1 = some ⟨12, 2, g.automaton_inside_k1.er, [(3, none)]⟩ := by kernel_rfl
theorem c.automaton_order : compFn P F.automaton_order = some ⟨22, 2, g.automaton_order.er, [(4, none)]⟩ := by kernel_rfl
theorem c.automaton_ring : compFn P F.automaton_ring = some ⟨9, 1, g.automaton_ring.er, [(2, some 2)]⟩ := by kernel_rfl
theorem c.automaton_weights : compFn P F.automaton_weights = some ⟨9, 2, g.automaton_weights.er, [(4, none)]⟩ := by kernel_rfl
theorem c.automaton_weights_k1 : compFn P F.automaton_weights_k1 = some ⟨8, 2, g.automaton_weights_k1.er, [(3, none)]⟩ := by kernel_rfl
theorem c.cmp_Compare_int : compFn P F.cmp_Compare_int = some ⟨20, 2, g.cmp_Compare_int.er, [(4, none)]⟩ := by kernel_rfl
theorem c.cmp_Or_int : compFn P F.cmp_Or_int = some ⟨18, 1, g.cmp_Or_int.er, [(2, none)]⟩ := by kernel_rfl
theorem c.cmp_isNaN_int : compFn P F.cmp_isNaN_int = some ⟨6, 1, g.cmp_isNaN_int.er, [(2, none)]⟩ := by kernel_rfl
theorem c.law19_ProjectSides : compFn P F.law19_ProjectSides = some ⟨111, 2, g.law19_ProjectSides.er, [(4, none)]⟩ := by kernel_rfl
theorem c.law19_awake : compFn P F.law19_awake = some ⟨44, 0, g.law19_awake.er, [(0, none)]⟩ := by kernel_rfl
theorem c.made_Light : compFn P F.made_Light = some ⟨50, 1, g.made_Light.er, [(2, none)]⟩ := by kernel_rfl
theorem c.made_LightAuto : compFn P F.made_LightAuto = some ⟨41, 1, g.made_LightAuto.er, [(2, none)]⟩ := by kernel_rfl
theorem c.made_LightList : compFn P F.made_LightList = some ⟨22, 2, g.made_LightList.er, [(4, none)]⟩ := by kernel_rfl
theorem c.made_LightRing : compFn P F.made_LightRing = some ⟨7, 1, g.made_LightRing.er, [(2, none)]⟩ := by kernel_rfl
theorem c.made_LightTrans : compFn P F.made_LightTrans = some ⟨41, 1, g.made_LightTrans.er, [(2, none)]⟩ := by kernel_rfl
theorem c.math_bits_LeadingZeros32 : compFn P F.math_bits_LeadingZeros32 = some ⟨6, 1, g.math_bits_LeadingZeros32.er, [(2, none)]⟩ := by kernel_rfl
theorem c.math_bits_Len : compFn P F.math_bits_Len = some ⟨8, 1, g.math_bits_Len.er, [(2, none)]⟩ := by kernel_rfl
theorem c.math_bits_Len32 : compFn P F.math_bits_Len32 = some ⟨19, 1, g.math_bits_Len32.er, [(2, none)]⟩ := by kernel_rfl
theorem c.polynomial_Add : compFn P F.polynomial_Add = some ⟨29, 2, g.polynomial_Add.er, [(4, none)]⟩ := by kernel_rfl
theorem c.polynomial_Valid : compFn P F.polynomial_Valid = some ⟨32, 1, g.polynomial_Valid.er, [(2, none)]⟩ := by kernel_rfl
theorem c.polynomial_degree : compFn P F.polynomial_degree = some ⟨15, 1, g.polynomial_degree.er, [(2, none)]⟩ := by kernel_rfl
theorem c.polynomial_fits : compFn P F.polynomial_fits = some ⟨32, 1, g.polynomial_fits.er, [(2, none)]⟩ := by kernel_rfl
theorem c.polynomial_order : compFn P F.polynomial_order = some ⟨21, 2, g.polynomial_order.er, [(4, none)]⟩ := by kernel_rfl
theorem c.polynomial_sum_add : compFn P F.polynomial_sum_add = some ⟨16, 3, g.polynomial_sum_add.er, []⟩ := by kernel_rfl
theorem c.polynomial_sum_list : compFn P F.polynomial_sum_list = some ⟨25, 1, g.polynomial_sum_list.er, [(2, none)]⟩ := by kernel_rfl
theorem c.polynomial_sum_list_k1 : compFn P F.polynomial_sum_list_k1 = some ⟨10, 2, g.polynomial_sum_list_k1.er, [(4, none)]⟩ := by kernel_rfl
theorem c.polynomial_value : compFn P F.polynomial_value = some ⟨6, 1, g.polynomial_value.er, [(2, none)]⟩ := by kernel_rfl
theorem c.project_Identity : compFn P F.project_Identity = some ⟨52, 1, g.project_Identity.er, [(2, some 8), (3, none)]⟩ := by kernel_rfl
theorem c.project_Input : compFn P F.project_Input = some ⟨10, 1, g.project_Input.er, [(2, some 7), (3, none)]⟩ := by kernel_rfl
theorem c.project_Input_k1 : compFn P F.project_Input_k1 = some ⟨5, 1, g.project_Input_k1.er, [(2, none)]⟩ := by kernel_rfl
theorem c.project_Invert : compFn P F.project_Invert = some ⟨39, 1, g.project_Invert.er, [(2, some 8), (3, none)]⟩ := by kernel_rfl
theorem c.project_Output : compFn P F.project_Output = some ⟨10, 1, g.project_Output.er, [(2, some 7), (3, none)]⟩ := by kernel_rfl
theorem c.project_Output_k1 : compFn P F.project_Output_k1 = some ⟨5, 1, g.project_Output_k1.er, [(2, none)]⟩ := by kernel_rfl
theorem c.project_labelled : compFn P F.project_labelled = some ⟨52, 3, g.project_labelled.er, [(6, some 7), (7, none)]⟩ := by kernel_rfl
theorem c.rational_Add : compFn P F.rational_Add = some ⟨11, 2, g.rational_Add.er, [(4, some 3)]⟩ := by kernel_rfl
theorem c.rational_Compare : compFn P F.rational_Compare = some ⟨9, 2, g.rational_Compare.er, [(4, none)]⟩ := by kernel_rfl
theorem c.rational_Make : compFn P F.rational_Make = some ⟨30, 2, g.rational_Make.er, [(4, some 3), (5, none)]⟩ := by kernel_rfl
theorem c.rational_Sign : compFn P F.rational_Sign = some ⟨14, 1, g.rational_Sign.er, [(2, none)]⟩ := by kernel_rfl
theorem c.rational_Sub : compFn P F.rational_Sub = some ⟨12, 2, g.rational_Sub.er, [(4, some 3)]⟩ := by kernel_rfl
theorem c.rational_Valid : compFn P F.rational_Valid = some ⟨48, 1, g.rational_Valid.er, [(2, none)]⟩ := by kernel_rfl
theorem c.rational_fraction_negative : compFn P F.rational_fraction_negative = some ⟨11, 1, g.rational_fraction_negative.er, [(2, some 3)]⟩ := by kernel_rfl
theorem c.rational_fraction_plus : compFn P F.rational_fraction_plus = some ⟨53, 2, g.rational_fraction_plus.er, [(4, some 3)]⟩ := by kernel_rfl
theorem c.rational_fraction_rat : compFn P F.rational_fraction_rat = some ⟨45, 1, g.rational_fraction_rat.er, [(2, some 3)]⟩ := by kernel_rfl
end Go.Ab
