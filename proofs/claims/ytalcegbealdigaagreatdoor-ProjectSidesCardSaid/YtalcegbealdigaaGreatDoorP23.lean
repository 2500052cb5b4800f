/-
Proofs for the law ProjectSides of the seat, part 23 (texts DevC3). Conditions: none.
-/
import Derived.Test.YtalcegbealdigaaGreatDoorP19
import Derived.KernelRfl
set_option maxRecDepth 100000
set_option maxHeartbeats 4000000
set_option linter.all false
namespace Go.Ab
open Go.Proofs
theorem c.semiring_number : compFn P F.semiring_number = some ⟨12, 1, g.semiring_number.er, [(2, some 8)]⟩ := by kernel_rfl
theorem c.semiring_polynomials : compFn P F.semiring_polynomials = some ⟨2, 0, g.semiring_polynomials.er, [(0, some 9)]⟩ := by kernel_rfl
theorem c.semiring_polynomials_k1 : compFn P F.semiring_polynomials_k1 = some ⟨13, 1, g.semiring_polynomials_k1.er, [(2, none)]⟩ := by kernel_rfl
theorem c.semiring_polynomials_k2 : compFn P F.semiring_polynomials_k2 = some ⟨2, 0, g.semiring_polynomials_k2.er, [(0, some 8)]⟩ := by kernel_rfl
theorem c.semiring_polynomials_k4 : compFn P F.semiring_polynomials_k4 = some ⟨11, 2, g.semiring_polynomials_k4.er, [(4, some 8)]⟩ := by kernel_rfl
theorem c.semiring_rationals : compFn P F.semiring_rationals = some ⟨2, 0, g.semiring_rationals.er, [(0, some 9)]⟩ := by kernel_rfl
theorem c.semiring_rationals_k1 : compFn P F.semiring_rationals_k1 = some ⟨13, 1, g.semiring_rationals_k1.er, [(2, none)]⟩ := by kernel_rfl
theorem c.semiring_rationals_k2 : compFn P F.semiring_rationals_k2 = some ⟨2, 0, g.semiring_rationals_k2.er, [(0, some 8)]⟩ := by kernel_rfl
theorem c.semiring_rationals_k4 : compFn P F.semiring_rationals_k4 = some ⟨11, 2, g.semiring_rationals_k4.er, [(4, some 8)]⟩ := by kernel_rfl
theorem c.semiring_sameRat : compFn P F.semiring_sameRat = some ⟨24, 2, g.semiring_sameRat.er, [(4, none)]⟩ := by kernel_rfl
theorem c.semiring_sets : compFn P F.semiring_sets = some ⟨10, 0, g.semiring_sets.er, [(0, some 9)]⟩ := by kernel_rfl
theorem c.semiring_sets_k1 : compFn P F.semiring_sets_k1 = some ⟨8, 1, g.semiring_sets_k1.er, [(2, none)]⟩ := by kernel_rfl
theorem c.semiring_sets_k2 : compFn P F.semiring_sets_k2 = some ⟨2, 0, g.semiring_sets_k2.er, [(0, some 8)]⟩ := by kernel_rfl
theorem c.semiring_sets_k4 : compFn P F.semiring_sets_k4 = some ⟨11, 2, g.semiring_sets_k4.er, [(4, some 8)]⟩ := by kernel_rfl
theorem c.semiring_single : compFn P F.semiring_single = some ⟨9, 1, g.semiring_single.er, [(2, none)]⟩ := by kernel_rfl
theorem c.semiring_unit : compFn P F.semiring_unit = some ⟨4, 1, g.semiring_unit.er, [(2, none)]⟩ := by kernel_rfl
theorem c.semiring_value : compFn P F.semiring_value = some ⟨11, 2, g.semiring_value.er, [(4, some 8)]⟩ := by kernel_rfl
theorem c.slices_Clone_api_Arc : compFn P F.slices_Clone_api_Arc = some ⟨8, 1, g.slices_Clone_api_Arc.er, [(2, none)]⟩ := by kernel_rfl
theorem c.slices_Clone_api_TArc : compFn P F.slices_Clone_api_TArc = some ⟨8, 1, g.slices_Clone_api_TArc.er, [(2, none)]⟩ := by kernel_rfl
theorem c.slices_Clone_int : compFn P F.slices_Clone_int = some ⟨8, 1, g.slices_Clone_int.er, [(2, none)]⟩ := by kernel_rfl
theorem c.slices_Clone_uint32 : compFn P F.slices_Clone_uint32 = some ⟨8, 1, g.slices_Clone_uint32.er, [(2, none)]⟩ := by kernel_rfl
theorem c.slices_Concat_api_Monomial : compFn P F.slices_Concat_api_Monomial = some ⟨36, 1, g.slices_Concat_api_Monomial.er, [(2, none)]⟩ := by kernel_rfl
theorem c.slices_ContainsFunc_api_Arc : compFn P F.slices_ContainsFunc_api_Arc = some ⟨9, 2, g.slices_ContainsFunc_api_Arc.er, [(4, none)]⟩ := by kernel_rfl
theorem c.slices_ContainsFunc_api_Weight : compFn P F.slices_ContainsFunc_api_Weight = some ⟨9, 2, g.slices_ContainsFunc_api_Weight.er, [(4, none)]⟩ := by kernel_rfl
theorem c.slices_ContainsFunc_int : compFn P F.slices_ContainsFunc_int = some ⟨9, 2, g.slices_ContainsFunc_int.er, [(4, none)]⟩ := by kernel_rfl
theorem c.slices_DeleteFunc_api_Arc : compFn P F.slices_DeleteFunc_api_Arc = some ⟨42, 2, g.slices_DeleteFunc_api_Arc.er, [(4, none)]⟩ := by kernel_rfl
theorem c.slices_DeleteFunc_api_TArc : compFn P F.slices_DeleteFunc_api_TArc = some ⟨42, 2, g.slices_DeleteFunc_api_TArc.er, [(4, none)]⟩ := by kernel_rfl
theorem c.slices_EqualFunc_api_Monomial : compFn P F.slices_EqualFunc_api_Monomial = some ⟨32, 3, g.slices_EqualFunc_api_Monomial.er, [(6, none)]⟩ := by kernel_rfl
theorem c.slices_EqualFunc_api_Weight : compFn P F.slices_EqualFunc_api_Weight = some ⟨32, 3, g.slices_EqualFunc_api_Weight.er, [(6, none)]⟩ := by kernel_rfl
theorem c.slices_Equal_uint32 : compFn P F.slices_Equal_uint32 = some ⟨26, 2, g.slices_Equal_uint32.er, [(4, none)]⟩ := by kernel_rfl
theorem c.slices_Grow_api_Monomial : compFn P F.slices_Grow_api_Monomial = some ⟨27, 2, g.slices_Grow_api_Monomial.er, [(4, none)]⟩ := by kernel_rfl
theorem c.slices_IndexFunc_api_Arc : compFn P F.slices_IndexFunc_api_Arc = some ⟨19, 2, g.slices_IndexFunc_api_Arc.er, [(4, none)]⟩ := by kernel_rfl
theorem c.slices_IndexFunc_api_TArc : compFn P F.slices_IndexFunc_api_TArc = some ⟨19, 2, g.slices_IndexFunc_api_TArc.er, [(4, none)]⟩ := by kernel_rfl
theorem c.slices_IndexFunc_api_Weight : compFn P F.slices_IndexFunc_api_Weight = some ⟨19, 2, g.slices_IndexFunc_api_Weight.er, [(4, none)]⟩ := by kernel_rfl
theorem c.slices_IndexFunc_int : compFn P F.slices_IndexFunc_int = some ⟨19, 2, g.slices_IndexFunc_int.er, [(4, none)]⟩ := by kernel_rfl
theorem c.slices_SortFunc_api_Monomial : compFn P F.slices_SortFunc_api_Monomial = some ⟨14, 2, g.slices_SortFunc_api_Monomial.er, []⟩ := by kernel_rfl
theorem c.slices_SortStableFunc_api_Arc : compFn P F.slices_SortStableFunc_api_Arc = some ⟨9, 2, g.slices_SortStableFunc_api_Arc.er, []⟩ := by kernel_rfl
theorem c.slices_SortStableFunc_api_TArc : compFn P F.slices_SortStableFunc_api_TArc = some ⟨9, 2, g.slices_SortStableFunc_api_TArc.er, []⟩ := by kernel_rfl
theorem c.slices_insertionSortCmpFunc_api_Arc : compFn P F.slices_insertionSortCmpFunc_api_Arc = some ⟨53, 4, g.slices_insertionSortCmpFunc_api_Arc.er, []⟩ := by kernel_rfl
theorem c.slices_insertionSortCmpFunc_api_Monomial : compFn P F.slices_insertionSortCmpFunc_api_Monomial = some ⟨53, 4, g.slices_insertionSortCmpFunc_api_Monomial.er, []⟩ := by kernel_rfl
theorem c.slices_insertionSortCmpFunc_api_TArc : compFn P F.slices_insertionSortCmpFunc_api_TArc = some ⟨53, 4, g.slices_insertionSortCmpFunc_api_TArc.er, []⟩ := by kernel_rfl
theorem c.slices_pdqsortCmpFunc_api_Monomial : compFn P F.slices_pdqsortCmpFunc_api_Monomial = some ⟨148, 5, g.slices_pdqsortCmpFunc_api_Monomial.er, []⟩ := by kernel_rfl
theorem c.slices_stableCmpFunc_api_Arc : compFn P F.slices_stableCmpFunc_api_Arc = some ⟨63, 3, g.slices_stableCmpFunc_api_Arc.er, []⟩ := by kernel_rfl
theorem c.slices_stableCmpFunc_api_TArc : compFn P F.slices_stableCmpFunc_api_TArc = some ⟨63, 3, g.slices_stableCmpFunc_api_TArc.er, []⟩ := by kernel_rfl
theorem c.transducer_Normal : compFn P F.transducer_Normal = some ⟨33, 1, g.transducer_Normal.er, [(2, some 8), (3, none)]⟩ := by kernel_rfl
theorem c.transducer_Tidy : compFn P F.transducer_Tidy = some ⟨64, 2, g.transducer_Tidy.er, [(4, none)]⟩ := by kernel_rfl
theorem c.transducer_Tidy_k1 : compFn P F.transducer_Tidy_k1 = some ⟨8, 2, g.transducer_Tidy_k1.er, [(3, none)]⟩ := by kernel_rfl
theorem c.transducer_Valid : compFn P F.transducer_Valid = some ⟨103, 1, g.transducer_Valid.er, [(2, none)]⟩ := by kernel_rfl
theorem c.transducer_order : compFn P F.transducer_order = some ⟨27, 2, g.transducer_order.er, [(4, none)]⟩ := by kernel_rfl
theorem c.transducer_symbols : compFn P F.transducer_symbols = some ⟨9, 1, g.transducer_symbols.er, [(2, none)]⟩ := by kernel_rfl
theorem c.transducer_weights : compFn P F.transducer_weights = some ⟨17, 3, g.transducer_weights.er, [(6, none)]⟩ := by kernel_rfl
theorem c.transducer_weights_k1 : compFn P F.transducer_weights_k1 = some ⟨8, 2, g.transducer_weights_k1.er, [(3, none)]⟩ := by kernel_rfl
end Go.Ab
