/-
Proofs for the law ProjectSides of the seat, part 22 (texts DevC2). Conditions: none.
-/
import Derived.Test.YtalcegbealdigaaGreatDoorP19
import Derived.KernelRfl
set_option maxRecDepth 100000
set_option maxHeartbeats 4000000
set_option linter.all false
namespace Go.Ab
open Go.Proofs
theorem c.ref03_Equal : compFn P F.ref03_Equal = some ⟨69, 2, g.ref03_Equal.er, [(4, none)]⟩ := by kernel_rfl
theorem c.ref03_IsZero : compFn P F.ref03_IsZero = some ⟨9, 2, g.ref03_IsZero.er, [(4, none)]⟩ := by kernel_rfl
theorem c.ref03_One : compFn P F.ref03_One = some ⟨42, 1, g.ref03_One.er, [(2, some 8)]⟩ := by kernel_rfl
theorem c.ref03_Plus : compFn P F.ref03_Plus = some ⟨100, 3, g.ref03_Plus.er, [(6, some 8)]⟩ := by kernel_rfl
theorem c.ref03_Same : compFn P F.ref03_Same = some ⟨38, 2, g.ref03_Same.er, [(4, none)]⟩ := by kernel_rfl
theorem c.ref03_SameList : compFn P F.ref03_SameList = some ⟨27, 2, g.ref03_SameList.er, [(4, none)]⟩ := by kernel_rfl
theorem c.ref03_Take : compFn P F.ref03_Take = some ⟨48, 2, g.ref03_Take.er, [(4, some 8)]⟩ := by kernel_rfl
theorem c.ref03_Valid : compFn P F.ref03_Valid = some ⟨52, 1, g.ref03_Valid.er, [(2, none)]⟩ := by kernel_rfl
theorem c.ref03_Zero : compFn P F.ref03_Zero = some ⟨31, 1, g.ref03_Zero.er, [(2, some 8)]⟩ := by kernel_rfl
theorem c.ref03_part : compFn P F.ref03_part = some ⟨11, 2, g.ref03_part.er, [(4, some 2)]⟩ := by kernel_rfl
theorem c.ref03_simple : compFn P F.ref03_simple = some ⟨107, 2, g.ref03_simple.er, [(4, none)]⟩ := by kernel_rfl
theorem c.ref05_Alphabet : compFn P F.ref05_Alphabet = some ⟨9, 1, g.ref05_Alphabet.er, [(2, none)]⟩ := by kernel_rfl
theorem c.ref05_Compare : compFn P F.ref05_Compare = some ⟨40, 2, g.ref05_Compare.er, [(4, none)]⟩ := by kernel_rfl
theorem c.ref06_Arcs : compFn P F.ref06_Arcs = some ⟨100, 2, g.ref06_Arcs.er, [(4, none)]⟩ := by kernel_rfl
theorem c.ref06_Form : compFn P F.ref06_Form = some ⟨26, 1, g.ref06_Form.er, [(2, some 7)]⟩ := by kernel_rfl
theorem c.ref06_In : compFn P F.ref06_In = some ⟨15, 3, g.ref06_In.er, [(6, none)]⟩ := by kernel_rfl
theorem c.ref06_Same : compFn P F.ref06_Same = some ⟨86, 2, g.ref06_Same.er, [(4, none)]⟩ := by kernel_rfl
theorem c.ref06_Valid : compFn P F.ref06_Valid = some ⟨91, 1, g.ref06_Valid.er, [(2, none)]⟩ := by kernel_rfl
theorem c.ref06_Weights : compFn P F.ref06_Weights = some ⟨24, 3, g.ref06_Weights.er, [(6, none)]⟩ := by kernel_rfl
theorem c.ref06_order : compFn P F.ref06_order = some ⟨20, 2, g.ref06_order.er, [(4, none)]⟩ := by kernel_rfl
theorem c.ref06_ring : compFn P F.ref06_ring = some ⟨9, 1, g.ref06_ring.er, [(2, some 2)]⟩ := by kernel_rfl
theorem c.ref06_take : compFn P F.ref06_take = some ⟨23, 2, g.ref06_take.er, [(4, none)]⟩ := by kernel_rfl
theorem c.ref17_Form : compFn P F.ref17_Form = some ⟨58, 1, g.ref17_Form.er, [(2, some 8)]⟩ := by kernel_rfl
theorem c.ref17_Same : compFn P F.ref17_Same = some ⟨93, 2, g.ref17_Same.er, [(4, none)]⟩ := by kernel_rfl
theorem c.ref17_Valid : compFn P F.ref17_Valid = some ⟨105, 1, g.ref17_Valid.er, [(2, none)]⟩ := by kernel_rfl
theorem c.ref17_arcs : compFn P F.ref17_arcs = some ⟨100, 2, g.ref17_arcs.er, [(4, none)]⟩ := by kernel_rfl
theorem c.ref17_order : compFn P F.ref17_order = some ⟨24, 2, g.ref17_order.er, [(4, none)]⟩ := by kernel_rfl
theorem c.ref19_Identity : compFn P F.ref19_Identity = some ⟨54, 1, g.ref19_Identity.er, [(2, some 8), (3, none)]⟩ := by kernel_rfl
theorem c.ref19_Input : compFn P F.ref19_Input = some ⟨10, 1, g.ref19_Input.er, [(2, some 7), (3, none)]⟩ := by kernel_rfl
theorem c.ref19_Invert : compFn P F.ref19_Invert = some ⟨49, 1, g.ref19_Invert.er, [(2, some 8), (3, none)]⟩ := by kernel_rfl
theorem c.ref19_Output : compFn P F.ref19_Output = some ⟨10, 1, g.ref19_Output.er, [(2, some 7), (3, none)]⟩ := by kernel_rfl
theorem c.ref19_side : compFn P F.ref19_side = some ⟨56, 2, g.ref19_side.er, [(4, some 7)]⟩ := by kernel_rfl
theorem c.semiring_Check : compFn P F.semiring_Check = some ⟨53, 2, g.semiring_Check.er, [(4, none)]⟩ := by kernel_rfl
theorem c.semiring_Equal : compFn P F.semiring_Equal = some ⟨47, 2, g.semiring_Equal.er, [(4, none)]⟩ := by kernel_rfl
theorem c.semiring_Equal_k1 : compFn P F.semiring_Equal_k1 = some ⟨17, 2, g.semiring_Equal_k1.er, [(4, none)]⟩ := by kernel_rfl
theorem c.semiring_Plus : compFn P F.semiring_Plus = some ⟨30, 3, g.semiring_Plus.er, [(6, some 8)]⟩ := by kernel_rfl
theorem c.semiring_Plus_k1 : compFn P F.semiring_Plus_k1 = some ⟨20, 4, g.semiring_Plus_k1.er, [(6, some 8)]⟩ := by kernel_rfl
theorem c.semiring_Valid : compFn P F.semiring_Valid = some ⟨31, 1, g.semiring_Valid.er, [(2, none)]⟩ := by kernel_rfl
theorem c.semiring_Valid_k1 : compFn P F.semiring_Valid_k1 = some ⟨6, 1, g.semiring_Valid_k1.er, [(2, none)]⟩ := by kernel_rfl
theorem c.semiring_Zero : compFn P F.semiring_Zero = some ⟨19, 1, g.semiring_Zero.er, [(2, some 8)]⟩ := by kernel_rfl
theorem c.semiring_Zero_k1 : compFn P F.semiring_Zero_k1 = some ⟨8, 2, g.semiring_Zero_k1.er, [(4, some 8)]⟩ := by kernel_rfl
theorem c.semiring_costs : compFn P F.semiring_costs = some ⟨10, 0, g.semiring_costs.er, [(0, some 9)]⟩ := by kernel_rfl
theorem c.semiring_costs_k1 : compFn P F.semiring_costs_k1 = some ⟨32, 1, g.semiring_costs_k1.er, [(2, none)]⟩ := by kernel_rfl
theorem c.semiring_costs_k2 : compFn P F.semiring_costs_k2 = some ⟨2, 0, g.semiring_costs_k2.er, [(0, some 8)]⟩ := by kernel_rfl
theorem c.semiring_costs_k4 : compFn P F.semiring_costs_k4 = some ⟨10, 2, g.semiring_costs_k4.er, [(4, some 8)]⟩ := by kernel_rfl
theorem c.semiring_each : compFn P F.semiring_each = some ⟨28, 2, g.semiring_each.er, [(4, some 8)]⟩ := by kernel_rfl
theorem c.semiring_fractions : compFn P F.semiring_fractions = some ⟨14, 0, g.semiring_fractions.er, [(0, some 9)]⟩ := by kernel_rfl
theorem c.semiring_fractions_k1 : compFn P F.semiring_fractions_k1 = some ⟨21, 1, g.semiring_fractions_k1.er, [(2, none)]⟩ := by kernel_rfl
theorem c.semiring_fractions_k2 : compFn P F.semiring_fractions_k2 = some ⟨11, 2, g.semiring_fractions_k2.er, [(4, none)]⟩ := by kernel_rfl
theorem c.semiring_fractions_k3 : compFn P F.semiring_fractions_k3 = some ⟨17, 3, g.semiring_fractions_k3.er, [(5, some 8)]⟩ := by kernel_rfl
theorem c.semiring_kind : compFn P F.semiring_kind = some ⟨17, 1, g.semiring_kind.er, [(2, some 9)]⟩ := by kernel_rfl
theorem c.semiring_less : compFn P F.semiring_less = some ⟨19, 2, g.semiring_less.er, [(4, none)]⟩ := by kernel_rfl
end Go.Ab
