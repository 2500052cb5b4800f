/-
Proofs for the law ProjectSides of the seat, part 29 (texts X4 X10 X11 W2 W3 X12 X13 X14 W4 W5 X15). Conditions: none.
-/
import Derived.Test.YtalcegbealdigaaGreatDoorP25
import Derived.Test.YtalcegbealdigaaGreatDoorP27
import Derived.Test.YtalcegbealdigaaGreatDoorP28
import Derived.Test.YtalcegbealdigaaGreatDoorP11
set_option maxRecDepth 100000
set_option maxHeartbeats 4000000
set_option linter.all false
namespace Go.Ab
open Enc (enc)
attribute [local go_sem] optOpd Opd.slots
theorem isNaN_sp (x : Int) : Sp P F.cmp_isNaN_int [.int .i64 x] (.pure (.bool false)) := by
 refine Sp.of_vm' c.cmp_isNaN_int (by simp) fun _ => ?_
 simp [g.cmp_isNaN_int, go_sem]
theorem cmpC_sp (x y : Int) : Sp P F.cmp_Compare_int [.int .i64 x, .int .i64 y] (.pure (.int .i64 (cmpI x y))) := by
 refine Sp.of_vm' c.cmp_Compare_int (by simp) fun _ => ?_
 simp [g.cmp_Compare_int, go_sem]
 refine callP_pure (isNaN_sp x) rfl ?_
 simp [go_sem]
 refine callP_pure (isNaN_sp y) rfl ?_
 simp [go_sem, cmpI]
 refine ⟨fun _ _ => by split <;> omega, fun _ => ⟨fun _ => by (repeat' split) <;> omega, fun _ => by (repeat' split) <;> omega⟩⟩
def firstI : List Int -> Int
 | [] => 0
 | x :: r => if x = 0 then firstI r else x
theorem firstI_drop {l : List Int} : ∀ {k : Nat}, (∀ x ∈ l.take k, x = 0) -> firstI l = firstI (l.drop k) := by
 intro k
 induction l generalizing k with
 | nil => simp
 | cons x l ih =>
  cases k with
  | zero => simp
  | succ k =>
   intro h
   have : x = 0 := h x (by simp)
   simp only [firstI, this, if_true, List.drop_succ_cons]
   exact ih fun y hy => h y (by simp [hy])
theorem cmpOr_sp (l : List Int) (hl : l.length ≤ 4611686018427387904) : Sp P F.cmp_Or_int [.sl (ens l)] (.pure (.int .i64 (firstI l))) := by
 refine Sp.of_vm' c.cmp_Or_int (by simp) fun _ => ?_
 simp [g.cmp_Or_int, go_sem]
 refine vL_rule (S := fun k : Nat => mkSt [(3, .p (.int .i64 0)), (6, .p (.sl (ens l))), (7, .p (.int .i64 l.length)), (8, .p (.int .i64 k))] []) (I := fun k => k ≤ l.length ∧ ∀ x ∈ l.take k, x = 0) (m := fun k => l.length - k) 0
  (Weak.to [3, 6, 7, 8] [] (by simp [go_sem])) ⟨by omega, by simp⟩ ?_
 rintro k ⟨h1, h2⟩ R hn hr hx
 have e1 : IntKind.i64.wrap ((k : Int) + 1) = ((k + 1 : Nat) : Int) := i64w (by omega) (by omega)
 have hd := firstI_drop h2
 simp [g.cmp_Or_int_l1, mkSt, go_sem]
 refine ⟨fun hk => ?_, fun hk => hx _ _ ?_⟩
 ·have hdk : l.drop k = l[k] :: l.drop (k + 1) := List.drop_eq_getElem_cons hk
  rw [hdk] at hd
  refine atP_get hk ?_
  simp [e1, go_sem]
  refine ⟨fun h3 => ?_, fun h3 => ?_⟩
  ·refine hn (k + 1) _ (Weak.to [3, 6, 7, 8] [] (by simp [go_sem])) ⟨by omega, fun x hx => ?_⟩ (by omega)
   rw [List.take_succ_eq_append_getElem hk] at hx
   rcases List.mem_append.1 hx with hx | hx
   ·exact h2 x hx
   ·simp at hx; rw [hx]; exact h3
  ·refine hr _ ?_
   simp [firstI, h3] at hd
   simp [go_sem, hd]
 ·have : k = l.length := by omega
  subst this
  simp [firstI] at hd
  simp [go_sem, hd]
theorem equal32_sp (l m : List UInt32) (hl : l.length ≤ 4611686018427387904) : Sp P F.slices_Equal_uint32 [.sl (ens l), .sl (ens m)] (.pure (.bool (decide (l = m)))) := by
 refine Sp.of_vm' c.slices_Equal_uint32 (by simp) fun _ => ?_
 simp [g.slices_Equal_uint32, go_sem]
 refine ⟨fun h => ?_, fun h => fun he => h (by rw [he])⟩
 have hlen : l.length = m.length := by omega
 refine vL_rule (S := fun k : Nat => mkSt [(0, .p (.sl (ens l))), (1, .p (.sl (ens m))), (12, .p (.int .i64 l.length)), (13, .p (.int .i64 k))] []) (I := fun k => k ≤ l.length ∧ l.take k = m.take k) (m := fun k => l.length - k) 0
  (Weak.to [0, 1, 12, 13] [] (by simp [go_sem])) ⟨by omega, by simp⟩ ?_
 rintro k ⟨h1, h2⟩ R hn hr hx
 have e1 : IntKind.i64.wrap ((k : Int) + 1) = ((k + 1 : Nat) : Int) := i64w (by omega) (by omega)
 simp [g.slices_Equal_uint32_l1, mkSt, go_sem]
 refine ⟨fun hk => ?_, fun hk => hx _ _ ?_⟩
 ·have hk2 : k < m.length := by omega
  have bad : l[k] ≠ m[k] -> l ≠ m := fun h h' => by subst h'; exact h rfl
  refine atP_get hk ?_
  refine atP_get hk2 ?_
  simp [e1, go_sem]
  refine ⟨fun h6 => ?_, fun h6 => ?_⟩
  ·have h7 : l[k] = m[k] := UInt32.toNat_inj.1 (by omega)
   exact hn (k + 1) _ (Weak.to [0, 1, 12, 13] [] (by simp [go_sem])) ⟨by omega, by rw [List.take_succ_eq_append_getElem hk, List.take_succ_eq_append_getElem hk2, h2, h7]⟩ (by omega)
  ·have h8 : l ≠ m := bad fun h => h6 (by rw [h])
   exact hr _ (by simp [h8, go_sem])
 ·have h3 : l = m := by rw [<- List.take_length (l := l), <- List.take_length (l := m), <- hlen, show l.length = k by omega]; exact h2
  simp [h3, go_sem]
theorem sameRat_sp (x y : GRat) (hx : x.sm 1073741824) : Sp P F.semiring_sameRat [enc x, enc y] (.pure (.bool (decide (x = y)))) := by
 refine Sp.of_vm' c.semiring_sameRat (by simp) fun _ => ?_
 simp [g.semiring_sameRat, go_sem]
 have key : ∀ (x y : GRat), x = y ↔ x.neg = y.neg ∧ x.num = y.num ∧ x.den = y.den := by intro x y; cases x; cases y; simp
 refine ⟨fun h1 => ?_, fun h1 => ?_⟩
 ·refine callP_pure (equal32_sp x.num y.num (by have := hx.1; omega)) rfl ?_
  by_cases h2 : x.num = y.num
  ·simp [h2, go_sem]
   refine callP_pure (equal32_sp x.den y.den (by have := hx.2; omega)) rfl ?_
   simp [key x y, h1, h2, go_sem]
  ·simp [key x y, h2, go_sem]
 ·simp [key x y, h1, go_sem]
end Go.Ab
namespace Go.Ab
open Enc (enc)
attribute [local go_sem] optOpd Opd.slots
theorem pdegree_sp (e : Ex) (h : (-1000 < e.a ∧ e.a < 1000) ∧ (-1000 < e.b ∧ e.b < 1000) ∧ -1000 < e.c ∧ e.c < 1000) : Sp P F.polynomial_degree [enc e] (.pure (.int .i64 (e.a + e.b + e.c))) := by
 have e1 : IntKind.i64.wrap e.a = e.a := i64w (by omega) (by omega)
 have e2 : IntKind.i64.wrap (e.a + e.b) = e.a + e.b := i64w (by omega) (by omega)
 have e3 : IntKind.i64.wrap (e.a + e.b + e.c) = e.a + e.b + e.c := i64w (by omega) (by omega)
 refine Sp.of_vm' c.polynomial_degree (by simp) fun _ => ?_
 simp [g.polynomial_degree, go_sem]
 refine vL_unroll fun R hn hr hx => ?_
 simp [g.polynomial_degree_l1, go_sem, e1]
 refine hn _ ?_
 clear hn hr hx
 refine vL_unroll fun R hn hr hx => ?_
 simp [g.polynomial_degree_l1, go_sem, e2]
 refine hn _ ?_
 clear hn hr hx
 refine vL_unroll fun R hn hr hx => ?_
 simp [g.polynomial_degree_l1, go_sem, e3]
 refine hn _ ?_
 clear hn hr hx
 refine vL_unroll fun R hn hr hx => ?_
 simp [g.polynomial_degree_l1, go_sem]
 refine hx _ _ ?_
 simp [go_sem]
theorem porder_sp (d e : Ex) : Sp P F.polynomial_order [enc d, enc e] (.pure (.int .i64 (e.cmp d))) := by
 refine Sp.of_vm' c.polynomial_order (by simp) fun _ => ?_
 simp [g.polynomial_order, go_sem]
 refine vL_unroll fun R hn hr hx => ?_
 simp [g.polynomial_order_l1, go_sem]
 refine callP_pure (cmpC_sp e.a d.a) rfl ?_
 simp [go_sem]
 refine ⟨fun h => ?_, fun h => ?_⟩
 rotate_left
 ·refine hr _ ?_
  simp [go_sem]
  unfold cmpI at h ⊢; unfold Ex.cmp
  (repeat' split) <;> first | rfl | omega | simp_all
 refine hn _ ?_
 clear hn hr hx
 refine vL_unroll fun R hn hr hx => ?_
 simp [g.polynomial_order_l1, go_sem]
 refine callP_pure (cmpC_sp e.b d.b) rfl ?_
 simp [go_sem]
 refine ⟨fun h2 => ?_, fun h2 => ?_⟩
 rotate_left
 ·refine hr _ ?_
  simp [go_sem]
  unfold cmpI at h h2 ⊢; unfold Ex.cmp
  (repeat' split) <;> first | rfl | omega | simp_all
 refine hn _ ?_
 clear hn hr hx
 refine vL_unroll fun R hn hr hx => ?_
 simp [g.polynomial_order_l1, go_sem]
 refine callP_pure (cmpC_sp e.c d.c) rfl ?_
 simp [go_sem]
 refine ⟨fun h3 => ?_, fun h3 => ?_⟩
 rotate_left
 ·refine hr _ ?_
  simp [go_sem]
  unfold cmpI at h h2 h3 ⊢; unfold Ex.cmp
  (repeat' split) <;> first | rfl | omega | simp_all
 refine hn _ ?_
 clear hn hr hx
 refine vL_unroll fun R hn hr hx => ?_
 simp [g.polynomial_order_l1, go_sem]
 refine hx _ _ ?_
 simp [go_sem]
 unfold cmpI at h h2 h3; unfold Ex.cmp
 (repeat' split) <;> first | rfl | omega | simp_all
end Go.Ab
namespace Go.Ab
open Enc (enc)
attribute [local go_sem] optOpd Opd.slots
theorem pfits_sp (m : GMono) (hm : m.coef.sm 1048576) : Sp P F.polynomial_fits [enc m] (.pure (.bool m.ok)) := by
 have bad : (¬ (0 ≤ m.e.a ∧ m.e.a ≤ 5) ∨ ¬ (0 ≤ m.e.b ∧ m.e.b ≤ 5) ∨ ¬ (0 ≤ m.e.c ∧ m.e.c ≤ 5)) -> m.ok = false := by
  intro h
  have : m.e.ok = false := by simp only [Ex.ok, decide_eq_false_iff_not]; omega
  simp [GMono.ok, this]
 refine Sp.of_vm' c.polynomial_fits (by simp) fun _ => ?_
 simp [g.polynomial_fits, go_sem]
 refine vL_unroll fun R hn hr hx => ?_
 by_cases ha : 0 ≤ m.e.a
 rotate_left
 ·simp [g.polynomial_fits_l1, go_sem, show m.e.a < 0 by omega]
  refine hr _ ?_
  simp [go_sem, bad (by omega)]
 by_cases ha2 : m.e.a ≤ 5
 rotate_left
 ·simp [g.polynomial_fits_l1, go_sem, show ¬ m.e.a < 0 by omega, show 5 < m.e.a by omega]
  refine hr _ ?_
  simp [go_sem, bad (by omega)]
 simp [g.polynomial_fits_l1, go_sem, show ¬ m.e.a < 0 by omega, show ¬ 5 < m.e.a by omega]
 refine hn _ ?_
 clear hn hr hx
 refine vL_unroll fun R hn hr hx => ?_
 by_cases hb : 0 ≤ m.e.b
 rotate_left
 ·simp [g.polynomial_fits_l1, go_sem, show m.e.b < 0 by omega]
  refine hr _ ?_
  simp [go_sem, bad (by omega)]
 by_cases hb2 : m.e.b ≤ 5
 rotate_left
 ·simp [g.polynomial_fits_l1, go_sem, show ¬ m.e.b < 0 by omega, show 5 < m.e.b by omega]
  refine hr _ ?_
  simp [go_sem, bad (by omega)]
 simp [g.polynomial_fits_l1, go_sem, show ¬ m.e.b < 0 by omega, show ¬ 5 < m.e.b by omega]
 refine hn _ ?_
 clear hn hr hx
 refine vL_unroll fun R hn hr hx => ?_
 by_cases hc : 0 ≤ m.e.c
 rotate_left
 ·simp [g.polynomial_fits_l1, go_sem, show m.e.c < 0 by omega]
  refine hr _ ?_
  simp [go_sem, bad (by omega)]
 by_cases hc2 : m.e.c ≤ 5
 rotate_left
 ·simp [g.polynomial_fits_l1, go_sem, show ¬ m.e.c < 0 by omega, show 5 < m.e.c by omega]
  refine hr _ ?_
  simp [go_sem, bad (by omega)]
 simp [g.polynomial_fits_l1, go_sem, show ¬ m.e.c < 0 by omega, show ¬ 5 < m.e.c by omega]
 refine hn _ ?_
 clear hn hr hx
 refine vL_unroll fun R hn hr hx => ?_
 simp [g.polynomial_fits_l1, go_sem]
 refine hx _ _ ?_
 clear hn hr hx
 simp [go_sem]
 refine callP_pure (pdegree_sp m.e (by omega)) rfl ?_
 simp [go_sem]
 refine ⟨fun hd => ?_, fun hd => ?_⟩
 ·have hok : m.e.ok = true := by simp only [Ex.ok, decide_eq_true_eq]; omega
  refine callP_pure (rvalid_sp m.coef (hm.mono (by omega))) rfl ?_
  rcases Bool.eq_false_or_eq_true m.coef.valid with hv | hv
  ·simp [go_sem, hv]
   refine callP_pure (rsign_sp m.coef (hm.mono (by omega))) rfl ?_
   simp [go_sem, GMono.ok, hok, hv, sgnR_zero]
  ·simp [go_sem, hv, GMono.ok]
 ·have hok : m.e.ok = false := by simp only [Ex.ok, decide_eq_false_iff_not]; omega
  simp [GMono.ok, hok]
theorem pvalid_sp (p : List GMono) (hp : psm p 1048576) (hl : p.length ≤ 1073741824) : Sp P F.polynomial_Valid [.sl (ens p)] (.pure (.bool (decide (PVal p)))) := by
 refine Sp.of_vm' c.polynomial_Valid (by simp) fun _ => ?_
 simp [g.polynomial_Valid, go_sem]
 refine vL_rule (S := fun k : Nat => mkSt [(0, .p (.sl (ens p))), (5, .p (.sl (ens p))), (6, .p (.int .i64 p.length)), (7, .p (.int .i64 k))] []) (I := fun k => k ≤ p.length ∧ ∀ i, (h : i < p.length) -> i < k -> p[i].ok = true ∧ (0 < i -> p[i].e.cmp (p[i - 1]'(by omega)).e < 0)) (m := fun k => p.length - k) 0
  (Weak.to [0, 5, 6, 7] [] (by simp [go_sem])) ⟨by omega, fun i h h0 => by omega⟩ ?_
 rintro k ⟨h1, h2⟩ R hn hr hx
 have e3 : IntKind.i64.wrap ((k : Int) + 1) = ((k + 1 : Nat) : Int) := i64w (by omega) (by omega)
 simp [g.polynomial_Valid_l1, mkSt, go_sem]
 refine ⟨fun hk => ?_, fun hk => hx _ _ ?_⟩
 ·have bad : ¬ (p[k].ok = true ∧ (0 < k -> p[k].e.cmp (p[k - 1]'(by omega)).e < 0)) -> decide (PVal p) = false := fun h => decide_eq_false fun hv => h (hv k hk)
  refine atP_get hk ?_
  try simp [go_sem]
  refine callP_pure (pfits_sp p[k] (hp _ (List.getElem_mem hk))) (by simp [go_sem]) ?_
  have step : p[k].ok = true -> (0 < k -> p[k].e.cmp (p[k - 1]'(by omega)).e < 0) -> ∀ i, (h : i < p.length) -> i < k + 1 -> p[i].ok = true ∧ (0 < i -> p[i].e.cmp (p[i - 1]'(by omega)).e < 0) := by
   intro a b i h hi
   by_cases hik : i < k
   ·exact h2 i h hik
   ·have : i = k := by omega
    subst this; exact ⟨a, b⟩
  rcases Bool.eq_false_or_eq_true p[k].ok with h3 | h3
  rotate_left
  ·simp [h3, go_sem]
   refine hr _ ?_
   simp [go_sem]; simpa using bad (by simp [h3])
  by_cases h0 : 0 < k
  rotate_left
  ·have : k = 0 := by omega
   subst this
   simp [h3, go_sem]
   refine hn 1 _ (Weak.to [0, 5, 6, 7] [] (by simp [go_sem])) ⟨by omega, step h3 (by omega)⟩ (by omega)
  have e1 : IntKind.i64.wrap ((k : Int) - 1) = ((k - 1 : Nat) : Int) := by rw [i64w (by omega) (by omega)]; omega
  have e2 : 0 < (k : Int) := by omega
  have hk1 : k - 1 < p.length := by omega
  simp [h3, e1, e2, h0, show ¬ k = 0 by omega, go_sem]
  refine atP_get hk1 ?_
  try simp [go_sem]
  refine callP_pure (porder_sp p[k - 1].e p[k].e) (by simp [go_sem]) ?_
  by_cases h4 : p[k].e.cmp p[k - 1].e < 0
  ·simp [go_sem, show ¬ (0 ≤ p[k].e.cmp p[k - 1].e) by omega, h4, e3]
   refine hn (k + 1) _ (Weak.to [0, 5, 6, 7] [] (by simp [go_sem])) ⟨by omega, step h3 (fun _ => h4)⟩ (by omega)
  ·simp [go_sem, show 0 ≤ p[k].e.cmp p[k - 1].e by omega, h4]
   refine hr _ ?_
   simp [go_sem]; simpa using bad (fun h => h4 (h.2 h0))
 ·have : PVal p := fun i h => h2 i h (by omega)
  simp [this, go_sem]
theorem pvalue_sp (p : List GMono) (hp : psm p 1048576) (hl : p.length ≤ 1073741824) : Sp P F.polynomial_value [.sl (ens p)] (.pure (.sl (ens (pv p)))) := by
 refine Sp.of_vm' c.polynomial_value (by simp) fun _ => ?_
 simp [g.polynomial_value, go_sem]
 refine callP_pure (pvalid_sp p hp hl) rfl ?_
 by_cases h : PVal p
 ·simp [h, pv, go_sem]
 ·simp [h, pv, go_sem]
end Go.Ab
namespace Go.Ab
open Enc (enc)
attribute [local go_sem] optOpd Opd.slots
def gr0 : GRat := ⟨false, [], []⟩
def gw0 : GW := .mk gr0 0 false 0 [] []
def GW.si (k : Int) (w : GW) : Prop := w.parts = [] ∧ (k ≠ 1 -> k ≠ 3 -> w.q = gr0) ∧ (k ≠ 2 -> w.inf = false ∧ w.cost = 0) ∧ (k ≠ 4 -> w.set = 0) ∧ (k ≠ 5 -> w.poly = []) ∧
 (k = 1 -> w.q.valid = true) ∧ (k = 2 -> 0 ≤ w.cost ∧ w.cost ≤ 1099511627776 ∧ (w.inf = true -> w.cost = 0)) ∧ (k = 3 -> w.q.valid = true ∧ 0 ≤ w.q.v ∧ w.q.v ≤ 1) ∧ (k = 5 -> PVal w.poly)
noncomputable instance (k : Int) (w : GW) : Decidable (w.si k) := Classical.propDecidable _
theorem set0 {x : UInt64} : x.toNat = 0 ↔ x = 0 := by rw [<- UInt64.toNat_inj]; rfl
theorem len0 {α : Type} {l : List α} : 0 < l.length ↔ l ≠ [] := List.length_pos_iff
theorem si1 {w : GW} : w.si 1 ↔ w.parts = [] ∧ w.inf = false ∧ w.cost = 0 ∧ w.set = 0 ∧ w.poly = [] ∧ w.q.valid = true := by simp [GW.si, and_assoc]
theorem si2 {w : GW} : w.si 2 ↔ w.parts = [] ∧ w.q = gr0 ∧ w.set = 0 ∧ w.poly = [] ∧ 0 ≤ w.cost ∧ w.cost ≤ 1099511627776 ∧ (w.inf = true -> w.cost = 0) := by simp [GW.si]
theorem si3 {w : GW} : w.si 3 ↔ w.parts = [] ∧ w.inf = false ∧ w.cost = 0 ∧ w.set = 0 ∧ w.poly = [] ∧ w.q.valid = true ∧ 0 ≤ w.q.v ∧ w.q.v ≤ 1 := by simp [GW.si, and_assoc]
theorem si4 {w : GW} : w.si 4 ↔ w.parts = [] ∧ w.q = gr0 ∧ w.inf = false ∧ w.cost = 0 ∧ w.poly = [] := by simp [GW.si, and_assoc]
theorem si5 {w : GW} : w.si 5 ↔ w.parts = [] ∧ w.q = gr0 ∧ w.inf = false ∧ w.cost = 0 ∧ w.set = 0 ∧ PVal w.poly := by simp [GW.si, and_assoc]
theorem sgnR_nonneg {q : Rat} : 0 ≤ sgnR q ↔ 0 ≤ q := by
 rw [<- Rat.num_nonneg]; unfold sgnR; (repeat' split) <;> omega
theorem rto1_sm : (rto 1).sm 1 := ⟨lb_len_le (by decide), by decide⟩
theorem simple3_1 (w : GW) (hw : w.sm 1048576) : Sp P F.ref03_simple [.int .i64 1, enc w] (.pure (.bool (decide (w.si 1)))) := by
 refine Sp.of_vm' c.ref03_simple (by simp) fun _ => ?_
 rcases Bool.eq_false_or_eq_true w.inf with hb | hb
 ·simp [g.ref03_simple, go_sem]
  refine callP_pure (same1_sp w.q gr0 (hw.q.mono (by omega))) rfl ?_
  simp [hb, go_sem]
  exact ⟨fun _ h => by have := (si1.1 h).2; simp [hb] at this, fun _ h => by have := (si1.1 h).2; simp [hb] at this⟩
 ·simp [g.ref03_simple, go_sem]
  refine callP_pure (same1_sp w.q gr0 (hw.q.mono (by omega))) rfl ?_
  simp [hb, go_sem]
  simp only [si1, set0, len0, hb]
  refine ⟨fun h1 h => h1 h.1, fun h1 => ⟨fun h2 => ⟨fun h3 => ⟨fun h4 h => h4 h.2.2.2.2.1, fun h4 => ?_⟩, fun h3 h => h3 h.2.2.2.1⟩, fun h2 h => h2 h.2.2.1⟩⟩
  refine callP_pure (valid1_sp w.q (hw.q.mono (by omega))) rfl ?_
  simp [h1, h2, h3, h4, go_sem]
theorem simple3_2 (w : GW) (hw : w.sm 1048576) : Sp P F.ref03_simple [.int .i64 2, enc w] (.pure (.bool (decide (w.si 2)))) := by
 refine Sp.of_vm' c.ref03_simple (by simp) fun _ => ?_
 rcases Bool.eq_false_or_eq_true w.inf with hb | hb
 ·simp [g.ref03_simple, go_sem]
  refine callP_pure (same1_sp w.q gr0 (hw.q.mono (by omega))) rfl ?_
  simp [hb, go_sem]
  simp only [si2, set0, len0, hb]
  refine ⟨fun h1 h => h1 h.1, fun h1 => ⟨fun h2 => ⟨fun h3 => ⟨fun h4 h => h4 h.2.2.2.1, fun h4 => ⟨fun h5 => ⟨fun h6 => ?_, fun h6 h => ?_⟩, fun h5 h => ?_⟩⟩, fun h3 h => h3 h.2.2.1⟩, fun h2 h => h2 h.2.1⟩⟩
  ·simp [h1, h2, h3, h4, h5, h6]
  ·have := h.2.2.2.2.2.1; omega
  ·have := h.2.2.2.2.1; omega
 ·simp [g.ref03_simple, go_sem]
  refine callP_pure (same1_sp w.q gr0 (hw.q.mono (by omega))) rfl ?_
  simp [hb, go_sem]
  simp only [si2, set0, len0, hb]
  refine ⟨fun h1 h => h1 h.1, fun h1 => ⟨fun h2 => ⟨fun h3 => ⟨fun h4 h => h4 h.2.2.2.1, fun h4 => ⟨fun h5 => ⟨fun h6 => ?_, fun h6 h => ?_⟩, fun h5 h => ?_⟩⟩, fun h3 h => h3 h.2.2.1⟩, fun h2 h => h2 h.2.1⟩⟩
  ·simp [h1, h2, h3, h4, h5, h6]
  ·have := h.2.2.2.2.2.1; omega
  ·have := h.2.2.2.2.1; omega
theorem simple3_3 (w : GW) (hw : w.sm 1048576) : Sp P F.ref03_simple [.int .i64 3, enc w] (.pure (.bool (decide (w.si 3)))) := by
 refine Sp.of_vm' c.ref03_simple (by simp) fun _ => ?_
 rcases Bool.eq_false_or_eq_true w.inf with hb | hb
 ·simp [g.ref03_simple, go_sem]
  refine callP_pure (same1_sp w.q gr0 (hw.q.mono (by omega))) rfl ?_
  simp [hb, go_sem]
  exact ⟨fun _ h => by have := (si3.1 h).2; simp [hb] at this, fun _ h => by have := (si3.1 h).2; simp [hb] at this⟩
 ·simp [g.ref03_simple, go_sem]
  refine callP_pure (same1_sp w.q gr0 (hw.q.mono (by omega))) rfl ?_
  simp [hb, go_sem]
  simp only [si3, set0, len0, hb]
  refine ⟨fun h1 h => h1 h.1, fun h1 => ⟨fun h2 => ⟨fun h3 => ⟨fun h4 h => h4 h.2.2.2.2.1, fun h4 => ?_⟩, fun h3 h => h3 h.2.2.2.1⟩, fun h2 h => h2 h.2.2.1⟩⟩
  refine callP_pure (valid1_sp w.q (hw.q.mono (by omega))) rfl ?_
  rcases Bool.eq_false_or_eq_true w.q.valid with h5 | h5
  rotate_left
  ·simp [h1, h2, h3, h4, h5, go_sem]
  simp [h1, h2, h3, h4, h5, go_sem]
  refine callP_pure (sign1_sp w.q (hw.q.mono (by omega))) rfl ?_
  simp [go_sem]
  refine ⟨fun h6 => ?_, fun h6 => ?_⟩
  ·have hd : Rat.divInt 1 1 = 1 := rfl
   have hof := of1_sp 1 1 (by omega) (by omega) (by omega)
   rw [hd] at hof
   refine callP_pure hof rfl ?_
   simp [go_sem]
   refine callP_pure (less1_sp (rto 1) w.q (rto1_sm.mono (by omega)) hw.q) rfl ?_
   have h7 := sgnR_nonneg.1 h6
   simp [go_sem, v_rto, h7]
   by_cases h8 : 1 < w.q.v
   ·simp [h8, Rat.not_le.2 h8]
   ·simp [h8, Rat.not_lt.1 h8]
  ·have h7 : ¬ 0 ≤ w.q.v := fun h => by have := sgnR_nonneg.2 h; omega
   simp [h7]
theorem simple3_4 (w : GW) (hw : w.sm 1048576) : Sp P F.ref03_simple [.int .i64 4, enc w] (.pure (.bool (decide (w.si 4)))) := by
 refine Sp.of_vm' c.ref03_simple (by simp) fun _ => ?_
 rcases Bool.eq_false_or_eq_true w.inf with hb | hb
 ·simp [g.ref03_simple, go_sem]
  refine callP_pure (same1_sp w.q gr0 (hw.q.mono (by omega))) rfl ?_
  simp [hb, go_sem]
  exact ⟨fun _ h => by have := (si4.1 h).2; simp [hb] at this, fun _ h => by have := (si4.1 h).2; simp [hb] at this⟩
 ·simp [g.ref03_simple, go_sem]
  refine callP_pure (same1_sp w.q gr0 (hw.q.mono (by omega))) rfl ?_
  simp [hb, go_sem]
  simp only [si4, set0, len0, hb]
  refine ⟨fun h1 h => h1 h.1, fun h1 => ⟨fun h2 => ⟨fun h3 => ⟨fun h4 h => h4 h.2.2.2.2, fun h4 => by simp [h1, h2, h3, h4]⟩, fun h3 h => h3 h.2.2.2.1⟩, fun h2 h => h2 h.2.1⟩⟩
theorem simple3_5 (w : GW) (hw : w.sm 1048576) : Sp P F.ref03_simple [.int .i64 5, enc w] (.pure (.bool (decide (w.si 5)))) := by
 refine Sp.of_vm' c.ref03_simple (by simp) fun _ => ?_
 rcases Bool.eq_false_or_eq_true w.inf with hb | hb
 ·simp [g.ref03_simple, go_sem]
  refine callP_pure (same1_sp w.q gr0 (hw.q.mono (by omega))) rfl ?_
  simp [hb, go_sem]
  exact ⟨fun _ h => by have := (si5.1 h).2; simp [hb] at this, fun _ h => by have := (si5.1 h).2; simp [hb] at this⟩
 ·simp [g.ref03_simple, go_sem]
  refine callP_pure (same1_sp w.q gr0 (hw.q.mono (by omega))) rfl ?_
  simp [hb, go_sem]
  simp only [si5, set0, len0, hb]
  refine ⟨fun h1 h => h1 h.1, fun h1 => ⟨fun h2 => ⟨fun h3 => ⟨fun h4 => ?_, fun h4 h => h4 h.2.2.2.2.1⟩, fun h3 h => h3 h.2.2.2.1⟩, fun h2 h => h2 h.2.1⟩⟩
  refine callP_pure (valid2_sp w.poly hw.poly (by have := hw.len; omega)) rfl ?_
  simp [h1, h2, h3, h4, go_sem]
theorem simple3_x (k : Int) (w : GW) (hk : 1 ≤ k ∧ k ≤ 5) (hw : w.sm 1048576) : Sp P F.ref03_simple [.int .i64 k, enc w] (.pure (.bool (decide (w.si k)))) := by
 have : k = 1 ∨ k = 2 ∨ k = 3 ∨ k = 4 ∨ k = 5 := by omega
 rcases this with rfl | rfl | rfl | rfl | rfl
 ·exact simple3_1 w hw
 ·exact simple3_2 w hw
 ·exact simple3_3 w hw
 ·exact simple3_4 w hw
 ·exact simple3_5 w hw
end Go.Ab
namespace Go.Ab
open Enc (enc)
attribute [local go_sem] optOpd Opd.slots
def GW.chk (r : GRing) (w : GW) : Prop := r.ok = true ∧ (r.kind ≠ 6 -> w.si r.kind) ∧ (r.kind = 6 -> w.parts.length = r.parts.length ∧ w = .mk gr0 0 false 0 [] w.parts ∧ ∀ i, (h : i < r.parts.length) -> (h' : i < w.parts.length) -> w.parts[i].si r.parts[i])
noncomputable instance (r : GRing) (w : GW) : Decidable (w.chk r) := Classical.propDecidable _
theorem GRing.ok_kind {r : GRing} (h : r.ok = true) (h6 : r.kind ≠ 6) : 1 ≤ r.kind ∧ r.kind ≤ 5 ∧ r.parts = [] := by
 simp only [GRing.ok, if_neg h6, decide_eq_true_eq] at h; exact h
theorem GRing.ok_parts {r : GRing} (h : r.ok = true) (h6 : r.kind = 6) : 2 ≤ r.parts.length ∧ r.parts.length ≤ 3 ∧ ∀ k ∈ r.parts, 1 ≤ k ∧ k ≤ 5 := by
 simp only [GRing.ok, if_pos h6, decide_eq_true_eq] at h; exact h
@[go_sem] theorem GW.q_mk (q : GRat) (c : Int) (i : Bool) (s : UInt64) (p : List GMono) (ps : List GW) : (GW.mk q c i s p ps).q = q := rfl
@[go_sem] theorem GW.cost_mk (q : GRat) (c : Int) (i : Bool) (s : UInt64) (p : List GMono) (ps : List GW) : (GW.mk q c i s p ps).cost = c := rfl
@[go_sem] theorem GW.inf_mk (q : GRat) (c : Int) (i : Bool) (s : UInt64) (p : List GMono) (ps : List GW) : (GW.mk q c i s p ps).inf = i := rfl
@[go_sem] theorem GW.set_mk (q : GRat) (c : Int) (i : Bool) (s : UInt64) (p : List GMono) (ps : List GW) : (GW.mk q c i s p ps).set = s := rfl
@[go_sem] theorem GW.poly_mk (q : GRat) (c : Int) (i : Bool) (s : UInt64) (p : List GMono) (ps : List GW) : (GW.mk q c i s p ps).poly = p := rfl
@[go_sem] theorem GW.parts_mk (q : GRat) (c : Int) (i : Bool) (s : UInt64) (p : List GMono) (ps : List GW) : (GW.mk q c i s p ps).parts = ps := rfl
@[go_sem] theorem gr0_neg : gr0.neg = false := rfl
@[go_sem] theorem gr0_num : gr0.num = [] := rfl
@[go_sem] theorem gr0_den : gr0.den = [] := rfl
theorem gr0_sm (n : Nat) : gr0.sm n := ⟨by simp [gr0], by simp [gr0]⟩
theorem GW.sm.tup {n : Nat} {ps : List GW} (h : ps.length ≤ n) (k : ∀ w ∈ ps, w.sm n) : (GW.mk gr0 0 false 0 [] ps).sm n := .mk (gr0_sm n) (by intro m hm; simp at hm) (by simp) h k
theorem check3_sp (r : GRing) (w : GW) (hw : w.sm 1048576) : Sp P F.ref03_Check [enc r, enc w] (.pure (.bool (decide (w.chk r)))) := by
 refine Sp.of_vm' c.ref03_Check (by simp) fun _ => ?_
 simp [g.ref03_Check, go_sem]
 refine callP_pure (valid3_sp r) rfl ?_
 rcases Bool.eq_false_or_eq_true r.ok with hr0 | hr0
 rotate_left
 ·simp [hr0, GW.chk, go_sem]
 simp [hr0, go_sem]
 refine ⟨fun h6 => ?_, fun h6 => ?_⟩
 rotate_left
 ·have hk := GRing.ok_kind hr0 h6
  refine callP_pure (simple3_x r.kind w ⟨hk.1, hk.2.1⟩ hw) (by simp [go_sem]) ?_
  simp [GW.chk, hr0, h6, go_sem]
 refine ⟨fun hl => ?_, fun hl h => ?_⟩
 rotate_left
 ·have := (h.2.2 h6).1; omega
 have hl' : w.parts.length = r.parts.length := by omega
 have hp := GRing.ok_parts hr0 h6
 refine callP_pure (equal3_sp (.mk gr0 0 false 0 [] w.parts) (.tup hw.plen hw.parts) w) (by simp [go_sem]) ?_
 by_cases he : GW.mk gr0 0 false 0 [] w.parts = w
 rotate_left
 ·simp [he, go_sem]
  exact fun h => he (h.2.2 h6).2.1.symm
 simp [he, go_sem]
 refine vL_rule (S := fun k : Nat => mkSt [(2, .ptr 1 0 0 0), (3, .ptr 2 0 0 0), (5, .p (.int .i64 k))] [(1, ⟨2, [.p (enc r)]⟩), (2, ⟨8, [.p (enc w)]⟩)]) (I := fun k => k ≤ r.parts.length ∧ ∀ i, (h : i < r.parts.length) -> (h' : i < w.parts.length) -> i < k -> w.parts[i].si r.parts[i]) (m := fun k => r.parts.length - k) 0
  (Weak.to [2, 3, 5] [((2, 0), 1), ((3, 0), 2)] (by simp [go_sem])) ⟨by omega, fun i h h' h0 => by omega⟩ ?_
 rintro k ⟨h7, h8⟩ R hn hr hx
 have e1 : IntKind.i64.wrap ((k : Int) + 1) = ((k + 1 : Nat) : Int) := i64w (by omega) (by omega)
 simp [g.ref03_Check_l1, mkSt, go_sem]
 refine ⟨fun hk => ?_, fun hk => hx _ _ ?_⟩
 ·have hk2 : k < w.parts.length := by omega
  refine atP_get hk ?_
  refine atP_get hk2 ?_
  refine callP_pure (simple3_x r.parts[k] w.parts[k] (hp.2.2 _ (List.getElem_mem hk)) (hw.parts _ (List.getElem_mem hk2))) (by simp [go_sem]) ?_
  by_cases h9 : w.parts[k].si r.parts[k]
  ·simp [h9, e1, go_sem]
   refine hn (k + 1) _ (Weak.to [2, 3, 5] [((1, 0), 1), ((2, 0), 2)] (by simp [go_sem])) ⟨by omega, fun i h h' hi => ?_⟩ (by omega)
   by_cases hik : i < k
   ·exact h8 i h h' hik
   ·have : i = k := by omega
    subst this; exact h9
  ·simp [h9, go_sem]
   refine hr _ ?_
   have : ¬ w.chk r := fun h => h9 ((h.2.2 h6).2.2 k hk hk2)
   simp [this, go_sem]
 ·have : w.chk r := ⟨hr0, fun h => absurd h6 h, fun _ => ⟨hl', he.symm, fun i h h' => h8 i h h' (by omega)⟩⟩
  simp [this, go_sem]
end Go.Ab
namespace Go.Ab
open Enc (enc)
attribute [local go_sem] optOpd Opd.slots
theorem gmono_eq (m n : GMono) : m = n ↔ (m.e.a = n.e.a ∧ m.e.b = n.e.b ∧ m.e.c = n.e.c) ∧ m.coef = n.coef := by
 obtain ⟨⟨a, b, c⟩, q⟩ := m
 obtain ⟨⟨a', b', c'⟩, q'⟩ := n
 simp
theorem equalK1_sp (m n : GMono) (hm : m.coef.sm 1048576) : Sp P F.semiring_Equal_k1 [enc m, enc n] (.pure (.bool (decide (m = n)))) := by
 refine Sp.of_vm' c.semiring_Equal_k1 (by simp) fun _ => ?_
 simp [g.semiring_Equal_k1, go_sem]
 refine ⟨fun h1 h2 h3 => ?_, fun h => ?_⟩
 ·refine callP_pure (sameRat_sp m.coef n.coef (hm.mono (by omega))) rfl ?_
  simp [gmono_eq, h1, h2, h3, go_sem]
 ·have hmn : m ≠ n := fun e => by
   obtain ⟨⟨h1, h2, h3⟩, _⟩ := (gmono_eq m n).1 e
   exact h h1 h2 h3
  simp [hmn, go_sem]
theorem equalS_sp (v : GW) (hv : v.sm 1048576) : ∀ w : GW, Sp P F.semiring_Equal [enc v, enc w] (.pure (.bool (decide (v = w)))) := by
 revert v
 refine GW.sm.ind fun v hv ih w => ?_
 refine Sp.of_vm' c.semiring_Equal (by simp) fun hok => ?_
 simp [g.semiring_Equal, go_sem]
 refine callP_pure (sameRat_sp v.q w.q (hv.q.mono (by omega))) rfl ?_
 by_cases h1 : v.q = w.q
 rotate_left
 ·have : v ≠ w := fun h => h1 (by rw [h])
  simp [h1, this, go_sem]
 simp [h1, go_sem]
 refine ⟨fun h2 => ?_, fun h2 => ?_⟩
 rotate_left
 ·exact fun h => h2 (by rw [h])
 refine ⟨fun h3 => ?_, fun h3 => ?_⟩
 rotate_left
 ·exact fun h => h3 (by rw [h])
 refine ⟨fun h4' => ?_, fun h4 => ?_⟩
 rotate_left
 ·exact fun h => h4 (by rw [h])
 have h4 : v.set = w.set := UInt64.toNat_inj.1 (by omega)
 refine callP_pure (eqf_api_Monomial v.poly w.poly F.semiring_Equal_k1 (by have := hv.len; omega) fun x hx y _ => equalK1_sp x y (hv.poly x hx)) rfl ?_
 by_cases h5 : v.poly = w.poly
 rotate_left
 ·have : v ≠ w := fun h => h5 (by rw [h])
  simp [h5, this, go_sem]
 simp [h5, go_sem]
 refine callP_pure (eqf_api_Weight v.parts w.parts F.semiring_Equal (by have := hv.plen; omega) fun x hx y _ => ih x hx y) rfl ?_
 by_cases h6 : v.parts = w.parts
 ·have : v = w := GW.ext h1 h2 h3 h4 h5 h6
  simp [this, go_sem]
 ·have : v ≠ w := fun h => h6 (by rw [h])
  simp [h6, this, go_sem]
end Go.Ab
namespace Go.Ab
open Enc (enc)
attribute [local go_sem] optOpd Opd.slots
def ratA : PV := .agg [.fn F.semiring_rationals_k1 [], .fn F.semiring_rationals_k2 [], .fn F.semiring_rationals_k3 [], .fn F.semiring_rationals_k4 [], .fn F.semiring_rationals_k5 [], .fn F.semiring_quotient [], .fn F.semiring_never [], .fn F.semiring_rationals_k6 [], .fn F.semiring_readNumber []]
def polA : PV := .agg [.fn F.semiring_polynomials_k1 [], .fn F.semiring_polynomials_k2 [], .fn F.semiring_polynomials_k3 [], .fn F.semiring_polynomials_k4 [], .fn F.semiring_polynomials_k5 [], .fn F.semiring_polynomials_k6 [], .fn F.semiring_never [], .fn F.semiring_polynomials_k7 [], .fn F.semiring_polynomials_k8 []]
def fraB (x : PV) : PV := .agg [.fn F.semiring_fractions_k1 [], .fn F.semiring_rationals_k2 [], .fn F.semiring_rationals_k3 [], .fn F.semiring_fractions_k3 [x], .fn F.semiring_rationals_k5 [], .fn F.semiring_unit_k1 [.ref (.fn F.semiring_rationals_k3 [])], .fn F.semiring_fractions_k2 [], .fn F.semiring_rationals_k6 [], .fn F.semiring_fractions_k4 [x]]
def cosB (x : PV) : PV := .agg [.fn F.semiring_costs_k1 [], .fn F.semiring_costs_k2 [], .fn F.semiring_costs_k3 [], .fn F.semiring_costs_k4 [], .fn F.semiring_costs_k5 [], .fn F.semiring_unit_k1 [.ref (.fn F.semiring_costs_k3 [])], .fn F.semiring_less [], .fn F.semiring_costs_k6 [], .fn F.semiring_costs_k7 [x]]
def setB (x : PV) : PV := .agg [.fn F.semiring_sets_k1 [], .fn F.semiring_sets_k2 [], .fn F.semiring_sets_k3 [], .fn F.semiring_sets_k4 [], .fn F.semiring_sets_k5 [], .fn F.semiring_unit_k1 [.ref (.fn F.semiring_sets_k3 [])], .fn F.semiring_never [], .fn F.semiring_sets_k6 [], .fn F.semiring_sets_k7 [x]]
def fraA : PV := fraB (.ref (fraB .any))
def cosA : PV := cosB (.ref (cosB .any))
def setA : PV := setB (.ref (setB .any))
theorem rationals_sp : Sp P F.semiring_rationals [] (.pure ratA) := by
 refine Sp.of_vm' c.semiring_rationals (by simp) fun _ => ?_
 simp [g.semiring_rationals, go_sem, ratA]
theorem polynomials_sp : Sp P F.semiring_polynomials [] (.pure polA) := by
 refine Sp.of_vm' c.semiring_polynomials (by simp) fun _ => ?_
 simp [g.semiring_polynomials, go_sem, polA]
theorem unit_sp (f : FuncId) : Sp P F.semiring_unit [.fn f []] (.pure (.fn F.semiring_unit_k1 [.ref (.fn f [])])) := by
 refine Sp.of_vm' c.semiring_unit (by simp) fun _ => ?_
 simp [g.semiring_unit, go_sem, toPV]
theorem fractions_sp : Sp P F.semiring_fractions [] (.pure fraA) := by
 refine Sp.of_vm' c.semiring_fractions (by simp) fun _ => ?_
 simp [g.semiring_fractions, go_sem]
 refine callP_pure rationals_sp rfl ?_
 simp [go_sem, ratA]
 refine callP_pure (unit_sp F.semiring_rationals_k3) rfl ?_
 simp [go_sem, toPV, fraA, fraB]
theorem costs_sp : Sp P F.semiring_costs [] (.pure cosA) := by
 refine Sp.of_vm' c.semiring_costs (by simp) fun _ => ?_
 simp [g.semiring_costs, go_sem]
 refine callP_pure (unit_sp F.semiring_costs_k3) rfl ?_
 simp [go_sem, toPV, cosA, cosB]
theorem sets_sp : Sp P F.semiring_sets [] (.pure setA) := by
 refine Sp.of_vm' c.semiring_sets (by simp) fun _ => ?_
 simp [g.semiring_sets, go_sem]
 refine callP_pure (unit_sp F.semiring_sets_k3) rfl ?_
 simp [go_sem, toPV, setA, setB]
def kindA (k : Int) : PV := if k = 1 then ratA else if k = 2 then cosA else if k = 3 then fraA else if k = 4 then setA else polA
theorem kind_sp (k : Int) (hk : 1 ≤ k ∧ k ≤ 5) : Sp P F.semiring_kind [.int .i64 k] (.pure (kindA k)) := by
 have : k = 1 ∨ k = 2 ∨ k = 3 ∨ k = 4 ∨ k = 5 := by omega
 rcases this with rfl | rfl | rfl | rfl | rfl
 ·refine Sp.of_vm' c.semiring_kind (by simp) fun _ => ?_
  simp [g.semiring_kind, go_sem]
  refine callP_pure rationals_sp rfl ?_
  simp [go_sem, kindA, ratA]
 ·refine Sp.of_vm' c.semiring_kind (by simp) fun _ => ?_
  simp [g.semiring_kind, go_sem]
  refine callP_pure costs_sp rfl ?_
  simp [go_sem, kindA, cosA, cosB]
 ·refine Sp.of_vm' c.semiring_kind (by simp) fun _ => ?_
  simp [g.semiring_kind, go_sem]
  refine callP_pure fractions_sp rfl ?_
  simp [go_sem, kindA, fraA, fraB]
 ·refine Sp.of_vm' c.semiring_kind (by simp) fun _ => ?_
  simp [g.semiring_kind, go_sem]
  refine callP_pure sets_sp rfl ?_
  simp [go_sem, kindA, setA, setB]
 ·refine Sp.of_vm' c.semiring_kind (by simp) fun _ => ?_
  simp [g.semiring_kind, go_sem]
  refine callP_pure polynomials_sp rfl ?_
  simp [go_sem, kindA, polA]
theorem single_sp (k : Int) : Sp P F.semiring_single [.int .i64 k] (.pure (.bool (decide (1 ≤ k ∧ k ≤ 5)))) := by
 refine Sp.of_vm' c.semiring_single (by simp) fun _ => ?_
 simp [g.semiring_single, go_sem]
 refine ⟨fun h => by simp [h], fun h => by simp [show ¬ 1 ≤ k by omega]⟩
theorem validK1_sp (k : Int) : Sp P F.semiring_Valid_k1 [.int .i64 k] (.pure (.bool (!decide (1 ≤ k ∧ k ≤ 5)))) := by
 refine Sp.of_vm' c.semiring_Valid_k1 (by simp) fun _ => ?_
 simp [g.semiring_Valid_k1, go_sem]
 refine callP_pure (single_sp k) rfl ?_
 simp [go_sem]
theorem validS_sp (r : GRing) : Sp P F.semiring_Valid [enc r] (.pure (.bool r.ok)) := by
 refine Sp.of_vm' c.semiring_Valid (by simp) fun hok => ?_
 simp [g.semiring_Valid, go_sem]
 refine ⟨fun h6 => ⟨fun h2 => ⟨fun h3 => ?_, fun h3 => ?_⟩, fun h2 => ?_⟩, fun h6 => ?_⟩
 ·refine callP_pure (has_int r.parts F.semiring_Valid_k1 [] (fun k => !decide (1 ≤ k ∧ k ≤ 5)) (by omega) fun k _ => validK1_sp k) rfl ?_
  have : r.ok = !(r.parts.any fun k => !decide (1 ≤ k ∧ k ≤ 5)) := by
   rw [Bool.eq_iff_iff]
   simp only [GRing.ok, if_pos h6, decide_eq_true_eq, Bool.not_eq_true', List.any_eq_false]
   constructor
   ·intro h x hx; have := h.2.2 x hx; simp [this]
   ·intro h; exact ⟨by omega, by omega, fun k hk => by have := h k hk; simpa using this⟩
  simp [go_sem, this]
 ·simp [GRing.ok, h6]; intro h; omega
 ·simp [GRing.ok, h6]; intro h; omega
 ·refine callP_pure (single_sp r.kind) rfl ?_
  by_cases hk : 1 ≤ r.kind ∧ r.kind ≤ 5
  ·simp [go_sem, hk, GRing.ok, h6]
  ·have : r.ok = false := by simp only [GRing.ok, if_neg h6, decide_eq_false_iff_not]; omega
   simp [go_sem, hk, this]
end Go.Ab
namespace Go.Ab
open Enc (enc)
attribute [local go_sem] optOpd Opd.slots
theorem gw_inj (w : GW) (q : GRat) (c : Int) (i : Bool) (s : UInt64) (p : List GMono) (ps : List GW) : w = .mk q c i s p ps ↔ w.q = q ∧ w.cost = c ∧ w.inf = i ∧ w.set = s ∧ w.poly = p ∧ w.parts = ps := by
 cases w; simp [GW.q, GW.cost, GW.inf, GW.set, GW.poly, GW.parts]
theorem ratK1_sp (w : GW) (hw : w.sm 1048576) : Sp P F.semiring_rationals_k1 [enc w] (.pure (.bool (decide (w.si 1)))) := by
 refine Sp.of_vm' c.semiring_rationals_k1 (by simp) fun _ => ?_
 simp [g.semiring_rationals_k1, go_sem]
 refine callP_pure (rvalid_sp w.q (hw.q.mono (by omega))) rfl ?_
 rcases Bool.eq_false_or_eq_true w.q.valid with hv | hv
 ·simp [go_sem, hv]
  refine callP_pure (equalS_sp w hw (.mk w.q 0 false 0 [] [])) (by simp [go_sem]) ?_
  simp [go_sem]
  rw [si1, gw_inj]
  simp [hv]
  exact ⟨fun ⟨a, b, c, d, e⟩ => ⟨e, b, a, c, d⟩, fun ⟨e, b, a, c, d⟩ => ⟨a, b, c, d, e⟩⟩
 ·have : ¬ w.si 1 := fun h => by have := (si1.1 h).2.2.2.2.2; rw [hv] at this; cases this
  simp [go_sem, hv, this]
theorem polK1_sp (w : GW) (hw : w.sm 1048576) : Sp P F.semiring_polynomials_k1 [enc w] (.pure (.bool (decide (w.si 5)))) := by
 refine Sp.of_vm' c.semiring_polynomials_k1 (by simp) fun _ => ?_
 simp [g.semiring_polynomials_k1, go_sem]
 refine callP_pure (pvalid_sp w.poly hw.poly (by have := hw.len; omega)) rfl ?_
 by_cases hv : PVal w.poly
 ·simp [go_sem, hv]
  refine callP_pure (equalS_sp w hw (.mk gr0 0 false 0 w.poly [])) (by simp [go_sem]) ?_
  simp [go_sem]
  rw [si5, gw_inj]
  simp [hv]
  exact ⟨fun ⟨a, b, c, d, e⟩ => ⟨e, a, c, b, d⟩, fun ⟨e, a, c, b, d⟩ => ⟨a, b, c, d, e⟩⟩
 ·have : ¬ w.si 5 := fun h => hv (si5.1 h).2.2.2.2.2
  simp [go_sem, hv, this]
theorem setK1_sp (w : GW) (hw : w.sm 1048576) : Sp P F.semiring_sets_k1 [enc w] (.pure (.bool (decide (w.si 4)))) := by
 refine Sp.of_vm' c.semiring_sets_k1 (by simp) fun _ => ?_
 simp [g.semiring_sets_k1, go_sem]
 refine callP_pure (equalS_sp w hw (.mk gr0 0 false w.set [] [])) (by simp [go_sem]) ?_
 simp [go_sem]
 rw [si4, gw_inj]
 simp
 exact ⟨fun ⟨a, b, c, d, e⟩ => ⟨e, a, c, b, d⟩, fun ⟨e, a, c, b, d⟩ => ⟨a, b, c, d, e⟩⟩
theorem cosK1_sp (w : GW) (hw : w.sm 1048576) : Sp P F.semiring_costs_k1 [enc w] (.pure (.bool (decide (w.si 2)))) := by
 refine Sp.of_vm' c.semiring_costs_k1 (by simp) fun _ => ?_
 simp [g.semiring_costs_k1, go_sem]
 have no : ¬ (0 ≤ w.cost ∧ w.cost ≤ 1099511627776 ∧ (w.inf = true -> w.cost = 0)) -> ¬ w.si 2 := fun h h2 => h (si2.1 h2).2.2.2.2
 refine ⟨fun h1 => ⟨fun h2 => ?_, fun h2 => ?_⟩, fun h1 => ?_⟩
 ·rcases Bool.eq_false_or_eq_true w.inf with hi | hi
  ·simp [go_sem, hi]
   refine ⟨fun h3 => ?_, fun h3 => no (fun h => h3 (h.2.2 hi))⟩
   refine callP_pure (equalS_sp w hw (.mk gr0 w.cost true 0 [] [])) (by simp [go_sem, hi]) ?_
   simp [go_sem]
   rw [si2, gw_inj]
   simp [hi, h3]
   exact ⟨fun ⟨a, b, c, d⟩ => ⟨d, a, b, c⟩, fun ⟨d, a, b, c⟩ => ⟨a, b, c, d⟩⟩
  ·simp [go_sem, hi]
   refine callP_pure (equalS_sp w hw (.mk gr0 w.cost false 0 [] [])) (by simp [go_sem, hi]) ?_
   simp [go_sem]
   rw [si2, gw_inj]
   simp [hi, h1, h2]
   exact ⟨fun ⟨a, b, c, d⟩ => ⟨d, a, b, c⟩, fun ⟨d, a, b, c⟩ => ⟨a, b, c, d⟩⟩
 ·exact no (by omega)
 ·exact no (by omega)
theorem rto1_sp : Sp P F.rational_Make [.int .i64 1, .int .i64 1] (.pure (.tup [enc (rto 1), .int .i64 0])) := by
 have h := rmake_sp 1 1 (by omega) (by omega)
 have hd : Rat.divInt 1 1 = 1 := rfl
 simp [hd] at h
 exact h
theorem number1_sp : Sp P F.semiring_number [.int .i64 1] (.pure (enc (.mk (rto 1) 0 false 0 [] [] : GW))) := by
 refine Sp.of_vm' c.semiring_number (by simp) fun _ => ?_
 simp [g.semiring_number, go_sem]
 refine callP_pure rto1_sp rfl ?_
 simp [go_sem]
theorem num_lt {x y : Rat} : x < y ↔ (x - y).num < 0 := by
 rw [Rat.lt_iff_sub_pos]
 have : (x - y) = -(y - x) := by rw [Rat.neg_sub]
 rw [this, Rat.neg_num]
 have h1 : 0 ≤ y - x ↔ 0 ≤ (y - x).num := Rat.num_nonneg.symm
 have h2 : (y - x) = 0 ↔ (y - x).num = 0 := Rat.num_eq_zero.symm
 rw [Rat.lt_iff_le_and_ne, h1, ne_comm, Ne, h2]; omega
theorem num_swap (x y : Rat) : (x - y).num = -(y - x).num := by
 have : (x - y) = -(y - x) := by rw [Rat.neg_sub]
 rw [this, Rat.neg_num]
theorem sgn_pos {x y : Rat} : 0 < sgnR (x - y) ↔ y < x := by
 rw [num_lt]
 have := num_swap x y
 unfold sgnR; (repeat' split) <;> omega
theorem sgn_le {x y : Rat} : sgnR (x - y) ≤ 0 ↔ x ≤ y := by
 rw [<- Rat.not_lt, <- sgn_pos]; omega
theorem fraK1_sp (w : GW) (hw : w.sm 1048576) : Sp P F.semiring_fractions_k1 [enc w] (.pure (.bool (decide (w.si 3)))) := by
 refine Sp.of_vm' c.semiring_fractions_k1 (by simp) fun _ => ?_
 simp [g.semiring_fractions_k1, go_sem]
 refine callP_pure rationals_sp rfl ?_
 simp [go_sem, ratA]
 refine callP_pure (ratK1_sp w hw) (by simp [go_sem]) ?_
 have i3 : w.si 3 ↔ w.si 1 ∧ 0 ≤ w.q.v ∧ w.q.v ≤ 1 := by
  rw [si3, si1]; exact ⟨fun ⟨a, b, c, d, e, f, g, h⟩ => ⟨⟨a, b, c, d, e, f⟩, g, h⟩, fun ⟨⟨a, b, c, d, e, f⟩, g, h⟩ => ⟨a, b, c, d, e, f, g, h⟩⟩
 by_cases h1 : w.si 1
 ·simp [go_sem, h1]
  refine callP_pure (rsign_sp w.q (hw.q.mono (by omega))) rfl ?_
  simp [go_sem]
  refine ⟨fun h2 => ?_, fun h2 => ?_⟩
  ·refine callP_pure number1_sp rfl ?_
   simp [go_sem]
   refine callP_pure (rcompare_sp w.q (rto 1) hw.q (rto1_sm.mono (by omega))) rfl ?_
   simp [go_sem]
   rw [v_rto]
   have a1 := sgnR_nonneg.1 h2
   rw [sgn_le, i3]
   simp [h1, a1]
  ·have : ¬ 0 ≤ w.q.v := fun h => by have := sgnR_nonneg.2 h; omega
   simp [i3, this]
 ·simp [go_sem, i3, h1]
end Go.Ab
namespace Go.Ab
open Enc (enc)
attribute [local go_sem] optOpd Opd.slots
def zeroK (k : Int) : GW := .mk gr0 0 (decide (k = 2)) 0 [] []
def GRing.zero (r : GRing) : GW := if r.ok then .mk gr0 0 (decide (r.kind = 2)) 0 [] (r.parts.map zeroK) else gw0
theorem zero3_s (r : GRing) (h : r.parts = []) : Sp P F.ref03_Zero [enc r] (.pure (enc r.zero)) := by
 refine Sp.of_vm' c.ref03_Zero (by simp) fun _ => ?_
 simp [g.ref03_Zero, go_sem]
 refine callP_pure (valid3_sp r) rfl ?_
 rcases Bool.eq_false_or_eq_true r.ok with hr0 | hr0
 rotate_left
 ·simp [hr0, GRing.zero, gw0, go_sem]
 simp [hr0, go_sem]
 refine vL_unroll fun R hn hr hx => ?_
 simp [g.ref03_Zero_l1, h, go_sem]
 refine hx _ _ ?_
 simp [hr0, GRing.zero, h, go_sem]
theorem zero3_sp (r : GRing) : Sp P F.ref03_Zero [enc r] (.pure (enc r.zero)) := by
 refine Sp.of_vm' c.ref03_Zero (by simp) fun _ => ?_
 simp [g.ref03_Zero, go_sem]
 refine callP_pure (valid3_sp r) rfl ?_
 rcases Bool.eq_false_or_eq_true r.ok with hr0 | hr0
 rotate_left
 ·simp [hr0, GRing.zero, gw0, go_sem]
 simp [hr0, go_sem]
 refine vL_rule (S := fun k : Nat => mkSt [(1, .ptr 1 0 0 0), (2, .ptr 2 0 0 0), (3, .ptr 3 0 0 0), (4, .p (.int .i64 k))]
   [(1, ⟨2, [.p (enc r)]⟩), (2, ⟨8, [.agg [.p (.bool false), .nil, .nil, .p (.int .i64 0), .p (.bool false), .p (.int .u64 0), .nil, .nil]]⟩),
    (3, ⟨8, [.agg [.p (.bool false), .nil, .nil, .p (.int .i64 0), .p (.bool (decide (r.kind = 2))), .p (.int .u64 0), .nil, .own 4 0 0 k]]⟩), (4, ⟨8, avs ((r.parts.map zeroK).take k)⟩)])
  (I := fun k => k ≤ r.parts.length) (m := fun k => r.parts.length - k) 0
  ((Weak.nilCell (s0 := 3) (g0 := 0) (i := 7) (s := 77) (sz := 8) rfl).trans (Weak.to [1, 2, 3, 4] [((1, 0), 1), ((2, 0), 2), ((3, 0), 3), ((77, 0), 4)] (by simp [go_sem]))) (by omega) ?_
 rintro k h1 R hn hr hx
 have hlen : r.parts.length ≤ 3 := by
  by_cases h6 : r.kind = 6
  ·exact (GRing.ok_parts hr0 h6).2.1
  ·simp [(GRing.ok_kind hr0 h6).2.2]
 have e1 : IntKind.i64.wrap ((k : Int) + 1) = ((k + 1 : Nat) : Int) := i64w (by omega) (by omega)
 simp [g.ref03_Zero_l1, mkSt, go_sem]
 refine ⟨fun hk => ?_, fun hk => hx _ _ ?_⟩
 ·have h6 : r.kind = 6 := by
   by_cases h6 : r.kind = 6
   ·exact h6
   ·have := (GRing.ok_kind hr0 h6).2.2; rw [this] at hk; simp at hk
  have hpk := (GRing.ok_parts hr0 h6).2.2 _ (List.getElem_mem hk)
  refine callP_pure (part3_sp r k hk) rfl ?_
  simp [go_sem]
  refine callP_pure (zero3_s ⟨r.parts[k], []⟩ rfl) rfl ?_
  have hz : (⟨r.parts[k], []⟩ : GRing).zero = zeroK r.parts[k] := by
   have h7 : r.parts[k] ≠ 6 := by omega
   simp [GRing.zero, GRing.ok, h7, hpk, zeroK]
  have hk' : k < (r.parts.map zeroK).length := by simpa using hk
  rw [hz]
  simp [e1, go_sem]
  refine ⟨by omega, hn (k + 1) _ (Weak.to [1, 2, 3, 4] [((1, 0), 1), ((2, 0), 2), ((3, 0), 3), ((28, 0), 4)] (by simp [go_sem, List.take_succ_eq_append_getElem hk', avs_append])) (by omega) (by omega)⟩
 ·have : k = r.parts.length := by omega
  subst this
  have ht : (r.parts.map zeroK).take r.parts.length = r.parts.map zeroK := by rw [List.take_of_length_le (by simp)]
  simp [hr0, GRing.zero, go_sem]
  simp only [ht]
theorem isZero3_sp (r : GRing) (w : GW) (hw : w.sm 1048576) : Sp P F.ref03_IsZero [enc r, enc w] (.pure (.bool (decide (w = r.zero)))) := by
 refine Sp.of_vm' c.ref03_IsZero (by simp) fun _ => ?_
 simp [g.ref03_IsZero, go_sem]
 refine callP_pure (zero3_sp r) (by simp [go_sem]) ?_
 simp [go_sem]
 refine callP_pure (equal3_sp w hw r.zero) (by simp [go_sem]) ?_
 simp [go_sem]
end Go.Ab
namespace Go.Ab
open Enc (enc)
attribute [local go_sem] optOpd Opd.slots
noncomputable def GW.tk (r : GRing) (w : GW) : GW := if w.chk r then w else r.zero
theorem gr0_valid : gr0.valid = true := by have := rto_valid 0; rw [rto_zero] at this; exact this
theorem si_q {k : Int} {w : GW} (h : w.si k) : w.q.valid = true := by
 by_cases h1 : k = 1
 ·exact h.2.2.2.2.2.1 h1
 ·by_cases h3 : k = 3
  ·exact (h.2.2.2.2.2.2.2.1 h3).1
  ·rw [h.2.1 h1 h3]; exact gr0_valid
theorem si_p {k : Int} {w : GW} (h : w.si k) : PVal w.poly := by
 by_cases h1 : k = 5
 ·exact h.2.2.2.2.2.2.2.2 h1
 ·rw [h.2.2.2.2.1 h1]; exact nil_val
theorem chk_q {r : GRing} {w : GW} (h : w.chk r) : w.q.valid = true := by
 by_cases h6 : r.kind = 6
 ·have := (h.2.2 h6).2.1; rw [this]; exact gr0_valid
 ·exact si_q (h.2.1 h6)
theorem chk_p {r : GRing} {w : GW} (h : w.chk r) : PVal w.poly := by
 by_cases h6 : r.kind = 6
 ·have := (h.2.2 h6).2.1; rw [this]; exact nil_val
 ·exact si_p (h.2.1 h6)
theorem ok_one {k : Int} (h : 1 ≤ k ∧ k ≤ 5) : (⟨k, []⟩ : GRing).ok = true := by
 have h7 : k ≠ 6 := by omega
 simp [GRing.ok, h7, h]
theorem chk_part {r : GRing} {w : GW} (h : w.chk r) (h6 : r.kind = 6) {i : Nat} (hi : i < r.parts.length) (hi' : i < w.parts.length) : w.parts[i].chk ⟨r.parts[i], []⟩ := by
 have hp := (GRing.ok_parts h.1 h6).2.2 _ (List.getElem_mem hi)
 refine ⟨ok_one hp, fun _ => (h.2.2 h6).2.2 i hi hi', fun h' => ?_⟩
 simp at h'; omega
theorem take3_s (r : GRing) (w : GW) (hw : w.sm 1048576) (h : w.parts = []) : Sp P F.ref03_Take [enc r, enc w] (.pure (enc (w.tk r))) := by
 refine Sp.of_vm' c.ref03_Take (by simp) fun _ => ?_
 simp [g.ref03_Take, go_sem]
 refine callP_pure (check3_sp r w hw) (by simp [go_sem]) ?_
 by_cases hc : w.chk r
 rotate_left
 ·simp [hc, GW.tk, go_sem]
  refine callP_pure (zero3_sp r) (by simp [go_sem]) ?_
  simp [go_sem]
 simp [hc, GW.tk, go_sem]
 refine callP_pure (take1_sp w.q (hw.q.mono (by omega))) rfl ?_
 rw [rto_v (chk_q hc)]
 simp [go_sem]
 refine callP_pure (take2_sp w.poly hw.poly (by have := hw.len; omega)) rfl ?_
 rw [pv_of (chk_p hc)]
 simp [go_sem]
 refine vL_unroll fun R hn hr hx => ?_
 simp [g.ref03_Take_l1, h, go_sem]
 refine hx _ _ ?_
 simp [h, go_sem]
theorem take3_sp (r : GRing) (w : GW) (hw : w.sm 1048576) : Sp P F.ref03_Take [enc r, enc w] (.pure (enc (w.tk r))) := by
 refine Sp.of_vm' c.ref03_Take (by simp) fun _ => ?_
 simp [g.ref03_Take, go_sem]
 refine callP_pure (check3_sp r w hw) (by simp [go_sem]) ?_
 by_cases hc : w.chk r
 rotate_left
 ·simp [hc, GW.tk, go_sem]
  refine callP_pure (zero3_sp r) (by simp [go_sem]) ?_
  simp [go_sem]
 simp [hc, GW.tk, go_sem]
 refine callP_pure (take1_sp w.q (hw.q.mono (by omega))) rfl ?_
 rw [rto_v (chk_q hc)]
 simp [go_sem]
 refine callP_pure (take2_sp w.poly hw.poly (by have := hw.len; omega)) rfl ?_
 rw [pv_of (chk_p hc)]
 simp [go_sem]
 refine vL_rule (S := fun k : Nat => mkSt [(2, .ptr 1 0 0 0), (3, .ptr 2 0 0 0), (4, .ptr 3 0 0 0), (5, .ptr 4 0 0 0), (6, .p (.int .i64 k))]
   [(1, ⟨2, [.p (enc r)]⟩), (2, ⟨8, [.p (enc w)]⟩), (3, ⟨8, [.agg [.p (.bool false), .nil, .nil, .p (.int .i64 0), .p (.bool false), .p (.int .u64 0), .nil, .nil]]⟩),
    (4, ⟨8, [.agg [.p (.bool w.q.neg), .p (.sl (ens w.q.num)), .p (.sl (ens w.q.den)), .p (.int .i64 w.cost), .p (.bool w.inf), .p (.int .u64 w.set.toNat), .p (.sl (ens w.poly)), .own 5 0 0 k]]⟩), (5, ⟨8, avs (w.parts.take k)⟩)])
  (I := fun k => k ≤ w.parts.length) (m := fun k => w.parts.length - k) 0
  ((Weak.nilCell (s0 := 5) (g0 := 0) (i := 7) (s := 77) (sz := 8) rfl).trans (Weak.to [2, 3, 4, 5, 6] [((2, 0), 1), ((3, 0), 2), ((4, 0), 3), ((5, 0), 4), ((77, 0), 5)] (by simp [go_sem]))) (by omega) ?_
 rintro k h1 R hn hr hx
 have hlen := hw.plen
 have e1 : IntKind.i64.wrap ((k : Int) + 1) = ((k + 1 : Nat) : Int) := i64w (by omega) (by omega)
 simp [g.ref03_Take_l1, mkSt, go_sem]
 refine ⟨fun hk => ?_, fun hk => hx _ _ ?_⟩
 ·have h6 : r.kind = 6 := by
   by_cases h6 : r.kind = 6
   ·exact h6
   ·have := (hc.2.1 h6).1; rw [this] at hk; simp at hk
  have hl := (hc.2.2 h6).1
  have hkr : k < r.parts.length := by omega
  refine callP_pure (part3_sp r k hkr) rfl ?_
  simp [go_sem]
  refine atP_get hk ?_
  have hpart := chk_part hc h6 hkr hk
  have hnil : w.parts[k].parts = [] := ((hc.2.2 h6).2.2 k hkr hk).1
  refine callP_pure (take3_s ⟨r.parts[k], []⟩ w.parts[k] (hw.parts _ (List.getElem_mem hk)) hnil) (by simp [go_sem]) ?_
  have ht : w.parts[k].tk ⟨r.parts[k], []⟩ = w.parts[k] := if_pos hpart
  rw [ht]
  have hts : avs (w.parts.take (k + 1)) = avs (w.parts.take k) ++ [.p (enc w.parts[k])] := by
   rw [List.take_succ_eq_append_getElem hk, avs_append]; rfl
  simp [e1, go_sem]
  refine ⟨by omega, hn (k + 1) _ (Weak.to [2, 3, 4, 5, 6] [((1, 0), 1), ((2, 0), 2), ((3, 0), 3), ((4, 0), 4), ((45, 0), 5)] (by simp [go_sem, hts])) (by omega) (by omega)⟩
 ·have : k = w.parts.length := by omega
  subst this
  simp [go_sem]
end Go.Ab
namespace Go.Ab
open Enc (enc)
attribute [local go_sem] optOpd Opd.slots
def kF (a b c d e : FuncId) (k : Int) : FuncId := if k = 1 then a else if k = 2 then b else if k = 3 then c else if k = 4 then d else e
def kF0 := kF F.semiring_rationals_k1 F.semiring_costs_k1 F.semiring_fractions_k1 F.semiring_sets_k1 F.semiring_polynomials_k1
def kF1 := kF F.semiring_rationals_k2 F.semiring_costs_k2 F.semiring_rationals_k2 F.semiring_sets_k2 F.semiring_polynomials_k2
def kF2 := kF F.semiring_rationals_k3 F.semiring_costs_k3 F.semiring_rationals_k3 F.semiring_sets_k3 F.semiring_polynomials_k3
def kF3 := kF F.semiring_rationals_k4 F.semiring_costs_k4 F.semiring_fractions_k3 F.semiring_sets_k4 F.semiring_polynomials_k4
def kC3 (k : Int) : List PV := if k = 3 then [.ref (fraB .any)] else []
def kF4 := kF F.semiring_rationals_k5 F.semiring_costs_k5 F.semiring_rationals_k5 F.semiring_sets_k5 F.semiring_polynomials_k5
theorem kindA_eq (k : Int) (hk : 1 ≤ k ∧ k ≤ 5) : ∃ f5 f6 f7 f8 c5 c8, kindA k = .agg [.fn (kF0 k) [], .fn (kF1 k) [], .fn (kF2 k) [], .fn (kF3 k) (kC3 k), .fn (kF4 k) [], .fn f5 c5, .fn f6 [], .fn f7 [], .fn f8 c8] := by
 have : k = 1 ∨ k = 2 ∨ k = 3 ∨ k = 4 ∨ k = 5 := by omega
 rcases this with rfl | rfl | rfl | rfl | rfl <;> exact ⟨_, _, _, _, _, _, rfl⟩
theorem chkF_sp (k : Int) (hk : 1 ≤ k ∧ k ≤ 5) (w : GW) (hw : w.sm 1048576) : Sp P (kF0 k) [enc w] (.pure (.bool (decide (w.si k)))) := by
 have : k = 1 ∨ k = 2 ∨ k = 3 ∨ k = 4 ∨ k = 5 := by omega
 rcases this with rfl | rfl | rfl | rfl | rfl
 ·exact ratK1_sp w hw
 ·exact cosK1_sp w hw
 ·exact fraK1_sp w hw
 ·exact setK1_sp w hw
 ·exact polK1_sp w hw
theorem ratK2_sp : Sp P F.semiring_rationals_k2 [] (.pure (enc (.mk gr0 0 false 0 [] [] : GW))) := by
 refine Sp.of_vm' c.semiring_rationals_k2 (by simp) fun _ => ?_
 simp [g.semiring_rationals_k2, go_sem]
theorem setK2_sp : Sp P F.semiring_sets_k2 [] (.pure (enc (.mk gr0 0 false 0 [] [] : GW))) := by
 refine Sp.of_vm' c.semiring_sets_k2 (by simp) fun _ => ?_
 simp [g.semiring_sets_k2, go_sem]
theorem polK2_sp : Sp P F.semiring_polynomials_k2 [] (.pure (enc (.mk gr0 0 false 0 [] [] : GW))) := by
 refine Sp.of_vm' c.semiring_polynomials_k2 (by simp) fun _ => ?_
 simp [g.semiring_polynomials_k2, go_sem]
theorem cosK2_sp : Sp P F.semiring_costs_k2 [] (.pure (enc (.mk gr0 0 true 0 [] [] : GW))) := by
 refine Sp.of_vm' c.semiring_costs_k2 (by simp) fun _ => ?_
 simp [g.semiring_costs_k2, go_sem]
theorem zeroF_sp (k : Int) (hk : 1 ≤ k ∧ k ≤ 5) : Sp P (kF1 k) [] (.pure (enc (zeroK k))) := by
 have : k = 1 ∨ k = 2 ∨ k = 3 ∨ k = 4 ∨ k = 5 := by omega
 rcases this with rfl | rfl | rfl | rfl | rfl
 ·exact ratK2_sp
 ·exact cosK2_sp
 ·exact ratK2_sp
 ·exact setK2_sp
 ·exact polK2_sp
theorem each_sp (r : GRing) (hp : ∀ k ∈ r.parts, 1 ≤ k ∧ k ≤ 5) (hl : r.parts.length ≤ 3) (f : FuncId) (caps : List PV) (out : List GW) (ho : out.length = r.parts.length)
  (hf : ∀ i, (h : i < r.parts.length) -> (h' : i < out.length) -> Sp P f (kindA r.parts[i] :: .int .i64 i :: caps) (.pure (enc out[i]))) :
  Sp P F.semiring_each [enc r, .fn f caps] (.pure (enc (.mk gr0 0 false 0 [] out : GW))) := by
 refine Sp.of_vm' c.semiring_each (by simp) fun _ => ?_
 simp [g.semiring_each, go_sem]
 refine vL_rule (S := fun k : Nat => mkSt [(1, .p (.fn f caps)), (4, .ptr 1 0 0 0), (5, .ptr 2 0 0 0), (9, .p (.sl (ens r.parts))), (10, .p (.int .i64 r.parts.length)), (11, .p (.int .i64 k))]
   [(1, ⟨8, [.agg [.p (.bool false), .nil, .nil, .p (.int .i64 0), .p (.bool false), .p (.int .u64 0), .nil, .nil]]⟩),
    (2, ⟨8, [.agg [.p (.bool false), .nil, .nil, .p (.int .i64 0), .p (.bool false), .p (.int .u64 0), .nil, .own 3 0 0 k]]⟩), (3, ⟨8, avs (out.take k)⟩)])
  (I := fun k => k ≤ r.parts.length) (m := fun k => r.parts.length - k) 0
  ((Weak.nilCell (s0 := 5) (g0 := 0) (i := 7) (s := 77) (sz := 8) rfl).trans (Weak.to [1, 4, 5, 9, 10, 11] [((4, 0), 1), ((5, 0), 2), ((77, 0), 3)] (by simp [go_sem]))) (by omega) ?_
 rintro k h1 R hn hr hx
 have e1 : IntKind.i64.wrap ((k : Int) + 1) = ((k + 1 : Nat) : Int) := i64w (by omega) (by omega)
 simp [g.semiring_each_l1, mkSt, go_sem]
 refine ⟨fun hk => ?_, fun hk => hx _ _ ?_⟩
 ·have hk' : k < out.length := by omega
  refine atP_get hk ?_
  try simp [go_sem]
  refine callP_pure (kind_sp r.parts[k] (hp _ (List.getElem_mem hk))) rfl ?_
  obtain ⟨f5, f6, f7, f8, c5, c8, hA⟩ := kindA_eq r.parts[k] (hp _ (List.getElem_mem hk))
  have hf' := hf k hk hk'
  rw [hA] at hf'
  simp [hA, go_sem]
  refine callP_pure hf' (mapM_c rfl (mapM_c rfl (mapM_psF _ _))) ?_
  have hts : avs (out.take (k + 1)) = avs (out.take k) ++ [.p (enc out[k])] := by
   rw [List.take_succ_eq_append_getElem hk', avs_append]; rfl
  simp [e1, go_sem]
  exact ⟨⟨by omega, by omega⟩, hn (k + 1) _ (Weak.to [1, 4, 5, 9, 10, 11] [((1, 0), 1), ((2, 0), 2), ((24, 0), 3)] (by simp [go_sem, hts])) (by omega) (by omega)⟩
 ·have : k = out.length := by omega
  subst this
  simp [go_sem]
end Go.Ab
