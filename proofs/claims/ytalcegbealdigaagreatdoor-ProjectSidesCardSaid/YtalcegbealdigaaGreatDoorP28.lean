/-
Proofs for the law ProjectSides of the seat, part 28 (texts P3 P4 P5 P6 W1 T1 T2 V1 X8). Conditions: none.
-/
import Derived.Test.YtalcegbealdigaaGreatDoorP27
import Derived.Test.YtalcegbealdigaaGreatDoorP25
set_option maxRecDepth 100000
set_option maxHeartbeats 4000000
set_option linter.all false
namespace Go.Ab
open Enc (enc)
def qb (D B : Nat) (q : Rat) : Prop := ∃ a : Int, q = mkRat a D ∧ a.natAbs ≤ B
theorem qb_add {D B B' : Nat} {x y : Rat} (hx : qb D B x) (hy : qb D B' y) (hD : D ≠ 0) : qb D (B + B') (x + y) := by
 obtain ⟨a, rfl, h1⟩ := hx
 obtain ⟨b, rfl, h2⟩ := hy
 refine ⟨a + b, ?_, by omega⟩
 rw [Rat.mkRat_add_mkRat _ _ hD hD, <- Int.add_mul, Rat.mkRat_mul_right hD]
theorem qb_scale {D B : Nat} {x : Rat} (k : Nat) (hk : k ≠ 0) (hx : qb D B x) : qb (D * k) (B * k) x := by
 obtain ⟨a, rfl, h1⟩ := hx
 refine ⟨a * k, ?_, ?_⟩
 ·rw [Rat.mkRat_mul_right hk]
 ·rw [Int.natAbs_mul]; exact Nat.mul_le_mul h1 (by simp)
theorem qb_zero (D : Nat) : qb D 0 0 := ⟨0, by simp, by simp⟩
theorem qb_mono {D B B' : Nat} {x : Rat} (h : qb D B x) (k : B ≤ B') : qb D B' x := by obtain ⟨a, e, h⟩ := h; exact ⟨a, e, by omega⟩
theorem qb_sm {D B n : Nat} {x : Rat} (h : qb D B x) (hD : D ≠ 0) (h1 : D < 4294967296 ^ n) (h2 : B < 4294967296 ^ n) : (rto x).sm n := by
 obtain ⟨a, rfl, h⟩ := h
 have e1 : (mkRat a D).num.natAbs ≤ B := by
  rw [Rat.num_mkRat, if_neg hD]
  exact Nat.le_trans (Int.natAbs_ediv_le_natAbs _ _) h
 have e2 : (mkRat a D).den ≤ D := by
  rw [Rat.den_mkRat, if_neg hD]; exact Nat.div_le_self _ _
 refine ⟨lb_len_le (Nat.lt_of_le_of_lt e1 h2), ?_⟩
 show (if (mkRat a D).den = 1 then [] else lb (mkRat a D).den).length ≤ n
 split
 ·simp
 ·exact lb_len_le (Nat.lt_of_le_of_lt e2 h1)
def Ex.code (e : Ex) : Int := e.a * 36 + e.b * 6 + e.c
theorem Ex.ok_iff {e : Ex} : e.ok = true ↔ (0 ≤ e.a ∧ e.a ≤ 5 ∧ 0 ≤ e.b ∧ e.b ≤ 5 ∧ 0 ≤ e.c ∧ e.c ≤ 5 ∧ e.a + e.b + e.c ≤ 5) := by simp [Ex.ok]
theorem Ex.code_lt {e : Ex} (h : e.ok = true) : 0 ≤ e.code ∧ e.code < 216 := by rw [Ex.ok_iff] at h; unfold Ex.code; omega
theorem Ex.cmp_neg {x y : Ex} (hx : x.ok = true) (hy : y.ok = true) : x.cmp y < 0 ↔ x.code < y.code := by
 rw [Ex.ok_iff] at hx hy; unfold Ex.cmp Ex.code; (repeat' split) <;> omega
theorem Ex.cmp_pos {x y : Ex} (hx : x.ok = true) (hy : y.ok = true) : 0 < x.cmp y ↔ y.code < x.code := by
 rw [Ex.ok_iff] at hx hy; unfold Ex.cmp Ex.code; (repeat' split) <;> omega
theorem Ex.code_inj {x y : Ex} (hx : x.ok = true) (hy : y.ok = true) : x.code = y.code ↔ x = y := by
 rw [Ex.ok_iff] at hx hy; unfold Ex.code; obtain ⟨a, b, c⟩ := x; obtain ⟨a', b', c'⟩ := y
 simp only [Ex.mk.injEq] at *; omega
theorem pval_iff {p : List GMono} : PVal p ↔ (∀ m ∈ p, m.ok = true) ∧ p.Pairwise (fun x y => y.e.code < x.e.code) := by
 have ok_e : ∀ {m : GMono}, m.ok = true -> m.e.ok = true := fun h => by simp [GMono.ok] at h; exact h.1.1
 constructor
 ·intro h
  have h1 : ∀ m ∈ p, m.ok = true := fun m hm => by
   obtain ⟨i, hi, rfl⟩ := List.getElem_of_mem hm; exact (h i hi).1
  refine ⟨h1, List.pairwise_iff_getElem.2 fun i j hi hj hij => ?_⟩
  obtain ⟨d, rfl⟩ : ∃ d, j = i + 1 + d := ⟨j - i - 1, by omega⟩
  clear hij
  induction d with
  | zero =>
   have := (h (i + 1) hj).2 (by omega)
   exact (Ex.cmp_neg (ok_e (h1 _ (List.getElem_mem _))) (ok_e (h1 _ (List.getElem_mem _)))).1 this
  | succ d ih =>
   have h2 := ih (by omega)
   have h3 := (h (i + 1 + (d + 1)) hj).2 (by omega)
   have h4 := (Ex.cmp_neg (ok_e (h1 _ (List.getElem_mem _))) (ok_e (h1 _ (List.getElem_mem _)))).1 h3
   exact Int.lt_trans h4 h2
 ·rintro ⟨h1, h2⟩ i hi
  refine ⟨h1 _ (List.getElem_mem hi), fun h0 => ?_⟩
  refine (Ex.cmp_neg (ok_e (h1 _ (List.getElem_mem _))) (ok_e (h1 _ (List.getElem_mem _)))).2 ?_
  exact List.pairwise_iff_getElem.1 h2 (i - 1) i (by omega) hi (by omega)
def pc : List GMono -> Ex -> Rat
 | [], _ => 0
 | m :: p, e => (if m.e = e then m.coef.v else 0) + pc p e
theorem pc_append (p q : List GMono) (e : Ex) : pc (p ++ q) e = pc p e + pc q e := by
 induction p with
 | nil => simp [pc, Rat.zero_add]
 | cons m p ih => simp [pc, ih, Rat.add_assoc]
theorem pc_none {p : List GMono} {e : Ex} (h : ∀ m ∈ p, m.e ≠ e) : pc p e = 0 := by
 induction p with
 | nil => rfl
 | cons m p ih => simp only [pc, if_neg (h m (by simp)), Rat.zero_add]; exact ih fun x hx => h x (by simp [hx])
theorem pc_head {m : GMono} {p : List GMono} (h : PVal (m :: p)) : pc (m :: p) m.e = m.coef.v := by
 have := pval_iff.1 h
 simp only [pc, if_true]
 rw [pc_none, Rat.add_zero]
 intro x hx he
 have := (List.pairwise_cons.1 this.2).1 x hx
 rw [he] at this; omega
theorem PVal.tail {m : GMono} {p : List GMono} (h : PVal (m :: p)) : PVal p := by
 have := pval_iff.1 h
 exact pval_iff.2 ⟨fun x hx => this.1 x (by simp [hx]), (List.pairwise_cons.1 this.2).2⟩
theorem pval_ext {p q : List GMono} (hp : PVal p) (hq : PVal q) (h : ∀ e, pc p e = pc q e) : p = q := by
 have okm : ∀ {m : GMono}, m.ok = true -> m.e.ok = true ∧ m.coef.valid = true ∧ m.coef.v ≠ 0 := fun h => by simp [GMono.ok] at h; exact ⟨h.1.1, h.1.2, h.2⟩
 induction p generalizing q with
 | nil =>
  cases q with
  | nil => rfl
  | cons m q =>
   have := h m.e
   rw [pc_head hq] at this
   exact absurd this.symm (okm ((pval_iff.1 hq).1 m (by simp))).2.2
 | cons m p ih =>
  cases q with
  | nil =>
   have := h m.e
   rw [pc_head hp] at this
   exact absurd this (okm ((pval_iff.1 hp).1 m (by simp))).2.2
  | cons m' q =>
   have o1 := okm ((pval_iff.1 hp).1 m (by simp))
   have o2 := okm ((pval_iff.1 hq).1 m' (by simp))
   have he : m.e = m'.e := by
    rcases Int.lt_trichotomy m.e.code m'.e.code with h1 | h1 | h1
    ·have := h m'.e
     rw [pc_head hq, pc_none] at this
     ·exact absurd this.symm o2.2.2
     ·intro x hx hxe
      rcases List.mem_cons.1 hx with rfl | hx
      ·rw [hxe] at h1; omega
      ·have := (List.pairwise_cons.1 (pval_iff.1 hp).2).1 x hx; rw [hxe] at this; omega
    ·exact (Ex.code_inj o1.1 o2.1).1 h1
    ·have := h m.e
     rw [pc_head hp, pc_none] at this
     ·exact absurd this o1.2.2
     ·intro x hx hxe
      rcases List.mem_cons.1 hx with rfl | hx
      ·rw [hxe] at h1; omega
      ·have := (List.pairwise_cons.1 (pval_iff.1 hq).2).1 x hx; rw [hxe] at this; omega
   have hc : m.coef = m'.coef := by
    have := h m.e
    rw [pc_head hp, he, pc_head hq] at this
    rw [<- rto_v o1.2.1, <- rto_v o2.2.1, this]
   have hm : m = m' := by cases m; cases m'; simp at he hc; simp [he, hc]
   subst hm
   congr 1
   refine ih hp.tail hq.tail fun e => ?_
   have := h e
   simp only [pc] at this
   exact Rat.add_left_cancel _ this
end Go.Ab
namespace Go.Ab
open Enc (enc)
def pins : List GMono -> Ex -> Rat -> List GMono
 | [], e, q => [⟨e, rto q⟩]
 | m :: p, e, q => if 0 < m.e.cmp e then m :: pins p e q else if m.e = e then (if q + m.coef.v = 0 then p else ⟨e, rto (q + m.coef.v)⟩ :: p) else ⟨e, rto q⟩ :: m :: p
theorem pput_pins (p : List GMono) (e : Ex) (q : Rat) : pput p e q = if e.ok = false ∨ q = 0 then p else pins p e q := by
 unfold pput
 split
 ·rfl
 ·rename_i h
  induction p with
  | nil => simp [pat, pins]
  | cons m p ih =>
   by_cases h1 : 0 < m.e.cmp e
   ·simp only [pat, if_pos h1, List.getElem?_cons_succ, List.take_succ_cons, List.drop_succ_cons, pins, <- ih]
    cases p[pat p e]? with
    | none => simp
    | some x => simp only [List.cons_append]; (repeat' split) <;> rfl
   ·simp [pat, pins, h1]
theorem GMono.ok_iff {m : GMono} : m.ok = true ↔ m.e.ok = true ∧ m.coef.valid = true ∧ m.coef.v ≠ 0 := by simp [GMono.ok, and_assoc]
theorem pins_mem {p : List GMono} {e : Ex} {q : Rat} {x : GMono} (h : x ∈ pins p e q) : x.e = e ∨ x ∈ p := by
 induction p with
 | nil => simp [pins] at h; exact .inl (by rw [h])
 | cons m p ih =>
  simp only [pins] at h
  split at h
  ·rcases List.mem_cons.1 h with rfl | h
   ·exact .inr (by simp)
   ·rcases ih h with h | h
    ·exact .inl h
    ·exact .inr (by simp [h])
  ·split at h
   ·split at h
    ·exact .inr (by simp [h])
    ·rcases List.mem_cons.1 h with rfl | h
     ·exact .inl rfl
     ·exact .inr (by simp [h])
   ·rcases List.mem_cons.1 h with rfl | h
    ·exact .inl rfl
    ·exact .inr h
theorem pins_val {p : List GMono} {e : Ex} {q : Rat} (hp : PVal p) (he : e.ok = true) (hq : q ≠ 0) : PVal (pins p e q) := by
 have okq : ∀ {r : Rat}, r ≠ 0 -> (⟨e, rto r⟩ : GMono).ok = true := fun {r} h => GMono.ok_iff.2 ⟨he, rto_valid r, by rw [v_rto]; exact h⟩
 induction p with
 | nil => exact pval_iff.2 ⟨fun m hm => by simp [pins] at hm; rw [hm]; exact okq hq, by simp [pins]⟩
 | cons m p ih =>
  have h := pval_iff.1 hp
  have ho := (GMono.ok_iff.1 (h.1 m (by simp))).1
  have h1 := (List.pairwise_cons.1 h.2).1
  simp only [pins]
  split
  ·rename_i h2
   have h3 := pval_iff.1 (ih hp.tail)
   refine pval_iff.2 ⟨fun x hx => ?_, List.pairwise_cons.2 ⟨fun x hx => ?_, h3.2⟩⟩
   ·rcases List.mem_cons.1 hx with rfl | hx
    ·exact h.1 x (by simp)
    ·exact h3.1 x hx
   ·rcases pins_mem hx with h4 | h4
    ·rw [h4]; exact (Ex.cmp_pos ho he).1 h2
    ·exact h1 x h4
  ·rename_i h2
   split
   ·rename_i h3
    split
    ·exact hp.tail
    ·rename_i h4
     refine pval_iff.2 ⟨fun x hx => ?_, List.pairwise_cons.2 ⟨fun x hx => ?_, (pval_iff.1 hp.tail).2⟩⟩
     ·rcases List.mem_cons.1 hx with rfl | hx
      ·exact okq h4
      ·exact h.1 x (by simp [hx])
     ·have := h1 x hx; rw [h3] at this; exact this
   ·rename_i h3
    have h4 : m.e.code < e.code := by
     have h5 : ¬ (e.code < m.e.code) := fun h => h2 ((Ex.cmp_pos ho he).2 h)
     have h6 : ¬ (m.e.code = e.code) := fun h => h3 ((Ex.code_inj ho he).1 h)
     omega
    refine pval_iff.2 ⟨fun x hx => ?_, List.pairwise_cons.2 ⟨fun x hx => ?_, h.2⟩⟩
    ·rcases List.mem_cons.1 hx with rfl | hx
     ·exact okq hq
     ·exact h.1 x hx
    ·rcases List.mem_cons.1 hx with rfl | hx
     ·exact h4
     ·exact Int.lt_trans (h1 x hx) h4
theorem pc_pins (p : List GMono) (e : Ex) (q : Rat) (e' : Ex) : pc (pins p e q) e' = pc p e' + if e = e' then q else 0 := by
 induction p with
 | nil => simp only [pins, pc, v_rto, Rat.add_zero, Rat.zero_add]
 | cons m p ih =>
  simp only [pins]
  split
  ·simp only [pc, ih, Rat.add_assoc]
  ·split
   ·rename_i h
    split
    ·rename_i h2
     simp only [pc, h]
     by_cases h3 : e = e'
     ·simp only [if_pos h3]
      rw [Rat.add_comm (m.coef.v) (pc p e'), Rat.add_assoc, Rat.add_comm m.coef.v q, h2, Rat.add_zero]
     ·simp [h3, Rat.zero_add, Rat.add_zero]
    ·simp only [pc, h, v_rto]
     by_cases h3 : e = e'
     ·simp only [if_pos h3]
      rw [Rat.add_comm q m.coef.v, Rat.add_assoc, Rat.add_assoc, Rat.add_comm q (pc p e')]
     ·simp [h3, Rat.zero_add, Rat.add_zero]
   ·simp only [pc, v_rto]
    rw [Rat.add_comm]
theorem pput_val {p : List GMono} (e : Ex) (q : Rat) (hp : PVal p) : PVal (pput p e q) := by
 rw [pput_pins]; split
 ·exact hp
 ·rename_i h; exact pins_val hp (by rcases Bool.eq_false_or_eq_true e.ok with h' | h'; exact h'; exact absurd (.inl h') h) (fun h' => h (.inr h'))
theorem pc_pput (p : List GMono) (e : Ex) (q : Rat) (e' : Ex) : pc (pput p e q) e' = pc p e' + if e.ok = true ∧ e = e' then q else 0 := by
 rw [pput_pins]; split
 ·rename_i h
  rcases h with h | h
  ·simp [h, Rat.add_zero]
  ·simp [h, Rat.add_zero]
 ·rename_i h
  have : e.ok = true := by rcases Bool.eq_false_or_eq_true e.ok with h' | h'; exact h'; exact absurd (.inl h') h
  rw [pc_pins]; simp [this]
theorem pval_len {p : List GMono} (h : PVal p) : p.length ≤ 216 := by
 have h1 := pval_iff.1 h
 have : ∀ (p : List GMono) (n : Int), (∀ m ∈ p, 0 ≤ m.e.code ∧ m.e.code < n) -> p.Pairwise (fun x y => y.e.code < x.e.code) -> (p.length : Int) ≤ n ∨ p = [] := by
  intro p
  induction p with
  | nil => intro n _ _; exact .inr rfl
  | cons m p ih =>
   intro n h2 h3
   have h4 := List.pairwise_cons.1 h3
   rcases ih m.e.code (fun x hx => ⟨(h2 x (by simp [hx])).1, h4.1 x hx⟩) h4.2 with h5 | h5
   ·have := h2 m (by simp); left; simp; omega
   ·have := h2 m (by simp); left; subst h5; simp; omega
 rcases this p 216 (fun m hm => Ex.code_lt (GMono.ok_iff.1 (h1.1 m hm)).1) h1.2 with h2 | h2
 ·omega
 ·simp [h2]
end Go.Ab
namespace Go.Ab
open Enc (enc)
attribute [local go_sem] optOpd Opd.slots
theorem pc_mem {p : List GMono} (hp : PVal p) {m : GMono} (hm : m ∈ p) : pc p m.e = m.coef.v := by
 induction p with
 | nil => simp at hm
 | cons x p ih =>
  rcases List.mem_cons.1 hm with rfl | hm
  ·exact pc_head hp
  ·have h1 := (List.pairwise_cons.1 (pval_iff.1 hp).2).1 m hm
   have h2 : x.e ≠ m.e := fun h => by rw [h] at h1; omega
   simp only [pc, if_neg h2, Rat.zero_add]; exact ih hp.tail hm
theorem pc_take {p : List GMono} (hp : PVal p) (k : Nat) (e : Ex) : pc (p.take k) e = 0 ∨ pc (p.take k) e = pc p e := by
 induction p generalizing k with
 | nil => simp [pc]
 | cons x p ih =>
  cases k with
  | zero => simp [pc]
  | succ k =>
   by_cases h : x.e = e
   ·right
    subst h
    rw [pc_head hp, List.take_succ_cons]
    simp only [pc, if_true]
    rw [pc_none, Rat.add_zero]
    intro y hy he
    have := (List.pairwise_cons.1 (pval_iff.1 hp).2).1 y (List.mem_of_mem_take hy)
    rw [he] at this; omega
   ·simp only [List.take_succ_cons, pc, if_neg h, Rat.zero_add]; exact ih hp.tail k
def pqb (D B : Nat) (p : List GMono) : Prop := ∀ e, qb D B (pc p e)
theorem pqb_psm {D B n : Nat} {p : List GMono} (h : pqb D B p) (hp : PVal p) (hD : D ≠ 0) (h1 : D < 4294967296 ^ n) (h2 : B < 4294967296 ^ n) : psm p n := by
 intro m hm
 have h3 := GMono.ok_iff.1 ((pval_iff.1 hp).1 m hm)
 have := qb_sm (h m.e) hD h1 h2
 rw [pc_mem hp hm, rto_v h3.2.1] at this
 exact this
theorem nil_val : PVal [] := fun i h => by simp at h
def padd (p q : List GMono) : List GMono := q.foldl (fun o m => pput o m.e m.coef.v) p
theorem padd_val {p : List GMono} (q : List GMono) (hp : PVal p) : PVal (padd p q) := by
 induction q generalizing p with
 | nil => exact hp
 | cons m q ih => exact ih (pput_val _ _ hp)
theorem pc_padd (p : List GMono) {q : List GMono} (hq : ∀ m ∈ q, m.ok = true) (e : Ex) : pc (padd p q) e = pc p e + pc q e := by
 induction q generalizing p with
 | nil => simp [padd, pc, Rat.add_zero]
 | cons m q ih =>
  have := ih (pput p m.e m.coef.v) fun x hx => hq x (by simp [hx])
  show pc (padd (pput p m.e m.coef.v) q) e = _
  rw [this, pc_pput]
  have := (GMono.ok_iff.1 (hq m (by simp))).1
  simp [pc, this, Rat.add_assoc]
theorem PVal.take {p : List GMono} (hp : PVal p) (k : Nat) : PVal (p.take k) := by
 have := pval_iff.1 hp
 exact pval_iff.2 ⟨fun x hx => this.1 x (List.mem_of_mem_take hx), this.2.sublist (List.take_sublist _ _)⟩
theorem pqb_take {D B : Nat} {p : List GMono} (h : pqb D B p) (hp : PVal p) (k : Nat) : pqb D B (p.take k) := by
 intro e
 rcases pc_take hp k e with h1 | h1
 ·rw [h1]; exact qb_mono (qb_zero D) (by omega)
 ·rw [h1]; exact h e
theorem pqb_add {D B B' : Nat} {p q : List GMono} (h : pqb D B p) (h' : pqb D B' q) (hq : PVal q) (hD : D ≠ 0) : pqb D (B + B') (padd p q) := by
 intro e; rw [pc_padd p (pval_iff.1 hq).1]; exact qb_add (h e) (h' e) hD
theorem padd_take_succ {p q : List GMono} {k : Nat} (h : k < q.length) : padd p (q.take (k + 1)) = pput (padd p (q.take k)) q[k].e q[k].coef.v := by
 unfold padd; rw [List.take_succ_eq_append_getElem h, List.foldl_append]; rfl
theorem add2_sp (p q : List GMono) (D B B' : Nat) (hp : PVal p) (hq : PVal q) (h1 : pqb D B p) (h2 : pqb D B' q) (hD0 : D ≠ 0) (hD : D < 4294967296 ^ 1048576) (hB : B + B' < 4294967296 ^ 1048576) :
  Sp P F.ref02_Add [.sl (ens p), .sl (ens q)] (.pure (.sl (ens (padd p q)))) := by
 have hbp : psm p 1048576 := pqb_psm h1 hp hD0 hD (Nat.lt_of_le_of_lt (Nat.le_add_right _ _) hB)
 have hbq : psm q 1048576 := pqb_psm h2 hq hD0 hD (Nat.lt_of_le_of_lt (Nat.le_add_left _ _) hB)
 have hpl := pval_len hp
 have hql := pval_len hq
 have hb : ∀ k, psm (padd p (q.take k)) 1048576 := fun k => pqb_psm (pqb_add h1 (pqb_take h2 hq k) (hq.take k) hD0) (padd_val _ hp) hD0 hD hB
 clear hD hB
 refine Sp.of_vm' c.ref02_Add (by simp) fun _ => ?_
 simp [g.ref02_Add, go_sem]
 refine callP_pure (take2_sp p hbp (by omega)) rfl ?_
 simp [go_sem]
 refine callP_pure (take2_sp q hbq (by omega)) rfl ?_
 simp [go_sem, pv_of hp, pv_of hq]
 refine vL_rule (S := fun k : Nat => mkSt [(1, .p (.sl (ens q))), (5, .p (.sl (ens (padd p (q.take k))))), (6, .p (.int .i64 k))] []) (I := fun k => k ≤ q.length) (m := fun k => q.length - k) 0
  (Weak.to [1, 5, 6] [] (by simp [go_sem, padd])) (by omega) ?_
 rintro k h3 R hn hr hx
 have e1 : IntKind.i64.wrap ((k : Int) + 1) = ((k + 1 : Nat) : Int) := i64w (by omega) (by omega)
 simp [g.ref02_Add_l1, mkSt, go_sem]
 refine ⟨fun hk => ?_, fun hk => hx _ _ ?_⟩
 ·refine atP_get hk ?_
  have hv := padd_val (q.take k) hp
  have hl := pval_len hv
  refine callP_pure (put2_sp (padd p (q.take k)) q[k] (hb k) (by omega) (hbq _ (List.getElem_mem hk)) (GMono.ok_iff.1 (hq k hk).1).2.1) rfl ?_
  simp [go_sem, e1]
  exact hn (k + 1) _ (Weak.to [1, 5, 6] [] (by simp [go_sem, padd_take_succ hk])) (by omega) (by omega)
 ·have : k = q.length := by omega
  subst this
  simp [go_sem]
theorem constant2_sp (x : GRat) (hx : x.sm 1048576) : Sp P F.ref02_Constant [enc x] (.pure (.sl (ens (pput [] ⟨0, 0, 0⟩ x.v)))) := by
 refine Sp.of_vm' c.ref02_Constant (by simp) fun _ => ?_
 simp [g.ref02_Constant, go_sem]
 refine callP_pure (take1_sp x (hx.mono (by omega))) rfl ?_
 simp [go_sem]
 have := put2_sp [] ⟨⟨0, 0, 0⟩, rto x.v⟩ (by intro m hm; simp at hm) (by simp) (rto_sm hx) (rto_valid _)
 rw [v_rto] at this
 refine callP_pure this rfl ?_
 simp [go_sem]
end Go.Ab
namespace Go.Ab
open Enc (enc)
attribute [local go_sem] optOpd Opd.slots
def pconst (q : Rat) : List GMono := pput [] ⟨0, 0, 0⟩ q
theorem same2_sp (p q : List GMono) (hp : psm p 1048576) (hl : p.length ≤ 1073741824) : Sp P F.ref02_Same [.sl (ens p), .sl (ens q)] (.pure (.bool (decide (p = q)))) := by
 refine Sp.of_vm' c.ref02_Same (by simp) fun _ => ?_
 simp [g.ref02_Same, go_sem]
 refine ⟨fun h => ?_, fun h => fun he => h (by rw [he])⟩
 have hlen : p.length = q.length := by omega
 refine vL_rule (S := fun k : Nat => mkSt [(0, .p (.sl (ens p))), (1, .p (.sl (ens q))), (5, .p (.int .i64 k))] []) (I := fun k => k ≤ p.length ∧ p.take k = q.take k) (m := fun k => p.length - k) 0
  (Weak.to [0, 1, 5] [] (by simp [go_sem])) ⟨by omega, by simp⟩ ?_
 rintro k ⟨h1, h2⟩ R hn hr hx
 have e1 : IntKind.i64.wrap ((k : Int) + 1) = ((k + 1 : Nat) : Int) := i64w (by omega) (by omega)
 simp [g.ref02_Same_l1, mkSt, go_sem]
 refine ⟨fun hk => ?_, fun hk => hx _ _ ?_⟩
 ·have hk2 : k < q.length := by omega
  have bad : p[k] ≠ q[k] -> p ≠ q := fun h h' => by subst h'; exact h rfl
  refine atP_get hk ?_
  refine atP_get hk2 ?_
  refine ⟨fun h3 => hr _ ?_, fun h3 h4 h5 => ?_⟩
  ·have : p ≠ q := bad fun h => by rw [h] at h3; simp at h3
   simp [this, go_sem]
  refine atP_get hk ?_
  refine atP_get hk2 ?_
  refine callP_pure (same1_sp p[k].coef q[k].coef ((hp _ (List.getElem_mem hk)).mono (by omega))) rfl ?_
  by_cases h6 : p[k].coef = q[k].coef
  ·simp [h6, e1, go_sem]
   have h7 : p[k] = q[k] := by
    have : p[k].e = q[k].e := by
     generalize p[k].e = x at *; generalize q[k].e = y at *; cases x; cases y; simp at h3 h4 h5; simp [h3, h4, h5]
    generalize p[k] = x at *; generalize q[k] = y at *; cases x; cases y; simp at this h6; simp [this, h6]
   exact hn (k + 1) _ (Weak.to [0, 1, 5] [] (by simp [go_sem])) ⟨by omega, by rw [List.take_succ_eq_append_getElem hk, List.take_succ_eq_append_getElem hk2, h2, h7]⟩ (by omega)
  ·have h8 : p ≠ q := bad fun h => h6 (by rw [h])
   simp [h6, go_sem]
   exact hr _ (by simp [h8, go_sem])
 ·have h3 : p = q := by rw [<- List.take_length (l := p), <- List.take_length (l := q), <- hlen, show p.length = k by omega]; exact h2
  simp [h3, go_sem]
end Go.Ab
namespace Go.Ab
open Enc (enc)
attribute [local go_sem] optOpd Opd.slots
inductive GW where
 | mk (q : GRat) (cost : Int) (inf : Bool) (set : UInt64) (poly : List GMono) (parts : List GW)
namespace GW
def q : GW -> GRat | mk q _ _ _ _ _ => q
def cost : GW -> Int | mk _ c _ _ _ _ => c
def inf : GW -> Bool | mk _ _ i _ _ _ => i
def set : GW -> UInt64 | mk _ _ _ s _ _ => s
def poly : GW -> List GMono | mk _ _ _ _ p _ => p
def parts : GW -> List GW | mk _ _ _ _ _ ps => ps
mutual
def en : GW -> PV
 | mk q c i s p ps => .agg [.bool q.neg, .sl (ens q.num), .sl (ens q.den), .int .i64 c, .bool i, .int .u64 s.toNat, .sl (ens p), .sl (ensW ps)]
def ensW : List GW -> List PV
 | [] => []
 | w :: ps => en w :: ensW ps
end
end GW
instance : Enc GW := ⟨GW.en, 8, by decide, fun w => by cases w; simp [GW.en]; rfl⟩
theorem ensW_eq (ps : List GW) : GW.ensW ps = ens ps := by
 induction ps with
 | nil => simp [GW.ensW, ens]
 | cons w ps ih => simp [GW.ensW, ens, ih]; rfl
@[go_sem] theorem enc_w (w : GW) : enc w = .agg [.bool w.q.neg, .sl (ens w.q.num), .sl (ens w.q.den), .int .i64 w.cost, .bool w.inf, .int .u64 w.set.toNat, .sl (ens w.poly), .sl (ens w.parts)] := by
 cases w; show GW.en _ = _; simp [GW.en, ensW_eq]; simp [GW.q, GW.cost, GW.inf, GW.set, GW.poly, GW.parts]
@[go_sem] theorem encsz_w : Enc.sz GW = 8 := rfl
theorem GW.ext {v w : GW} (h1 : v.q = w.q) (h2 : v.cost = w.cost) (h3 : v.inf = w.inf) (h4 : v.set = w.set) (h5 : v.poly = w.poly) (h6 : v.parts = w.parts) : v = w := by
 cases v; cases w; simp [GW.q, GW.cost, GW.inf, GW.set, GW.poly, GW.parts] at *; simp [*]
noncomputable instance : DecidableEq GW := fun _ _ => Classical.propDecidable _
structure GRing where
 kind : Int
 parts : List Int
 deriving DecidableEq
instance : Enc GRing := ⟨fun r => .agg [.int .i64 r.kind, .sl (ens r.parts)], 2, by decide, fun _ => rfl⟩
@[go_sem] theorem enc_ring (r : GRing) : enc r = .agg [.int .i64 r.kind, .sl (ens r.parts)] := rfl
@[go_sem] theorem encsz_ring : Enc.sz GRing = 2 := rfl
def GRing.ok (r : GRing) : Bool := if r.kind = 6 then decide (2 ≤ r.parts.length ∧ r.parts.length ≤ 3 ∧ ∀ k ∈ r.parts, 1 ≤ k ∧ k ≤ 5) else decide (1 ≤ r.kind ∧ r.kind ≤ 5 ∧ r.parts = [])
theorem valid3_sp (r : GRing) : Sp P F.ref03_Valid [enc r] (.pure (.bool r.ok)) := by
 refine Sp.of_vm' c.ref03_Valid (by simp) fun _ => ?_
 simp [g.ref03_Valid, go_sem]
 refine ⟨fun h6 => ⟨fun h => ?_, fun h => ⟨fun h2 => ?_, fun h2 => ?_⟩⟩, fun h6 => ⟨fun h => ⟨fun h2 => ?_, fun h2 => ?_⟩, fun h => ?_⟩⟩
 ·simp [GRing.ok, h6]; intro h'; omega
 ·simp [GRing.ok, h6]; intro h' h''; omega
 rotate_left
 ·simp [GRing.ok, h6, h, h2]
 ·simp [GRing.ok, h6]; intro h'; omega
 ·simp [GRing.ok, h6]; intro h'; omega
 refine vL_rule (S := fun k : Nat => mkSt [(1, .ptr 1 0 0 0), (3, .p (.int .i64 k))] [(1, ⟨2, [.p (enc r)]⟩)]) (I := fun k => k ≤ r.parts.length ∧ ∀ i, (h : i < r.parts.length) -> i < k -> 1 ≤ r.parts[i] ∧ r.parts[i] ≤ 5) (m := fun k => r.parts.length - k) 0
  (Weak.to [1, 3] [((1, 0), 1)] (by simp [go_sem])) ⟨by omega, fun i h h0 => by omega⟩ ?_
 rintro k ⟨h3, h4⟩ R hn hr hx
 have e1 : IntKind.i64.wrap ((k : Int) + 1) = ((k + 1 : Nat) : Int) := i64w (by omega) (by omega)
 simp [g.ref03_Valid_l1, mkSt, go_sem]
 refine ⟨fun hk => ?_, fun hk => hx _ _ ?_⟩
 ·have bad : ¬ (1 ≤ r.parts[k] ∧ r.parts[k] ≤ 5) -> r.ok = false := fun hb => by
   simp only [GRing.ok, if_pos h6, decide_eq_false_iff_not]
   exact fun h' => hb (h'.2.2 _ (List.getElem_mem hk))
  refine atP_get hk ?_
  refine ⟨fun h5 => hr _ ?_, fun h5 => ?_⟩
  ·simp [bad (by omega), go_sem]
  refine atP_get hk ?_
  simp [e1, go_sem]
  refine ⟨fun h7 => hr _ ?_, fun h7 => hn (k + 1) _ (Weak.to [1, 3] [((1, 0), 1)] (by simp [go_sem])) ⟨by omega, fun i h hi => ?_⟩ (by omega)⟩
  ·simp [bad (by omega), go_sem]
  ·by_cases hik : i < k
   ·exact h4 i h hik
   ·have : i = k := by omega
    subst this; omega
 ·have : r.ok = true := by
   simp only [GRing.ok, if_pos h6, decide_eq_true_eq]
   refine ⟨by omega, by omega, fun x hx => ?_⟩
   obtain ⟨i, hi, rfl⟩ := List.getElem_of_mem hx
   exact h4 i hi (by omega)
  simp [this, go_sem]
theorem same3_sp (r s : GRing) : Sp P F.ref03_Same [enc r, enc s] (.pure (.bool (decide (r = s)))) := by
 refine Sp.of_vm' c.ref03_Same (by simp) fun hok => ?_
 simp [g.ref03_Same, go_sem]
 refine ⟨fun hk => ⟨fun hl => ?_, fun hl => fun h => hl (by rw [h])⟩, fun hk h => hk (by rw [h])⟩
 have hlen : r.parts.length = s.parts.length := by omega
 have hmax : r.parts.length ≤ maxLen := by simp only [enc_ring, okL, okP] at hok; simpa [ens_length] using hok.1.2.1.1
 unfold maxLen at hmax
 refine vL_rule (S := fun k : Nat => mkSt [(2, .ptr 1 0 0 0), (3, .ptr 2 0 0 0), (5, .p (.int .i64 k))] [(1, ⟨2, [.p (enc r)]⟩), (2, ⟨2, [.p (enc s)]⟩)]) (I := fun k => k ≤ r.parts.length ∧ r.parts.take k = s.parts.take k) (m := fun k => r.parts.length - k) 0
  (Weak.to [2, 3, 5] [((2, 0), 1), ((3, 0), 2)] (by simp [go_sem])) ⟨by omega, by simp⟩ ?_
 rintro k ⟨h1, h2⟩ R hn hr hx
 simp [g.ref03_Same_l1, mkSt, go_sem]
 refine ⟨fun hk' => ?_, fun hk' => hx _ _ ?_⟩
 ·have hk2 : k < s.parts.length := by omega
  have e1 : IntKind.i64.wrap ((k : Int) + 1) = ((k + 1 : Nat) : Int) := i64w (by omega) (by omega)
  refine atP_get hk' ?_
  refine atP_get hk2 ?_
  simp [e1, go_sem]
  refine ⟨fun h3 => ?_, fun h3 => ?_⟩
  ·exact hn (k + 1) _ (Weak.to [2, 3, 5] [((1, 0), 1), ((2, 0), 2)] (by simp [go_sem])) ⟨by omega, by rw [List.take_succ_eq_append_getElem hk', List.take_succ_eq_append_getElem hk2, h2, h3]⟩ (by omega)
  ·refine hr _ ?_
   have : r ≠ s := fun h => h3 (by subst h; rfl)
   simp [this, go_sem]
 ·have h3 : r = s := by
   have : r.parts = s.parts := by rw [<- List.take_length (l := r.parts), <- List.take_length (l := s.parts), <- hlen, show r.parts.length = k by omega]; exact h2
   cases r; cases s; simp at hk this; simp [hk, this]
  simp [h3, go_sem]
inductive GW.sm (n : Nat) : GW -> Prop
 | mk {q : GRat} {c : Int} {i : Bool} {s : UInt64} {p : List GMono} {ps : List GW} : q.sm n -> psm p n -> p.length ≤ n -> ps.length ≤ n -> (∀ w ∈ ps, GW.sm n w) -> GW.sm n (.mk q c i s p ps)
theorem GW.sm.q {n : Nat} {w : GW} (h : w.sm n) : w.q.sm n := by cases h; assumption
theorem GW.sm.poly {n : Nat} {w : GW} (h : w.sm n) : psm w.poly n := by cases h; assumption
theorem GW.sm.len {n : Nat} {w : GW} (h : w.sm n) : w.poly.length ≤ n := by cases h; assumption
theorem GW.sm.plen {n : Nat} {w : GW} (h : w.sm n) : w.parts.length ≤ n := by cases h; assumption
theorem GW.sm.parts {n : Nat} {w : GW} (h : w.sm n) : ∀ x ∈ w.parts, x.sm n := by cases h; assumption
theorem GW.sm.ind {n : Nat} {M : GW -> Prop} (h : ∀ v, v.sm n -> (∀ w ∈ v.parts, M w) -> M v) : ∀ v, v.sm n -> M v := by
 intro v hv
 induction hv with | @mk q c i s p ps hq hp hpl hps hw ih => exact h _ (.mk hq hp hpl hps hw) ih
theorem equal3_sp (v : GW) (hv : v.sm 1048576) : ∀ w : GW, Sp P F.ref03_Equal [enc v, enc w] (.pure (.bool (decide (v = w)))) := by
 revert v
 refine GW.sm.ind fun v hv ih w => ?_
 refine Sp.of_vm' c.ref03_Equal (by simp) fun hok => ?_
 simp [g.ref03_Equal, go_sem]
 refine callP_pure (same1_sp v.q w.q (hv.q.mono (by omega))) rfl ?_
 simp [go_sem]
 refine ⟨fun h1 => ⟨fun h2 => ⟨fun h3 => ⟨fun h4 => ?_, fun h4 h => h4 (by rw [h])⟩, fun h3 h => h3 (by rw [h])⟩, fun h2 h => h2 (by rw [h])⟩, fun h1 h => h1 (by rw [h])⟩
 have h4 : v.set = w.set := UInt64.toNat_inj.1 (by omega)
 refine callP_pure (same2_sp v.poly w.poly hv.poly (by have := hv.len; omega)) rfl ?_
 simp [go_sem]
 refine ⟨fun h5 => ⟨fun h6 => ?_, fun h6 h => h6 (by rw [h])⟩, fun h5 h => h5 (by rw [h])⟩
 have hlen : v.parts.length = w.parts.length := by omega
 have hmax := hv.plen
 refine vL_rule (S := fun k : Nat => mkSt [(2, .ptr 1 0 0 0), (3, .ptr 2 0 0 0), (5, .p (.int .i64 k))] [(1, ⟨8, [.p (enc v)]⟩), (2, ⟨8, [.p (enc w)]⟩)]) (I := fun k => k ≤ v.parts.length ∧ v.parts.take k = w.parts.take k) (m := fun k => v.parts.length - k) 0
  (Weak.to [2, 3, 5] [((2, 0), 1), ((3, 0), 2)] (by simp [go_sem])) ⟨by omega, by simp⟩ ?_
 rintro k ⟨h7, h8⟩ R hn hr hx
 have e1 : IntKind.i64.wrap ((k : Int) + 1) = ((k + 1 : Nat) : Int) := i64w (by omega) (by omega)
 simp [g.ref03_Equal_l1, mkSt, go_sem]
 refine ⟨fun hk => ?_, fun hk => hx _ _ ?_⟩
 ·have hk2 : k < w.parts.length := by omega
  refine atP_get hk ?_
  refine atP_get hk2 ?_
  refine callP_pure (ih _ (List.getElem_mem hk) w.parts[k]) ?_ ?_
  ·simp [go_sem]
  simp [e1, go_sem]
  refine ⟨fun h9 => ?_, fun h9 => ?_⟩
  ·exact hn (k + 1) _ (Weak.to [2, 3, 5] [((1, 0), 1), ((2, 0), 2)] (by simp [go_sem])) ⟨by omega, by rw [List.take_succ_eq_append_getElem hk, List.take_succ_eq_append_getElem hk2, h8, h9]⟩ (by omega)
  ·refine hr _ ?_
   have : v ≠ w := fun h => h9 (by subst h; rfl)
   simp [this, go_sem]
 ·have h9 : v = w := by
   refine GW.ext h1 h2 h3 h4 h5 ?_
   rw [<- List.take_length (l := v.parts), <- List.take_length (l := w.parts), <- hlen, show v.parts.length = k by omega]; exact h8
  simp [h9, go_sem]
theorem part3_sp (r : GRing) (i : Nat) (h : i < r.parts.length) : Sp P F.ref03_part [enc r, .int .i64 i] (.pure (enc (⟨r.parts[i], []⟩ : GRing))) := by
 refine Sp.of_vm' c.ref03_part (by simp) fun _ => ?_
 simp [g.ref03_part, go_sem]
 refine atP_get h ?_
 simp [go_sem]
end Go.Ab
namespace Go.Ab
section
variable {α : Type} (key : α -> List Int) (up : α -> α -> α) (nw : α -> α)
def mst (out : List α) (y : α) : List α :=
 match out with
 | [] => [nw y]
 | [z] => if key z = key y then [up z y] else [z, nw y]
 | z :: r => z :: mst r y
def mrg (l : List α) : List α := l.foldl (mst key up nw) []
def insR (s : List α) (x : α) : List α :=
 match s with
 | [] => [x]
 | z :: r => if key x < key z then x :: z :: r else z :: insR r x
def insF (out : List α) (x : α) : List α :=
 match out with
 | [] => [nw x]
 | z :: r => if key z < key x then z :: insF r x else if key z = key x then up z x :: r else nw x :: z :: r
def srt (l : List α) : List α := l.foldl (insR key) []
def nfm (l : List α) : List α := l.foldl (insF key up nw) []
variable {key up nw} (hup : ∀ a b, key (up a b) = key a) (hnw : ∀ a, key (nw a) = key a)
theorem key_tri (a b : List Int) : a < b ∨ a = b ∨ b < a := by
 by_cases h : a < b
 ·exact .inl h
 ·by_cases h2 : b < a
  ·exact .inr (.inr h2)
  ·exact .inr (.inl (List.le_antisymm (List.not_lt.1 h2) (List.not_lt.1 h)))
theorem key_le_lt {a b c : List Int} (h : ¬ b < a) (k : b < c) : a < c := by
 rcases key_tri a b with h1 | h1 | h1
 ·exact List.lt_trans h1 k
 ·rw [h1]; exact k
 ·exact absurd h1 h
theorem key_lt_le {a b c : List Int} (h : a < b) (k : ¬ c < b) : a < c := by
 rcases key_tri b c with h1 | h1 | h1
 ·exact List.lt_trans h h1
 ·rw [<- h1]; exact h
 ·exact absurd h1 k
theorem mst_ne (out : List α) (y : α) : mst key up nw out y ≠ [] := by
 match out with
 | [] => simp [mst]
 | [z] => simp only [mst]; split <;> simp
 | z :: w :: r => simp [mst]
theorem mst_app (z : α) {r : List α} (y : α) (h : r ≠ []) : mst key up nw (z :: r) y = z :: mst key up nw r y := by
 match r with
 | [] => exact absurd rfl h
 | w :: r => rfl
theorem mst_app' (o : List α) {r : List α} (y : α) (h : r ≠ []) : mst key up nw (o ++ r) y = o ++ mst key up nw r y := by
 induction o with
 | nil => rfl
 | cons z o ih => rw [List.cons_append, mst_app z y (by simp [h]), ih]; rfl
theorem fold_app (o : List α) : ∀ (l : List α) {r : List α}, r ≠ [] -> l.foldl (mst key up nw) (o ++ r) = o ++ l.foldl (mst key up nw) r
 | [], r, _ => rfl
 | y :: l, r, h => by
  simp only [List.foldl_cons]
  rw [mst_app' o y h]
  exact fold_app o l (mst_ne r y)
include hup hnw in
theorem mst_last (out : List α) (y : α) : ∃ o z, mst key up nw out y = o ++ [z] ∧ key z = key y := by
 match out with
 | [] => exact ⟨[], nw y, rfl, hnw y⟩
 | [z] =>
  simp only [mst]
  split
  ·rename_i h; exact ⟨[], up z y, rfl, by rw [hup, h]⟩
  ·exact ⟨[z], nw y, rfl, hnw y⟩
 | z :: w :: r =>
  obtain ⟨o, u, h1, h2⟩ := mst_last (w :: r) y
  exact ⟨z :: o, u, by rw [mst_app z y (by simp), h1]; rfl, h2⟩
theorem mst_new {o : List α} {z y : α} (h : key z ≠ key y) : mst key up nw (o ++ [z]) y = o ++ [z, nw y] := by
 rw [mst_app' o y (by simp)]; simp [mst, h]
theorem mst_old {o : List α} {z y : α} (h : key z = key y) : mst key up nw (o ++ [z]) y = o ++ [up z y] := by
 rw [mst_app' o y (by simp)]; simp [mst, h]
theorem fold_sep {o : List α} {z : α} {B : List α} (h : ∀ b ∈ B, key z ≠ key b) : B.foldl (mst key up nw) (o ++ [z]) = o ++ [z] ++ mrg key up nw B := by
 cases B with
 | nil => simp [mrg]
 | cons b B =>
  simp only [List.foldl_cons, mrg]
  rw [mst_new (h b (by simp))]
  have : o ++ [z, nw b] = (o ++ [z]) ++ [nw b] := by simp
  rw [this, fold_app (o ++ [z]) B (by simp)]
  rfl
def Srt (key : α -> List Int) (l : List α) : Prop := l.Pairwise fun a b => ¬ key b < key a
def SSrt (key : α -> List Int) (l : List α) : Prop := l.Pairwise fun a b => key a < key b
theorem mrg_snoc (l : List α) (y : α) : mrg key up nw (l ++ [y]) = mst key up nw (mrg key up nw l) y := by simp [mrg, List.foldl_append]
include hup hnw in
theorem mrg_sorted : ∀ (n : Nat) (l : List α), l.length = n -> Srt key l -> SSrt key (mrg key up nw l) ∧ (∀ z ∈ mrg key up nw l, ∃ y ∈ l, key z = key y) ∧ (l = [] ∨ ∃ o z o' y, mrg key up nw l = o ++ [z] ∧ l = o' ++ [y] ∧ key z = key y)
 | 0, l, hl, _ => by
  have : l = [] := List.eq_nil_of_length_eq_zero hl
  subst this
  exact ⟨by simp [mrg, SSrt], by simp [mrg], .inl rfl⟩
 | n + 1, l, hl, hs => by
  obtain ⟨l', y, rfl⟩ : ∃ l' y, l = l' ++ [y] := ⟨l.dropLast, l.getLast (by intro h; simp [h] at hl), (List.dropLast_concat_getLast _).symm⟩
  have hl' : l'.length = n := by simpa using hl
  have hs' : Srt key l' := (List.pairwise_append.1 hs).1
  have hle : ∀ a ∈ l', ¬ key y < key a := fun a ha => (List.pairwise_append.1 hs).2.2 a ha y (by simp)
  obtain ⟨i1, i2, i3⟩ := mrg_sorted n l' hl' hs'
  rw [mrg_snoc]
  obtain ⟨o, u, e1, e2⟩ := mst_last hup hnw (mrg key up nw l') y
  refine ⟨?_, ?_, .inr ⟨o, u, l', y, e1, rfl, e2⟩⟩
  ·rcases i3 with rfl | ⟨o1, z, o', y', f1, f2, f3⟩
   ·simp [mrg, mst, SSrt]
   ·rw [f1] at i1 ⊢
    have g := List.pairwise_append.1 i1
    by_cases hk : key z = key y
    ·rw [mst_old hk]
     refine List.pairwise_append.2 ⟨g.1, by simp, fun a ha b hb => ?_⟩
     simp only [List.mem_singleton] at hb; subst hb
     rw [hup]; exact g.2.2 a ha z (by simp)
    ·rw [mst_new hk]
     have hzy : key z < key y := by
      rcases key_tri (key z) (key y) with h | h | h
      ·exact h
      ·exact absurd h hk
      ·rw [f3] at h; exact absurd h (hle y' (by rw [f2]; simp))
     refine List.pairwise_append.2 ⟨g.1, by simp [hnw, hzy], fun a ha b hb => ?_⟩
     have haz := g.2.2 a ha z (by simp)
     simp only [List.mem_cons, List.not_mem_nil, or_false] at hb
     rcases hb with rfl | rfl
     ·exact haz
     ·rw [hnw]; exact List.lt_trans haz hzy
  ·intro z hz
   rcases i3 with rfl | ⟨o1, z1, o', y', f1, f2, f3⟩
   ·simp [mrg, mst] at hz; subst hz; exact ⟨y, by simp, hnw y⟩
   ·rw [f1] at hz
    by_cases hk : key z1 = key y
    ·rw [mst_old hk] at hz
     rcases List.mem_append.1 hz with h | h
     ·obtain ⟨q, q1, q2⟩ := i2 z (by rw [f1]; simp [h])
      exact ⟨q, by simp [q1], q2⟩
     ·simp at h; subst h; exact ⟨y, by simp, by rw [hup, hk]⟩
    ·rw [mst_new hk] at hz
     simp only [List.mem_append, List.mem_cons, List.not_mem_nil, or_false] at hz
     rcases hz with h | rfl | rfl
     ·obtain ⟨q, q1, q2⟩ := i2 z (by rw [f1]; simp [h])
      exact ⟨q, by simp [q1], q2⟩
     ·obtain ⟨q, q1, q2⟩ := i2 z (by rw [f1]; simp)
      exact ⟨q, by simp [q1], q2⟩
     ·exact ⟨y, by simp, hnw y⟩
include hnw in
theorem insF_app {x : α} {B : List α} (hB : ∀ b ∈ B, key x < key b) : ∀ (A : List α), SSrt key A -> (∀ a ∈ A, ¬ key x < key a) -> insF key up nw (A ++ B) x = mst key up nw A x ++ B
 | [], _, _ => by
  cases B with
  | nil => rfl
  | cons b B =>
   have h := hB b (by simp)
   have h1 : ¬ key b < key x := List.lt_asymm h
   have h2 : key b ≠ key x := fun e => by rw [e] at h; exact List.lt_irrefl _ h
   simp [insF, mst, h1, h2]
 | [z], hs, hle => by
  rcases key_tri (key z) (key x) with h | h | h
  ·have hne : key z ≠ key x := fun e => by rw [e] at h; exact List.lt_irrefl _ h
   have := insF_app hB [] (by simp [SSrt]) (by simp)
   simp only [List.nil_append, mst] at this
   simp [insF, mst, h, hne, this]
  ·have h2 : ¬ key x < key x := List.lt_irrefl _
   simp [insF, mst, h, h2]
  ·exact absurd h (hle z (by simp))
 | z :: w :: r, hs, hle => by
  have hs2 := List.pairwise_cons.1 hs
  have hzx : key z < key x := key_lt_le (hs2.1 w (by simp)) (hle w (by simp))
  have ih := insF_app hB (w :: r) hs2.2 (fun a ha => hle a (by simp [ha]))
  rw [mst_app z x (by simp)]
  simp only [List.cons_append, insF, hzx, if_true] at ih ⊢
  rw [<- ih]
theorem insR_split (x : α) : ∀ (s : List α), Srt key s -> ∃ A B, s = A ++ B ∧ insR key s x = A ++ x :: B ∧ (∀ a ∈ A, ¬ key x < key a) ∧ (∀ b ∈ B, key x < key b)
 | [], _ => ⟨[], [], rfl, rfl, by simp, by simp⟩
 | z :: r, hs => by
  have hs2 := List.pairwise_cons.1 hs
  by_cases h : key x < key z
  ·refine ⟨[], z :: r, rfl, by simp [insR, h], by simp, fun b hb => ?_⟩
   rcases List.mem_cons.1 hb with rfl | hb
   ·exact h
   ·exact key_lt_le h (hs2.1 b hb)
  ·obtain ⟨A, B, h1, h2, h3, h4⟩ := insR_split x r hs2.2
   exact ⟨z :: A, B, by rw [h1]; rfl, by simp [insR, h, h2], fun a ha => by
    rcases List.mem_cons.1 ha with rfl | ha
    ·exact h
    ·exact h3 a ha, h4⟩
theorem insR_sorted {x : α} {s : List α} (hs : Srt key s) : Srt key (insR key s x) := by
 obtain ⟨A, B, h1, h2, h3, h4⟩ := insR_split x s hs
 rw [h2]
 rw [h1] at hs
 have g := List.pairwise_append.1 hs
 refine List.pairwise_append.2 ⟨g.1, List.pairwise_cons.2 ⟨fun b hb => List.lt_asymm (h4 b hb), g.2.1⟩, fun a ha b hb => ?_⟩
 rcases List.mem_cons.1 hb with rfl | hb
 ·exact h3 a ha
 ·exact g.2.2 a ha b hb
include hup hnw in
theorem mrg_insR {x : α} {s : List α} (hs : Srt key s) : mrg key up nw (insR key s x) = insF key up nw (mrg key up nw s) x := by
 obtain ⟨A, B, h1, h2, h3, h4⟩ := insR_split x s hs
 subst h1
 have g := List.pairwise_append.1 hs
 obtain ⟨a1, a2, a3⟩ := mrg_sorted hup hnw A.length A rfl g.1
 obtain ⟨b1, b2, b3⟩ := mrg_sorted hup hnw B.length B rfl g.2.1
 have hBk : ∀ b ∈ mrg key up nw B, key x < key b := fun b hb => by
  obtain ⟨y, y1, y2⟩ := b2 b hb
  rw [y2]; exact h4 y y1
 have e1 : mrg key up nw (A ++ B) = mrg key up nw A ++ mrg key up nw B := by
  rcases a3 with rfl | ⟨o, z, o', y, f1, f2, f3⟩
  ·simp [mrg]
  ·have : mrg key up nw (A ++ B) = B.foldl (mst key up nw) (mrg key up nw A) := by simp [mrg, List.foldl_append]
   rw [this, f1]
   refine fold_sep fun b hb => ?_
   have hlt : key z < key b := by rw [f3]; exact key_le_lt (h3 y (by rw [f2]; simp)) (h4 b hb)
   intro e; rw [e] at hlt; exact List.lt_irrefl _ hlt
 have e2 : mrg key up nw (A ++ x :: B) = mst key up nw (mrg key up nw A) x ++ mrg key up nw B := by
  have : mrg key up nw (A ++ x :: B) = B.foldl (mst key up nw) (mst key up nw (mrg key up nw A) x) := by simp [mrg, List.foldl_append]
  rw [this]
  obtain ⟨o, u, f1, f2⟩ := mst_last hup hnw (mrg key up nw A) x
  rw [f1]
  refine fold_sep fun b hb => ?_
  intro e; have := h4 b hb; rw [<- f2, e] at this; exact List.lt_irrefl _ this
 rw [h2, e1, e2]
 exact (insF_app hnw hBk _ a1 (fun a ha => by
  obtain ⟨y, y1, y2⟩ := a2 a ha
  rw [y2]; exact h3 y y1)).symm
include hup hnw in
theorem mrg_srt (l : List α) : mrg key up nw (srt key l) = nfm key up nw l ∧ Srt key (srt key l) := by
 have key' : ∀ (l s : List α), Srt key s -> mrg key up nw (l.foldl (insR key) s) = l.foldl (insF key up nw) (mrg key up nw s) ∧ Srt key (l.foldl (insR key) s) := by
  intro l
  induction l with
  | nil => intro s hs; exact ⟨rfl, hs⟩
  | cons x l ih =>
   intro s hs
   simp only [List.foldl_cons]
   rw [<- mrg_insR hup hnw hs]
   exact ih _ (insR_sorted hs)
 exact key' l [] (by simp [Srt])
end
end Go.Ab
namespace Go.Ab
def lexI : List Int -> List Int -> Int
 | x :: xs, y :: ys => if x < y then -1 else if y < x then 1 else lexI xs ys
 | _, _ => 0
theorem lexI_lt : ∀ {a b : List Int}, a.length = b.length -> (lexI a b < 0 ↔ a < b)
 | [], [], _ => by simp [lexI]
 | x :: xs, y :: ys, h => by
  have ih := lexI_lt (a := xs) (b := ys) (by simpa using h)
  simp only [lexI, List.cons_lt_cons_iff]
  by_cases h1 : x < y
  ·simp [h1]
  ·by_cases h2 : y < x
   ·simp [h1, h2]; omega
   ·have : x = y := by omega
    subst this; simp [ih]
theorem lexI_eq : ∀ {a b : List Int}, a.length = b.length -> (lexI a b = 0 ↔ a = b)
 | [], [], _ => by simp [lexI]
 | x :: xs, y :: ys, h => by
  have ih := lexI_eq (a := xs) (b := ys) (by simpa using h)
  simp only [lexI, List.cons.injEq]
  by_cases h1 : x < y
  ·simp [h1]; omega
  ·by_cases h2 : y < x
   ·simp [h1, h2]; omega
   ·have : x = y := by omega
    subst this; simp [ih]
def cmpI (x y : Int) : Int := if x < y then -1 else if y < x then 1 else 0
end Go.Ab
namespace Go.Ab
open Enc (enc)
structure GArc where
 f : Int
 l : Int
 t : Int
 w : GW
structure GTArc where
 f : Int
 i : Int
 o : Int
 t : Int
 w : GW
def GW.cl (w : GW) : List PV := [.bool w.q.neg, .sl (ens w.q.num), .sl (ens w.q.den), .int .i64 w.cost, .bool w.inf, .int .u64 w.set.toNat, .sl (ens w.poly), .sl (ens w.parts)]
instance : Enc GArc := ⟨fun x => .agg ([.int .i64 x.f, .int .i64 x.l, .int .i64 x.t] ++ x.w.cl), 11, by decide, fun _ => rfl⟩
instance : Enc GTArc := ⟨fun x => .agg ([.int .i64 x.f, .int .i64 x.i, .int .i64 x.o, .int .i64 x.t] ++ x.w.cl), 12, by decide, fun _ => rfl⟩
@[go_sem] theorem enc_arc (x : GArc) : enc x = .agg [.int .i64 x.f, .int .i64 x.l, .int .i64 x.t, .bool x.w.q.neg, .sl (ens x.w.q.num), .sl (ens x.w.q.den), .int .i64 x.w.cost, .bool x.w.inf, .int .u64 x.w.set.toNat, .sl (ens x.w.poly), .sl (ens x.w.parts)] := rfl
@[go_sem] theorem enc_tarc (x : GTArc) : enc x = .agg [.int .i64 x.f, .int .i64 x.i, .int .i64 x.o, .int .i64 x.t, .bool x.w.q.neg, .sl (ens x.w.q.num), .sl (ens x.w.q.den), .int .i64 x.w.cost, .bool x.w.inf, .int .u64 x.w.set.toNat, .sl (ens x.w.poly), .sl (ens x.w.parts)] := rfl
@[go_sem] theorem encsz_arc : Enc.sz GArc = 11 := rfl
@[go_sem] theorem encsz_tarc : Enc.sz GTArc = 12 := rfl
structure GAuto where
 ring : GRing
 sy : Int
 st : Int
 ini : List GW
 fin : List GW
 arcs : List GArc
structure GTrans where
 ring : GRing
 i : Int
 o : Int
 st : Int
 ini : List GW
 fin : List GW
 arcs : List GTArc
instance : Enc GAuto := ⟨fun x => .agg [.int .i64 x.ring.kind, .sl (ens x.ring.parts), .int .i64 x.sy, .int .i64 x.st, .sl (ens x.ini), .sl (ens x.fin), .sl (ens x.arcs)], 7, by decide, fun _ => rfl⟩
instance : Enc GTrans := ⟨fun x => .agg [.int .i64 x.ring.kind, .sl (ens x.ring.parts), .int .i64 x.i, .int .i64 x.o, .int .i64 x.st, .sl (ens x.ini), .sl (ens x.fin), .sl (ens x.arcs)], 8, by decide, fun _ => rfl⟩
@[go_sem] theorem enc_auto (x : GAuto) : enc x = .agg [.int .i64 x.ring.kind, .sl (ens x.ring.parts), .int .i64 x.sy, .int .i64 x.st, .sl (ens x.ini), .sl (ens x.fin), .sl (ens x.arcs)] := rfl
@[go_sem] theorem enc_trans (x : GTrans) : enc x = .agg [.int .i64 x.ring.kind, .sl (ens x.ring.parts), .int .i64 x.i, .int .i64 x.o, .int .i64 x.st, .sl (ens x.ini), .sl (ens x.fin), .sl (ens x.arcs)] := rfl
@[go_sem] theorem encsz_auto : Enc.sz GAuto = 7 := rfl
@[go_sem] theorem encsz_trans : Enc.sz GTrans = 8 := rfl
def GArc.key (x : GArc) : List Int := [x.f, x.l, x.t]
def GTArc.key (x : GTArc) : List Int := [x.f, x.i, x.o, x.t]
end Go.Ab
namespace Go.Ab
open Enc (enc)
attribute [local go_sem] optOpd Opd.slots
theorem idxf_api_Weight (l : List GW) (f : FuncId) (caps : List PV) (p : GW -> Bool) (hl : l.length ≤ 4611686018427387904) (hf : ∀ x ∈ l, Sp P f (enc x :: caps) (.pure (.bool (p x)))) :
  Sp P F.slices_IndexFunc_api_Weight [.sl (ens l), .fn f caps] (.pure (.int .i64 (idxI p l))) := by
 refine Sp.of_vm' c.slices_IndexFunc_api_Weight (by simp) fun _ => ?_
 simp [g.slices_IndexFunc_api_Weight, go_sem]
 refine vL_rule (S := fun k : Nat => mkSt [(0, .p (.sl (ens l))), (1, .p (.fn f caps)), (7, .p (.int .i64 l.length)), (8, .p (.int .i64 k))] []) (I := fun k => k ≤ l.length ∧ ∀ x ∈ l.take k, p x = false) (m := fun k => l.length - k) 0
  (Weak.to [0, 1, 7, 8] [] (by simp [go_sem])) ⟨by omega, by simp⟩ ?_
 rintro k ⟨h1, h2⟩ R hn hr hx
 have e1 : IntKind.i64.wrap ((k : Int) + 1) = ((k + 1 : Nat) : Int) := i64w (by omega) (by omega)
 simp [g.slices_IndexFunc_api_Weight_l1, mkSt, go_sem]
 refine ⟨fun hk => ?_, fun hk => hx _ _ ?_⟩
 ·refine atP_get hk ?_
  try simp [go_sem]
  refine callP_pure (hf l[k] (List.getElem_mem hk)) (mapM_c (by simp [go_sem]) (mapM_psF _ _)) ?_
  rcases Bool.eq_false_or_eq_true (p l[k]) with h3 | h3
  ·simp [h3, go_sem]
   refine hr _ ?_
   simp [go_sem, idxI_at hk h2 h3]
  ·simp [h3, e1, go_sem]
   refine hn (k + 1) _ (Weak.to [0, 1, 7, 8] [] (by simp [go_sem])) ⟨by omega, fun x hx => ?_⟩ (by omega)
   rw [List.take_succ_eq_append_getElem hk] at hx
   rcases List.mem_append.1 hx with hx | hx
   ·exact h2 x hx
   ·simp at hx; rw [hx]; exact h3
 ·have : k = l.length := by omega
  subst this
  simp [go_sem, idxI_none (p := p) (l := l) (by simpa using h2)]
theorem has_api_Weight (l : List GW) (f : FuncId) (caps : List PV) (p : GW -> Bool) (hl : l.length ≤ 4611686018427387904) (hf : ∀ x ∈ l, Sp P f (enc x :: caps) (.pure (.bool (p x)))) :
  Sp P F.slices_ContainsFunc_api_Weight [.sl (ens l), .fn f caps] (.pure (.bool (l.any p))) := by
 refine Sp.of_vm' c.slices_ContainsFunc_api_Weight (by simp) fun _ => ?_
 simp [g.slices_ContainsFunc_api_Weight, go_sem]
 refine callP_pure (idxf_api_Weight l f caps p hl hf) rfl ?_
 simp [go_sem, idxI_nonneg]
theorem idxf_api_Arc (l : List GArc) (f : FuncId) (caps : List PV) (p : GArc -> Bool) (hl : l.length ≤ 4611686018427387904) (hf : ∀ x ∈ l, Sp P f (enc x :: caps) (.pure (.bool (p x)))) :
  Sp P F.slices_IndexFunc_api_Arc [.sl (ens l), .fn f caps] (.pure (.int .i64 (idxI p l))) := by
 refine Sp.of_vm' c.slices_IndexFunc_api_Arc (by simp) fun _ => ?_
 simp [g.slices_IndexFunc_api_Arc, go_sem]
 refine vL_rule (S := fun k : Nat => mkSt [(0, .p (.sl (ens l))), (1, .p (.fn f caps)), (7, .p (.int .i64 l.length)), (8, .p (.int .i64 k))] []) (I := fun k => k ≤ l.length ∧ ∀ x ∈ l.take k, p x = false) (m := fun k => l.length - k) 0
  (Weak.to [0, 1, 7, 8] [] (by simp [go_sem])) ⟨by omega, by simp⟩ ?_
 rintro k ⟨h1, h2⟩ R hn hr hx
 have e1 : IntKind.i64.wrap ((k : Int) + 1) = ((k + 1 : Nat) : Int) := i64w (by omega) (by omega)
 simp [g.slices_IndexFunc_api_Arc_l1, mkSt, go_sem]
 refine ⟨fun hk => ?_, fun hk => hx _ _ ?_⟩
 ·refine atP_get hk ?_
  try simp [go_sem]
  refine callP_pure (hf l[k] (List.getElem_mem hk)) (mapM_c (by simp [go_sem]) (mapM_psF _ _)) ?_
  rcases Bool.eq_false_or_eq_true (p l[k]) with h3 | h3
  ·simp [h3, go_sem]
   refine hr _ ?_
   simp [go_sem, idxI_at hk h2 h3]
  ·simp [h3, e1, go_sem]
   refine hn (k + 1) _ (Weak.to [0, 1, 7, 8] [] (by simp [go_sem])) ⟨by omega, fun x hx => ?_⟩ (by omega)
   rw [List.take_succ_eq_append_getElem hk] at hx
   rcases List.mem_append.1 hx with hx | hx
   ·exact h2 x hx
   ·simp at hx; rw [hx]; exact h3
 ·have : k = l.length := by omega
  subst this
  simp [go_sem, idxI_none (p := p) (l := l) (by simpa using h2)]
theorem has_api_Arc (l : List GArc) (f : FuncId) (caps : List PV) (p : GArc -> Bool) (hl : l.length ≤ 4611686018427387904) (hf : ∀ x ∈ l, Sp P f (enc x :: caps) (.pure (.bool (p x)))) :
  Sp P F.slices_ContainsFunc_api_Arc [.sl (ens l), .fn f caps] (.pure (.bool (l.any p))) := by
 refine Sp.of_vm' c.slices_ContainsFunc_api_Arc (by simp) fun _ => ?_
 simp [g.slices_ContainsFunc_api_Arc, go_sem]
 refine callP_pure (idxf_api_Arc l f caps p hl hf) rfl ?_
 simp [go_sem, idxI_nonneg]
theorem idxf_api_TArc (l : List GTArc) (f : FuncId) (caps : List PV) (p : GTArc -> Bool) (hl : l.length ≤ 4611686018427387904) (hf : ∀ x ∈ l, Sp P f (enc x :: caps) (.pure (.bool (p x)))) :
  Sp P F.slices_IndexFunc_api_TArc [.sl (ens l), .fn f caps] (.pure (.int .i64 (idxI p l))) := by
 refine Sp.of_vm' c.slices_IndexFunc_api_TArc (by simp) fun _ => ?_
 simp [g.slices_IndexFunc_api_TArc, go_sem]
 refine vL_rule (S := fun k : Nat => mkSt [(0, .p (.sl (ens l))), (1, .p (.fn f caps)), (7, .p (.int .i64 l.length)), (8, .p (.int .i64 k))] []) (I := fun k => k ≤ l.length ∧ ∀ x ∈ l.take k, p x = false) (m := fun k => l.length - k) 0
  (Weak.to [0, 1, 7, 8] [] (by simp [go_sem])) ⟨by omega, by simp⟩ ?_
 rintro k ⟨h1, h2⟩ R hn hr hx
 have e1 : IntKind.i64.wrap ((k : Int) + 1) = ((k + 1 : Nat) : Int) := i64w (by omega) (by omega)
 simp [g.slices_IndexFunc_api_TArc_l1, mkSt, go_sem]
 refine ⟨fun hk => ?_, fun hk => hx _ _ ?_⟩
 ·refine atP_get hk ?_
  try simp [go_sem]
  refine callP_pure (hf l[k] (List.getElem_mem hk)) (mapM_c (by simp [go_sem]) (mapM_psF _ _)) ?_
  rcases Bool.eq_false_or_eq_true (p l[k]) with h3 | h3
  ·simp [h3, go_sem]
   refine hr _ ?_
   simp [go_sem, idxI_at hk h2 h3]
  ·simp [h3, e1, go_sem]
   refine hn (k + 1) _ (Weak.to [0, 1, 7, 8] [] (by simp [go_sem])) ⟨by omega, fun x hx => ?_⟩ (by omega)
   rw [List.take_succ_eq_append_getElem hk] at hx
   rcases List.mem_append.1 hx with hx | hx
   ·exact h2 x hx
   ·simp at hx; rw [hx]; exact h3
 ·have : k = l.length := by omega
  subst this
  simp [go_sem, idxI_none (p := p) (l := l) (by simpa using h2)]
theorem eqf_api_Monomial (l m : List GMono) (f : FuncId) (hl : l.length ≤ 4611686018427387904) (hf : ∀ x ∈ l, ∀ y ∈ m, Sp P f [enc x, enc y] (.pure (.bool (decide (x = y))))) :
  Sp P F.slices_EqualFunc_api_Monomial [.sl (ens l), .sl (ens m), .fn f []] (.pure (.bool (decide (l = m)))) := by
 refine Sp.of_vm' c.slices_EqualFunc_api_Monomial (by simp) fun _ => ?_
 simp [g.slices_EqualFunc_api_Monomial, go_sem]
 refine ⟨fun h => ?_, fun h => fun he => h (by rw [he])⟩
 have hlen : l.length = m.length := by omega
 refine vL_rule (S := fun k : Nat => mkSt [(1, .p (.sl (ens m))), (2, .p (.fn f [])), (15, .p (.sl (ens l))), (16, .p (.int .i64 l.length)), (17, .p (.int .i64 k))] []) (I := fun k => k ≤ l.length ∧ l.take k = m.take k) (m := fun k => l.length - k) 0
  (Weak.to [1, 2, 15, 16, 17] [] (by simp [go_sem])) ⟨by omega, by simp⟩ ?_
 rintro k ⟨h1, h2⟩ R hn hr hx
 have e1 : IntKind.i64.wrap ((k : Int) + 1) = ((k + 1 : Nat) : Int) := i64w (by omega) (by omega)
 simp [g.slices_EqualFunc_api_Monomial_l1, mkSt, go_sem]
 refine ⟨fun hk => ?_, fun hk => hx _ _ ?_⟩
 ·have hk2 : k < m.length := by omega
  have bad : l[k] ≠ m[k] -> l ≠ m := fun h h' => by subst h'; exact h rfl
  refine atP_get hk ?_
  try simp [go_sem]
  refine atP_get hk2 ?_
  try simp [go_sem]
  refine callP_pure (hf l[k] (List.getElem_mem hk) m[k] (List.getElem_mem hk2)) (by simp [go_sem]) ?_
  by_cases h6 : l[k] = m[k]
  ·simp [h6, e1, go_sem]
   exact hn (k + 1) _ (Weak.to [1, 2, 15, 16, 17] [] (by simp [go_sem])) ⟨by omega, by rw [List.take_succ_eq_append_getElem hk, List.take_succ_eq_append_getElem hk2, h2, h6]⟩ (by omega)
  ·have h8 : l ≠ m := bad h6
   simp [h6, go_sem]
   exact hr _ (by simp [h8, go_sem])
 ·have h3 : l = m := by rw [<- List.take_length (l := l), <- List.take_length (l := m), <- hlen, show l.length = k by omega]; exact h2
  simp [h3, go_sem]
theorem eqf_api_Weight (l m : List GW) (f : FuncId) (hl : l.length ≤ 4611686018427387904) (hf : ∀ x ∈ l, ∀ y ∈ m, Sp P f [enc x, enc y] (.pure (.bool (decide (x = y))))) :
  Sp P F.slices_EqualFunc_api_Weight [.sl (ens l), .sl (ens m), .fn f []] (.pure (.bool (decide (l = m)))) := by
 refine Sp.of_vm' c.slices_EqualFunc_api_Weight (by simp) fun _ => ?_
 simp [g.slices_EqualFunc_api_Weight, go_sem]
 refine ⟨fun h => ?_, fun h => fun he => h (by rw [he])⟩
 have hlen : l.length = m.length := by omega
 refine vL_rule (S := fun k : Nat => mkSt [(1, .p (.sl (ens m))), (2, .p (.fn f [])), (15, .p (.sl (ens l))), (16, .p (.int .i64 l.length)), (17, .p (.int .i64 k))] []) (I := fun k => k ≤ l.length ∧ l.take k = m.take k) (m := fun k => l.length - k) 0
  (Weak.to [1, 2, 15, 16, 17] [] (by simp [go_sem])) ⟨by omega, by simp⟩ ?_
 rintro k ⟨h1, h2⟩ R hn hr hx
 have e1 : IntKind.i64.wrap ((k : Int) + 1) = ((k + 1 : Nat) : Int) := i64w (by omega) (by omega)
 simp [g.slices_EqualFunc_api_Weight_l1, mkSt, go_sem]
 refine ⟨fun hk => ?_, fun hk => hx _ _ ?_⟩
 ·have hk2 : k < m.length := by omega
  have bad : l[k] ≠ m[k] -> l ≠ m := fun h h' => by subst h'; exact h rfl
  refine atP_get hk ?_
  try simp [go_sem]
  refine atP_get hk2 ?_
  try simp [go_sem]
  refine callP_pure (hf l[k] (List.getElem_mem hk) m[k] (List.getElem_mem hk2)) (by simp [go_sem]) ?_
  by_cases h6 : l[k] = m[k]
  ·simp [h6, e1, go_sem]
   exact hn (k + 1) _ (Weak.to [1, 2, 15, 16, 17] [] (by simp [go_sem])) ⟨by omega, by rw [List.take_succ_eq_append_getElem hk, List.take_succ_eq_append_getElem hk2, h2, h6]⟩ (by omega)
  ·have h8 : l ≠ m := bad h6
   simp [h6, go_sem]
   exact hr _ (by simp [h8, go_sem])
 ·have h3 : l = m := by rw [<- List.take_length (l := l), <- List.take_length (l := m), <- hlen, show l.length = k by omega]; exact h2
  simp [h3, go_sem]
theorem clone_api_Arc (l : List GArc) (hl : l.length ≤ 2147483648) : Sp P F.slices_Clone_api_Arc [.sl (ens l)] (.fresh 11 (ens l)) := by
 cases l with
 | nil =>
  refine Sp.nilcase ?_ ?_
  ·refine Sp.of_vm' c.slices_Clone_api_Arc (by simp) fun _ => ?_
   simp [g.slices_Clone_api_Arc, go_sem]
  ·refine Sp.of_vm' c.slices_Clone_api_Arc (by simp) fun _ => ?_
   simp [g.slices_Clone_api_Arc, go_sem, LIM]
 | cons x l =>
  refine Sp.of_vm' c.slices_Clone_api_Arc (by simp) fun _ => ?_
  simp at hl
  simp [g.slices_Clone_api_Arc, go_sem, LIM, hl]
theorem clone_api_TArc (l : List GTArc) (hl : l.length ≤ 2147483648) : Sp P F.slices_Clone_api_TArc [.sl (ens l)] (.fresh 12 (ens l)) := by
 cases l with
 | nil =>
  refine Sp.nilcase ?_ ?_
  ·refine Sp.of_vm' c.slices_Clone_api_TArc (by simp) fun _ => ?_
   simp [g.slices_Clone_api_TArc, go_sem]
  ·refine Sp.of_vm' c.slices_Clone_api_TArc (by simp) fun _ => ?_
   simp [g.slices_Clone_api_TArc, go_sem, LIM]
 | cons x l =>
  refine Sp.of_vm' c.slices_Clone_api_TArc (by simp) fun _ => ?_
  simp at hl
  simp [g.slices_Clone_api_TArc, go_sem, LIM, hl]
end Go.Ab
