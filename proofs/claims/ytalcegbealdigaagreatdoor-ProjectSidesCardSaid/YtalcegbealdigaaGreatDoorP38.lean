/-
Proofs for the law ProjectSides of the seat, part 38 (texts Z6 Z7 Z8 Z9 Q1 Q2 Q3 Q4). Conditions: none.
-/
import Derived.Test.YtalcegbealdigaaGreatDoorP37
set_option maxRecDepth 100000
set_option maxHeartbeats 4000000
set_option linter.all false
namespace Go.Ab
open Enc (enc)
attribute [local go_sem] optOpd Opd.slots
noncomputable def formT (r : GRing) (l : List GTArc) : List GTArc := (nfm GTArc.key (upT r) id l).filter fun x => !decide (x.w = r.zero)
theorem formT_inv {r : GRing} {n : Nat} (hn1 : 1 ≤ n) {l : List GTArc} (h : ∀ x ∈ l, x.w.sm n ∧ x.w.chk r) (k : Nat) (hk : k ≤ l.length) :
  (nfm GTArc.key (upT r) id (l.take k)).length ≤ k ∧ ∀ x ∈ nfm GTArc.key (upT r) id (l.take k), x.w.sm ((k + 1) * (n + 1)) ∧ x.w.chk r := by
 refine nfm_all (up := upT r) (nw := id) (Q := fun k x => x.w.sm ((k + 1) * (n + 1)) ∧ x.w.chk r) (fun k x hx => ⟨hx.1.mono (Nat.mul_le_mul_right _ (by omega)), hx.2⟩) (fun x hx => ⟨(h x hx).1.mono (by omega), (h x hx).2⟩) (fun k z x hx hz => ⟨?_, (plus_chk hz.2 (h x hx).2 : (r.plus z.w x.w).chk r)⟩) (fun k x hx => ⟨hx.1.mono (Nat.mul_le_mul_right _ (by omega)), hx.2⟩) k hk
 have := plus_sm hz.1 (h x hx).1 hz.2 (h x hx).2 (Nat.le_trans hn1 (by rw [Nat.add_mul]; omega)) hn1
 have e : (k + 1) * (n + 1) + n + 1 = (k + 1 + 1) * (n + 1) := by rw [Nat.add_mul (k + 1) 1]; omega
 rw [<- e]; exact this
theorem formT_tidT (r : GRing) (l : List GTArc) : formT r l = tidT r l := by
 unfold formT tidT
 rw [(mrg_srt (up := upT r) (nw := id) (fun _ _ => rfl) (fun _ => rfl) l).1]
theorem arcs17_sp (r : GRing) (l : List GTArc) (n : Nat) (hn : n ≤ 90) (hn1 : 3 ≤ n) (hl : l.length ≤ 19) (h : ∀ x ∈ l, x.w.sm n ∧ x.w.chk r) :
  Sp P F.ref17_arcs [enc r, .sl (ens l)] (.pure (.sl (ens (formT r l)))) := by
 have inv := formT_inv (r := r) (n := n) (by omega) h
 refine Sp.of_vm' c.ref17_arcs (by simp) fun _ => ?_
 simp [g.ref17_arcs, go_sem]
 refine vL_rule (S := fun k : Nat => mkSt [(1, .p (.sl (ens l))), (2, .ptr 2 0 0 0), (5, .own 1 0 0 (nfm GTArc.key (upT r) id (l.take k)).length), (6, .p (.int .i64 k))] [(2, ⟨2, [.p (enc r)]⟩), (1, ⟨12, avs (nfm GTArc.key (upT r) id (l.take k))⟩)]) (I := fun k => k ≤ l.length) (m := fun k => l.length - k) 0
  (Weak.nl 5 77 12 rfl (Weak.to [1, 2, 5, 6] [((2, 0), 2), ((77, 0), 1)] (by simp [go_sem, nfm]))) (by omega) ?_
 rintro k h1 R hn' hr hx
 have e3 : IntKind.i64.wrap ((k : Int) + 1) = ((k + 1 : Nat) : Int) := i64w (by omega) (by omega)
 obtain ⟨iv1, iv2⟩ := inv k h1
 generalize hO : nfm GTArc.key (upT r) id (l.take k) = O at *
 by_cases hk : k < l.length
 ·have hw := h _ (List.getElem_mem hk)
  have hnx := nfm_take_succ (key := GTArc.key) (up := upT r) (nw := id) hk
  rw [hO] at hnx
  simp [g.ref17_arcs_l2, mkSt, go_sem, hk]
  refine atP_get hk ?_
  try simp [go_sem]
  generalize l[k] = x at *
  refine callP_pure (take3_sp r x.w (hw.1.mono (by omega))) (by simp [go_sem]) ?_
  rw [tk_chk hw.2]
  simp [go_sem]
  refine vL_rule (S := fun i : Nat => mkSt [(1, .p (.sl (ens l))), (2, .ptr 2 0 0 0), (5, .own 1 0 0 O.length), (6, .p (.int .i64 k)), (7, .ptr 3 0 0 0), (8, .p (.int .i64 i))] [(2, ⟨2, [.p (enc r)]⟩), (1, ⟨12, avs O⟩), (3, ⟨12, [.p (enc x)]⟩)]) (I := fun i => i ≤ O.length ∧ ∀ j, (hj : j < O.length) -> j < i -> O[j].key < x.key) (m := fun i => O.length - i) 0
   (Weak.to [1, 2, 5, 6, 7, 8] [((2, 0), 2), ((1, 0), 1), ((7, 0), 3)] (by simp [go_sem])) ⟨by omega, fun j _ hj => by omega⟩ ?_
  rintro i ⟨j1, j2⟩ R2 hn2 hr2 hx2
  have e4 : IntKind.i64.wrap ((i : Int) + 1) = ((i + 1 : Nat) : Int) := i64w (by omega) (by omega)
  by_cases hi : i < O.length
  ·simp [g.ref17_arcs_l1, mkSt, go_sem, hi]
   refine atP_get hi ?_
   refine callP_pure (order17_sp O[i] x) (by simp [go_sem]) ?_
   have hlt : lexI O[i].key x.key < 0 ↔ O[i].key < x.key := lexI_lt (by simp [GTArc.key])
   have hle : lexI O[i].key x.key = 0 ↔ O[i].key = x.key := lexI_eq (by simp [GTArc.key])
   simp [go_sem]
   refine ⟨fun h8 => ?_, fun h8 => hx2 _ _ ?_⟩
   ·rw [e4]
    refine hn2 (i + 1) _ (Weak.to [1, 2, 5, 6, 7, 8] [((2, 0), 2), ((1, 0), 1), ((3, 0), 3)] (by simp [mkSt, go_sem])) ⟨by omega, fun j hj h0 => ?_⟩ (by omega)
    by_cases hji : j < i
    ·exact j2 j hj hji
    ·have : j = i := by omega
     subst this; exact hlt.1 h8
   ·simp [go_sem, hi]
    refine atP_get hi ?_
    refine callP_pure (order17_sp O[i] x) (by simp [go_sem]) ?_
    simp [go_sem]
    refine ⟨fun h0 => ?_, fun h0 => ?_⟩
    ·rw [insF_eq hi j2 (hle.1 h0)] at hnx
     have hz := iv2 _ (List.getElem_mem hi)
     have hb2 : (k + 1) * (n + 1) ≤ 2000 := by
      have := Nat.mul_le_mul (show k + 1 ≤ 20 by omega) (show n + 1 ≤ 91 by omega)
      omega
     have hb3 : n ≤ (k + 1) * (n + 1) := by rw [Nat.add_mul]; omega
     refine ⟨hi, atP_get hi ?_⟩
     refine callP_pure (plus3_sp r O[i].w x.w _ hz.1 (hw.1.mono hb3) hb2 (by omega) hz.2 hw.2) (by simp [go_sem]) ?_
     simp [go_sem, e3, hi]
     refine atP_get hi ?_
     refine hn' (k + 1) _ (Weak.to [1, 2, 5, 6] [((2, 0), 2), ((1, 0), 1)] ?_) (by omega) (by omega)
     rw [hnx]
     simp [mkSt, go_sem, upT]
    ·rw [insF_new hi j2 (fun h => by have := hlt.2 h; omega) (fun h => h0 (hle.2 h))] at hnx
     have hO2 : O.length ≤ 19 := by omega
     have hm : min i O.length = i := by omega
     rw [hm]
     refine ⟨by omega, ⟨by omega, by omega⟩, by omega, by omega, ⟨by omega, by omega⟩, ?_⟩
     rw [e3]
     have hlen : i + 1 + (O.length - i) = O.length + 1 := by omega
     refine hn' (k + 1) _ (Weak.to [1, 2, 5, 6] [((2, 0), 2), ((77, 0), 1)] ?_) (by omega) (by omega)
     rw [hnx]
     simp [mkSt, go_sem, hlen]
     exact ⟨by omega, by rw [List.take_of_length_le (by simp)]⟩
  ·have : i = O.length := by omega
   subst this
   rw [insF_end fun j hj => j2 j hj hj] at hnx
   simp [g.ref17_arcs_l1, mkSt, go_sem]
   refine hx2 _ _ ?_
   simp [go_sem]
   rw [e3]
   refine ⟨by omega, by omega, hn' (k + 1) _ (Weak.to [1, 2, 5, 6] [((2, 0), 2), ((77, 0), 1)] ?_) (by omega) (by omega)⟩
   rw [hnx]
   simp [mkSt, go_sem]
 ·have : k = l.length := by omega
  subst this
  rw [List.take_of_length_le (Nat.le_refl _)] at hO
  have hf : formT r l = O.filter fun x => !decide (x.w = r.zero) := by rw [<- hO]; rfl
  have hb2 : (l.length + 1) * (n + 1) ≤ 1048576 := by
   have := Nat.mul_le_mul (show l.length + 1 ≤ 20 by omega) (show n + 1 ≤ 91 by omega)
   omega
  simp [g.ref17_arcs_l2, mkSt, go_sem]
  refine hx _ _ ?_
  simp [go_sem]
  rw [hf]
  clear hx hr hn'
  refine vL_rule (S := fun j : Nat => mkSt [(2, .ptr 2 0 0 0), (5, .own 1 0 0 O.length), (9, .own 3 0 0 ((O.take j).filter fun x => !decide (x.w = r.zero)).length), (10, .p (.int .i64 j))] [(2, ⟨2, [.p (enc r)]⟩), (1, ⟨12, avs O⟩), (3, ⟨12, avs ((O.take j).filter fun x => !decide (x.w = r.zero))⟩)]) (I := fun j => j ≤ O.length) (m := fun j => O.length - j) 0
   (Weak.nl 9 78 12 rfl (Weak.to [2, 5, 9, 10] [((2, 0), 2), ((1, 0), 1), ((78, 0), 3)] (by simp [go_sem]))) (by omega) ?_
  rintro j j1 R hn' hr hx
  have e4 : IntKind.i64.wrap ((j : Int) + 1) = ((j + 1 : Nat) : Int) := i64w (by omega) (by omega)
  by_cases hj : j < O.length
  ·have hlj : ((O.take j).filter fun x => !decide (x.w = r.zero)).length ≤ j := Nat.le_trans (List.length_filter_le _ _) (by rw [List.length_take]; omega)
   have hts : (O.take (j + 1)).filter (fun x => !decide (x.w = r.zero)) = (O.take j).filter (fun x => !decide (x.w = r.zero)) ++ if O[j].w = r.zero then [] else [O[j]] := by
    rw [List.take_succ_eq_append_getElem hj, List.filter_append]; by_cases hz : O[j].w = r.zero <;> simp [hz]
   generalize hT : (O.take j).filter (fun x => !decide (x.w = r.zero)) = T at *
   have hz := iv2 _ (List.getElem_mem hj)
   simp [g.ref17_arcs_l3, mkSt, go_sem, hj]
   refine atP_get hj ?_
   refine callP_pure (isZero3_sp r O[j].w (hz.1.mono hb2)) (by simp [go_sem]) ?_
   by_cases h0 : O[j].w = r.zero
   ·rw [decide_eq_true h0]; simp [go_sem, e4]
    rw [if_pos h0] at hts
    refine hn' (j + 1) _ (Weak.to [2, 5, 9, 10] [((2, 0), 2), ((1, 0), 1), ((3, 0), 3)] ?_) (by omega) (by omega)
    rw [hts]
    simp [mkSt, go_sem]
   ·rw [decide_eq_false h0]; simp [go_sem, hj]
    rw [if_neg h0] at hts
    refine atP_get hj ?_
    rw [e4]
    refine ⟨by omega, hn' (j + 1) _ (Weak.to [2, 5, 9, 10] [((2, 0), 2), ((1, 0), 1), ((98, 0), 3)] ?_) (by omega) (by omega)⟩
    rw [hts]
    simp [mkSt, go_sem]
  ·have : j = O.length := by omega
   subst this
   simp [g.ref17_arcs_l3, mkSt, go_sem]
   refine hx _ _ ?_
   simp [go_sem]
end Go.Ab
namespace Go.Ab
open Enc (enc)
attribute [local go_sem] optOpd Opd.slots
theorem same17_sp (a b : GTrans) (h : a.sm 1048576) (li : a.ini.length ≤ 1000000) (lf : a.fin.length ≤ 1000000) (la : a.arcs.length ≤ 1000000) :
  Sp P F.ref17_Same [enc a, enc b] (.pure (.bool (decide (a = b)))) := by
 refine Sp.of_vm' c.ref17_Same (by simp) fun _ => ?_
 simp [g.ref17_Same, go_sem]
 refine callP_pure (same3_sp a.ring b.ring) (by simp [go_sem]) ?_
 by_cases h1 : a.ring = b.ring
 rotate_left
 ·rw [decide_eq_false h1]; simp [go_sem]; exact fun h => h1 (by rw [h])
 rw [decide_eq_true h1]; simp [go_sem]
 by_cases h2 : a.i = b.i
 rotate_left
 ·simp [h2]; exact fun h => h2 (by rw [h])
 by_cases h22 : a.o = b.o
 rotate_left
 ·simp [h2, h22]; exact fun h => h22 (by rw [h])
 by_cases h3 : a.st = b.st
 rotate_left
 ·simp [h2, h22, h3]; exact fun h => h3 (by rw [h])
 simp [h2, h22, h3]
 refine callP_pure (sameList3_sp a.ini b.ini (by omega) h.ini) (by simp [go_sem]) ?_
 by_cases h4 : a.ini = b.ini
 rotate_left
 ·rw [decide_eq_false h4]; simp [go_sem]; exact fun h => h4 (by rw [h])
 rw [decide_eq_true h4]; simp [go_sem]
 refine callP_pure (sameList3_sp a.fin b.fin (by omega) h.fin) (by simp [go_sem]) ?_
 by_cases h5 : a.fin = b.fin
 rotate_left
 ·rw [decide_eq_false h5]; simp [go_sem]; exact fun h => h5 (by rw [h])
 rw [decide_eq_true h5]; simp [go_sem]
 by_cases h6 : a.arcs.length = b.arcs.length
 rotate_left
 ·have : ¬ (a.arcs.length : Int) = b.arcs.length := by omega
  simp [this]; exact fun h => h6 (by rw [h])
 simp [h6]
 refine vL_rule (S := fun k : Nat => mkSt [(2, .ptr 1 0 0 0), (3, .ptr 2 0 0 0), (5, .p (.int .i64 k))] [(1, ⟨8, [.p (enc a)]⟩), (2, ⟨8, [.p (enc b)]⟩)]) (I := fun k => k ≤ a.arcs.length ∧ a.arcs.take k = b.arcs.take k) (m := fun k => a.arcs.length - k) 0
  (Weak.to [2, 3, 5] [((2, 0), 1), ((3, 0), 2)] (by simp [go_sem, h2, h22, h3])) ⟨by omega, by simp⟩ ?_
 rintro k ⟨h7, h8⟩ R hn hr' hx
 have e1 : IntKind.i64.wrap ((k : Int) + 1) = ((k + 1 : Nat) : Int) := i64w (by omega) (by omega)
 by_cases hk : k < a.arcs.length
 ·have hk' : k < b.arcs.length := by omega
  have hmem : a.arcs[k].w.sm 1048576 := h.arcs _ (List.getElem_mem hk)
  have hne : a.arcs[k] ≠ b.arcs[k] -> a ≠ b := fun h1 h2 => by subst h2; exact h1 rfl
  have htk : a.arcs[k] = b.arcs[k] -> a.arcs.take (k + 1) = b.arcs.take (k + 1) := fun h1 => by
   rw [List.take_succ_eq_append_getElem hk, List.take_succ_eq_append_getElem hk', h8, h1]
  simp [g.ref17_Same_l1, mkSt, go_sem, hk, hk']
  refine atP_get hk ?_
  refine atP_get hk' ?_
  have hle : lexI a.arcs[k].key b.arcs[k].key = 0 ↔ a.arcs[k].key = b.arcs[k].key := lexI_eq (by simp [GTArc.key])
  refine callP_pure (order17_sp a.arcs[k] b.arcs[k]) (by simp [go_sem]) ?_
  simp [go_sem]
  refine ⟨fun h9 => ?_, fun h9 => hr' _ ?_⟩
  ·refine atP_get hk ?_
   refine atP_get hk' ?_
   refine callP_pure (equal3_sp a.arcs[k].w hmem b.arcs[k].w) (by simp [go_sem]) ?_
   by_cases h10 : a.arcs[k].w = b.arcs[k].w
   ·rw [decide_eq_true h10]; simp [go_sem, e1]
    exact hn (k + 1) _ (Weak.to [2, 3, 5] [((1, 0), 1), ((2, 0), 2)] (by simp [mkSt, go_sem])) ⟨by omega, htk (tarc_ext.2 ⟨hle.1 h9, h10⟩)⟩ (by omega)
   ·rw [decide_eq_false h10]; simp [go_sem]
    refine hr' _ ?_
    simp [go_sem]
    exact hne fun h => h10 (by rw [h])
  ·simp [go_sem]
   exact hne fun h => h9 (hle.2 (by rw [h]))
 ·simp [g.ref17_Same_l1, mkSt, go_sem, hk]
  refine hx _ _ ?_
  have hall : a.arcs = b.arcs := by
   rw [List.take_of_length_le (by omega), List.take_of_length_le (by omega)] at h8; exact h8
  have : a = b := by cases a; cases b; simp_all
  simp [go_sem, this]
end Go.Ab
namespace Go.Ab
open Enc (enc)
attribute [local go_sem] optOpd Opd.slots
theorem form17_sp (a : GTrans) (n : Nat) (hn : n ≤ 90) (hn1 : 3 ≤ n) (h : a.sm n) (hl : a.arcs.length ≤ 19) (hp : a.ring.parts.length ≤ 1000000) (hs : a.st ≤ 1000) (li : (a.ini.length : Int) = a.st) (lf : (a.fin.length : Int) = a.st)
  (ci : ∀ w ∈ a.ini, w.chk a.ring) (cf : ∀ w ∈ a.fin, w.chk a.ring) (ca : ∀ x ∈ a.arcs, x.w.chk a.ring) :
  Sp P F.ref17_Form [enc a] (.pure (enc a.nf)) := by
 have k3 := arcs17_sp a.ring a.arcs n hn hn1 hl fun x hx => ⟨h.arcs x hx, ca x hx⟩
 rw [formT_tidT] at k3
 have llf : a.fin.length = a.ini.length := by omega
 refine Sp.of_vm' c.ref17_Form (by simp) fun _ => ?_
 simp [g.ref17_Form, go_sem]
 refine ⟨by omega, ?_⟩
 refine callP_pure k3 (by simp [go_sem]) ?_
 simp [go_sem]
 refine vL_rule (S := fun k : Nat => mkSt [(1, .ptr 1 0 0 0), (2, .ptr 2 0 0 0), (3, .ptr 3 0 0 0), (4, .p (.int .i64 k))]
   [(1, ⟨8, [.p (enc a)]⟩), (2, ⟨8, [.agg [.p (.int .i64 0), .nil, .p (.int .i64 0), .p (.int .i64 0), .p (.int .i64 0), .nil, .nil, .nil]]⟩),
    (3, ⟨8, [.agg [.p (.int .i64 a.ring.kind), .own 6 0 0 a.ring.parts.length, .p (.int .i64 a.i), .p (.int .i64 a.o), .p (.int .i64 a.st), .own 4 0 0 k, .own 5 0 0 k, .p (.sl (ens (tidT a.ring a.arcs)))]]⟩), (4, ⟨8, avs (a.ini.take k)⟩), (5, ⟨8, avs (a.fin.take k)⟩), (6, ⟨1, avs a.ring.parts⟩)])
  (I := fun k => k ≤ a.ini.length) (m := fun k => a.ini.length - k) 0
  ((Weak.nilCell (s0 := 3) (g0 := 0) (i := 5) (s := 77) (sz := 8) rfl).trans ((Weak.nilCell (s0 := 3) (g0 := 0) (i := 6) (s := 78) (sz := 8) rfl).trans (Weak.to [1, 2, 3, 4] [((1, 0), 1), ((2, 0), 2), ((3, 0), 3), ((77, 0), 4), ((78, 0), 5), ((11, 0), 6)] (by simp [go_sem])))) (by omega) ?_
 rintro k h6 R hn' hr hx
 have e1 : IntKind.i64.wrap ((k : Int) + 1) = ((k + 1 : Nat) : Int) := i64w (by omega) (by omega)
 by_cases hk : k < a.ini.length
 ·have hk2 : k < a.fin.length := by omega
  have hk3 : (k : Int) < a.st := by omega
  simp [g.ref17_Form_l1, mkSt, go_sem, hk, hk2, hk3]
  refine atP_get hk ?_
  try simp [go_sem]
  have m1 := List.getElem_mem hk
  have m2 := List.getElem_mem hk2
  refine callP_pure (take3_sp a.ring a.ini[k] ((h.ini _ m1).mono (by omega))) (by simp [go_sem]) ?_
  rw [tk_chk (ci _ m1)]
  simp [go_sem, hk, hk2]
  refine ⟨⟨by omega, by omega⟩, atP_get hk2 ?_⟩
  refine callP_pure (take3_sp a.ring a.fin[k] ((h.fin _ m2).mono (by omega))) (by simp [go_sem]) ?_
  rw [tk_chk (cf _ m2)]
  have t1 : avs (a.ini.take (k + 1)) = avs (a.ini.take k) ++ [.p (enc a.ini[k])] := by rw [List.take_succ_eq_append_getElem hk, avs_append]; rfl
  have t2 : avs (a.fin.take (k + 1)) = avs (a.fin.take k) ++ [.p (enc a.fin[k])] := by rw [List.take_succ_eq_append_getElem hk2, avs_append]; rfl
  simp [go_sem, e1]
  refine ⟨⟨by omega, by omega⟩, hn' (k + 1) _ (Weak.to [1, 2, 3, 4] [((1, 0), 1), ((2, 0), 2), ((3, 0), 3), ((42, 0), 4), ((54, 0), 5), ((6, 0), 6)] ?_) (by omega) (by omega)⟩
  simp [mkSt, go_sem, t1, t2]
 ·have : k = a.ini.length := by omega
  subst this
  have hk3 : ¬ (a.ini.length : Int) < a.st := by omega
  simp [g.ref17_Form_l1, mkSt, go_sem, hk3]
  refine hx _ _ ?_
  simp [go_sem, GTrans.nf, llf]
  rw [List.take_of_length_le (by rw [List.length_take]; exact Nat.min_le_left _ _), List.take_of_length_le (by omega)]
end Go.Ab
namespace Go.Ab
open Enc (enc)
attribute [local go_sem] optOpd Opd.slots
theorem inA_ok {t : GTrans} (h : t.ok) : t.inA.ok :=
 ⟨h.ring, h.i1.1, h.i1.2, h.st1, h.st2, h.il, h.fl, by simpa [GTrans.inA] using h.al, fun x hx => by
  obtain ⟨y, hy, rfl⟩ := List.mem_map.1 hx
  obtain ⟨a1, a2, a3, a4, a5, a6, a7, a8, a9⟩ := h.arcs y hy
  exact ⟨a1, a2, a3, a4, a5, a6, a9⟩, h.ini, h.fin⟩
theorem outA_ok {t : GTrans} (h : t.ok) : t.outA.ok :=
 ⟨h.ring, h.o1.1, h.o1.2, h.st1, h.st2, h.il, h.fl, by simpa [GTrans.outA] using h.al, fun x hx => by
  obtain ⟨y, hy, rfl⟩ := List.mem_map.1 hx
  obtain ⟨a1, a2, a3, a4, a5, a6, a7, a8, a9⟩ := h.arcs y hy
  exact ⟨a1, a2, a3, a4, a7, a8, a9⟩, h.ini, h.fin⟩
theorem inv_ok {t : GTrans} (h : t.ok) : t.inv.ok :=
 ⟨h.ring, h.o1, h.i1, h.st1, h.st2, h.il, h.fl, by simpa [GTrans.inv] using h.al, fun x hx => by
  obtain ⟨y, hy, rfl⟩ := List.mem_map.1 hx
  obtain ⟨a1, a2, a3, a4, a5, a6, a7, a8, a9⟩ := h.arcs y hy
  exact ⟨a1, a2, a3, a4, a7, a8, a5, a6, a9⟩, h.ini, h.fin⟩
theorem inv_inv (t : GTrans) : t.inv.inv = t := by
 cases t
 simp only [GTrans.inv, List.map_map]
 congr 1
 refine (List.map_congr_left fun x _ => ?_).trans (List.map_id _)
 cases x; rfl
theorem inv_iff {t : GTrans} : t.inv.ok ↔ t.ok := ⟨fun h => by have := inv_ok h; rwa [inv_inv] at this, inv_ok⟩
theorem idt_ok {a : GAuto} (h : a.ok) : a.idt.ok :=
 ⟨h.ring, ⟨h.sy1, h.sy2⟩, ⟨h.sy1, h.sy2⟩, h.st1, h.st2, h.il, h.fl, by simpa [GAuto.idt] using h.al, fun x hx => by
  obtain ⟨y, hy, rfl⟩ := List.mem_map.1 hx
  obtain ⟨a1, a2, a3, a4, a5, a6, a7⟩ := h.arcs y hy
  exact ⟨a1, a2, a3, a4, a5, a6, a5, a6, a7⟩, h.ini, h.fin⟩
theorem GTrans.sm.inA {t : GTrans} {n : Nat} (h : t.sm n) : t.inA.sm n := ⟨h.ini, h.fin, fun x hx => by obtain ⟨y, hy, rfl⟩ := List.mem_map.1 hx; exact h.arcs y hy⟩
theorem GTrans.sm.outA {t : GTrans} {n : Nat} (h : t.sm n) : t.outA.sm n := ⟨h.ini, h.fin, fun x hx => by obtain ⟨y, hy, rfl⟩ := List.mem_map.1 hx; exact h.arcs y hy⟩
theorem GTrans.sm.inv {t : GTrans} {n : Nat} (h : t.sm n) : t.inv.sm n := ⟨h.ini, h.fin, fun x hx => by obtain ⟨y, hy, rfl⟩ := List.mem_map.1 hx; exact h.arcs y hy⟩
theorem GAuto.sm.idt {a : GAuto} {n : Nat} (h : a.sm n) : a.idt.sm n := ⟨h.ini, h.fin, fun x hx => by obtain ⟨y, hy, rfl⟩ := List.mem_map.1 hx; exact h.arcs y hy⟩
theorem formA_ok {a : GAuto} (ok : a.ok) (n : Nat) (hn : n ≤ 90) (hn1 : 3 ≤ n) (h : a.sm n) (hl : a.arcs.length ≤ 19) : Sp P F.ref06_Form [enc a] (.pure (enc a.nf)) := by
 have := ok.il; have := ok.fl; have := ok.st2; have := ok_plen ok.ring
 exact form6_sp a n hn hn1 h hl (by omega) (by omega) (by omega) ok.ini ok.fin fun x hx => (ok.arcs x hx).2.2.2.2.2.2
theorem formT_ok {a : GTrans} (ok : a.ok) (n : Nat) (hn : n ≤ 90) (hn1 : 3 ≤ n) (h : a.sm n) (hl : a.arcs.length ≤ 19) : Sp P F.ref17_Form [enc a] (.pure (enc a.nf)) := by
 have := ok.st2; have := ok_plen ok.ring
 exact form17_sp a n hn hn1 h hl (by omega) (by omega) ok.il ok.fl ok.ini ok.fin fun x hx => (ok.arcs x hx).2.2.2.2.2.2.2.2
theorem side_in_sp (t : GTrans) (ok : t.ok) (n : Nat) (hn : n ≤ 90) (hn1 : 3 ≤ n) (h : t.sm n) (hl : t.arcs.length ≤ 19) : Sp P F.ref19_side [enc t, .bool false] (.pure (enc t.inA.nf)) := by
 have hf := formA_ok (inA_ok ok) n hn hn1 h.inA (by simpa [GTrans.inA] using hl)
 generalize t.inA.nf = v0 at *
 refine Sp.of_vm' c.ref19_side (by simp) fun _ => ?_
 simp [g.ref19_side, go_sem]
 refine vL_rule (S := fun k : Nat => mkSt [(1, .p (.bool false)), (2, .ptr 1 0 0 0), (4, .ptr 2 0 0 0), (5, .ptr 3 0 0 0), (6, .p (.int .i64 k))]
   [(1, ⟨8, [.p (enc t)]⟩), (2, ⟨7, [.agg [.p (.int .i64 0), .nil, .p (.int .i64 0), .p (.int .i64 0), .nil, .nil, .nil]]⟩), (3, ⟨7, [.agg [.p (.int .i64 t.ring.kind), .p (.sl (ens t.ring.parts)), .p (.int .i64 t.i), .p (.int .i64 t.st), .p (.sl (ens t.ini)), .p (.sl (ens t.fin)), .own 4 0 0 k]]⟩), (4, ⟨11, avs ((t.arcs.map (labA GTArc.i)).take k)⟩)])
  (I := fun k => k ≤ t.arcs.length) (m := fun k => t.arcs.length - k) 0
  ((Weak.nilCell (s0 := 5) (g0 := 0) (i := 6) (s := 77) (sz := 11) rfl).trans (Weak.to [1, 2, 4, 5, 6] [((2, 0), 1), ((4, 0), 2), ((5, 0), 3), ((77, 0), 4)] (by simp [go_sem]))) (by omega) ?_
 rintro k h6 R hn' hr hx
 have e1 : IntKind.i64.wrap ((k : Int) + 1) = ((k + 1 : Nat) : Int) := i64w (by omega) (by omega)
 by_cases hk : k < t.arcs.length
 ·simp [g.ref19_side_l1, mkSt, go_sem, hk]
  refine atP_get hk ?_
  have hts : avs ((t.arcs.map (labA GTArc.i)).take (k + 1)) = avs ((t.arcs.map (labA GTArc.i)).take k) ++ [.p (enc (labA GTArc.i t.arcs[k]))] := by
   rw [List.take_succ_eq_append_getElem (by simpa using hk), avs_append]; simp [go_sem]
  try simp [go_sem, e1]
  try rw [e1]
  exact ⟨⟨by omega, by omega⟩, hn' (k + 1) _ (Weak.to [1, 2, 4, 5, 6] [((1, 0), 1), ((2, 0), 2), ((3, 0), 3), ((52, 0), 4)] (by simp [mkSt, go_sem, hts, labA])) (by omega) (by omega)⟩
 ·have : k = t.arcs.length := by omega
  subst this
  have hts : (t.arcs.map (labA GTArc.i)).take t.arcs.length = t.arcs.map (labA GTArc.i) := List.take_of_length_le (by simp)
  simp [g.ref19_side_l1, mkSt, go_sem]
  refine hx _ _ ?_
  simp [go_sem]
  refine callP_pure hf (by simp [go_sem, hts, GTrans.inA]) ?_
  simp [go_sem]
theorem side_out_sp (t : GTrans) (ok : t.ok) (n : Nat) (hn : n ≤ 90) (hn1 : 3 ≤ n) (h : t.sm n) (hl : t.arcs.length ≤ 19) : Sp P F.ref19_side [enc t, .bool true] (.pure (enc t.outA.nf)) := by
 have hf := formA_ok (outA_ok ok) n hn hn1 h.outA (by simpa [GTrans.outA] using hl)
 generalize t.outA.nf = v0 at *
 refine Sp.of_vm' c.ref19_side (by simp) fun _ => ?_
 simp [g.ref19_side, go_sem]
 refine vL_rule (S := fun k : Nat => mkSt [(1, .p (.bool true)), (2, .ptr 1 0 0 0), (4, .ptr 2 0 0 0), (5, .ptr 3 0 0 0), (6, .p (.int .i64 k))]
   [(1, ⟨8, [.p (enc t)]⟩), (2, ⟨7, [.agg [.p (.int .i64 0), .nil, .p (.int .i64 0), .p (.int .i64 0), .nil, .nil, .nil]]⟩), (3, ⟨7, [.agg [.p (.int .i64 t.ring.kind), .p (.sl (ens t.ring.parts)), .p (.int .i64 t.o), .p (.int .i64 t.st), .p (.sl (ens t.ini)), .p (.sl (ens t.fin)), .own 4 0 0 k]]⟩), (4, ⟨11, avs ((t.arcs.map (labA GTArc.o)).take k)⟩)])
  (I := fun k => k ≤ t.arcs.length) (m := fun k => t.arcs.length - k) 0
  ((Weak.nilCell (s0 := 5) (g0 := 0) (i := 6) (s := 77) (sz := 11) rfl).trans (Weak.to [1, 2, 4, 5, 6] [((2, 0), 1), ((4, 0), 2), ((5, 0), 3), ((77, 0), 4)] (by simp [go_sem]))) (by omega) ?_
 rintro k h6 R hn' hr hx
 have e1 : IntKind.i64.wrap ((k : Int) + 1) = ((k + 1 : Nat) : Int) := i64w (by omega) (by omega)
 by_cases hk : k < t.arcs.length
 ·simp [g.ref19_side_l1, mkSt, go_sem, hk]
  refine atP_get hk ?_
  have hts : avs ((t.arcs.map (labA GTArc.o)).take (k + 1)) = avs ((t.arcs.map (labA GTArc.o)).take k) ++ [.p (enc (labA GTArc.o t.arcs[k]))] := by
   rw [List.take_succ_eq_append_getElem (by simpa using hk), avs_append]; simp [go_sem]
  try simp [go_sem, e1]
  try rw [e1]
  exact ⟨⟨by omega, by omega⟩, hn' (k + 1) _ (Weak.to [1, 2, 4, 5, 6] [((1, 0), 1), ((2, 0), 2), ((3, 0), 3), ((52, 0), 4)] (by simp [mkSt, go_sem, hts, labA])) (by omega) (by omega)⟩
 ·have : k = t.arcs.length := by omega
  subst this
  have hts : (t.arcs.map (labA GTArc.o)).take t.arcs.length = t.arcs.map (labA GTArc.o) := List.take_of_length_le (by simp)
  simp [g.ref19_side_l1, mkSt, go_sem]
  refine hx _ _ ?_
  simp [go_sem]
  refine callP_pure hf (by simp [go_sem, hts, GTrans.outA]) ?_
  simp [go_sem]
theorem input19_sp (t : GTrans) (n : Nat) (hn : n ≤ 90) (hn1 : 3 ≤ n) (h : t.sm n) (hl : t.arcs.length ≤ 19) (li : t.ini.length ≤ 1000000) (lf : t.fin.length ≤ 1000000) : Sp P F.ref19_Input [enc t] (.pure (.tup [enc (sideV t t.inA), .int .i64 (sideE t t.inA)])) := by
 refine Sp.of_vm' c.ref19_Input (by simp) fun _ => ?_
 simp [g.ref19_Input, go_sem]
 refine callP_pure (valid17_sp t (h.mono (by omega)) li lf) (by simp [go_sem]) ?_
 by_cases ok : t.ok
 rotate_left
 ·rw [decide_eq_false ok]; simp [go_sem, sideV, sideE, ok, gauto0]
 have hv := GAuto.vb_iff.2 (inA_ok ok)
 rw [decide_eq_true ok]
 simp [go_sem, sideV, sideE, ok, hv]
 refine callP_pure (side_in_sp t ok n hn hn1 h hl) (by simp [go_sem]) ?_
 simp [go_sem]
theorem output19_sp (t : GTrans) (n : Nat) (hn : n ≤ 90) (hn1 : 3 ≤ n) (h : t.sm n) (hl : t.arcs.length ≤ 19) (li : t.ini.length ≤ 1000000) (lf : t.fin.length ≤ 1000000) : Sp P F.ref19_Output [enc t] (.pure (.tup [enc (sideV t t.outA), .int .i64 (sideE t t.outA)])) := by
 refine Sp.of_vm' c.ref19_Output (by simp) fun _ => ?_
 simp [g.ref19_Output, go_sem]
 refine callP_pure (valid17_sp t (h.mono (by omega)) li lf) (by simp [go_sem]) ?_
 by_cases ok : t.ok
 rotate_left
 ·rw [decide_eq_false ok]; simp [go_sem, sideV, sideE, ok, gauto0]
 have hv := GAuto.vb_iff.2 (outA_ok ok)
 rw [decide_eq_true ok]
 simp [go_sem, sideV, sideE, ok, hv]
 refine callP_pure (side_out_sp t ok n hn hn1 h hl) (by simp [go_sem]) ?_
 simp [go_sem]
theorem invert19_sp (t : GTrans) (n : Nat) (hn : n ≤ 90) (hn1 : 3 ≤ n) (h : t.sm n) (hl : t.arcs.length ≤ 19) (li : t.ini.length ≤ 1000000) (lf : t.fin.length ≤ 1000000) : Sp P F.ref19_Invert [enc t] (.pure (.tup [enc (trV t.inv), .int .i64 (trE t.inv)])) := by
 refine Sp.of_vm' c.ref19_Invert (by simp) fun _ => ?_
 simp [g.ref19_Invert, go_sem]
 refine callP_pure (valid17_sp t (h.mono (by omega)) li lf) (by simp [go_sem]) ?_
 by_cases ok : t.ok
 rotate_left
 ·rw [decide_eq_false ok]; simp [go_sem, trV, trE, inv_iff, ok, gtrans0]
 have hf := formT_ok (inv_ok ok) n hn hn1 h.inv (by simpa [GTrans.inv] using hl)
 rw [decide_eq_true ok]
 simp [go_sem, trV, trE, inv_iff, ok]
 generalize t.inv.nf = v0 at *
 refine vL_rule (S := fun k : Nat => mkSt [(1, .ptr 1 0 0 0), (2, .ptr 2 0 0 0), (4, .ptr 3 0 0 0), (5, .p (.int .i64 k))]
   [(1, ⟨8, [.p (enc t)]⟩), (2, ⟨8, [.agg [.p (.int .i64 0), .nil, .p (.int .i64 0), .p (.int .i64 0), .p (.int .i64 0), .nil, .nil, .nil]]⟩), (3, ⟨8, [.agg [.p (.int .i64 t.ring.kind), .p (.sl (ens t.ring.parts)), .p (.int .i64 t.o), .p (.int .i64 t.i), .p (.int .i64 t.st), .p (.sl (ens t.ini)), .p (.sl (ens t.fin)), .own 4 0 0 k]]⟩), (4, ⟨12, avs ((t.arcs.map swT).take k)⟩)])
  (I := fun k => k ≤ t.arcs.length) (m := fun k => t.arcs.length - k) 0
  ((Weak.nilCell (s0 := 4) (g0 := 0) (i := 7) (s := 77) (sz := 12) rfl).trans (Weak.to [1, 2, 4, 5] [((1, 0), 1), ((2, 0), 2), ((4, 0), 3), ((77, 0), 4)] (by simp [go_sem]))) (by omega) ?_
 rintro k h6 R hn' hr hx
 have e1 : IntKind.i64.wrap ((k : Int) + 1) = ((k + 1 : Nat) : Int) := i64w (by omega) (by omega)
 by_cases hk : k < t.arcs.length
 ·simp [g.ref19_Invert_l1, mkSt, go_sem, hk]
  refine atP_get hk ?_
  have hts : avs ((t.arcs.map swT).take (k + 1)) = avs ((t.arcs.map swT).take k) ++ [.p (enc (swT t.arcs[k]))] := by
   rw [List.take_succ_eq_append_getElem (by simpa using hk), avs_append]; simp [go_sem]
  try rw [e1]
  exact ⟨⟨by omega, by omega⟩, hn' (k + 1) _ (Weak.to [1, 2, 4, 5] [((1, 0), 1), ((2, 0), 2), ((3, 0), 3), ((45, 0), 4)] (by simp [mkSt, go_sem, hts, swT])) (by omega) (by omega)⟩
 ·have : k = t.arcs.length := by omega
  subst this
  have hts : (t.arcs.map swT).take t.arcs.length = t.arcs.map swT := List.take_of_length_le (by simp)
  simp [g.ref19_Invert_l1, mkSt, go_sem]
  refine hx _ _ ?_
  simp [go_sem]
  refine callP_pure hf (by simp [go_sem, hts, GTrans.inv]) ?_
  simp [go_sem]
theorem identity19_sp (t : GAuto) (n : Nat) (hn : n ≤ 90) (hn1 : 3 ≤ n) (h : t.sm n) (hl : t.arcs.length ≤ 19) (li : t.ini.length ≤ 1000000) (lf : t.fin.length ≤ 1000000) : Sp P F.ref19_Identity [enc t] (.pure (.tup [enc (if t.vb then trV t.idt else gtrans0), .int .i64 (if t.vb then trE t.idt else 4)])) := by
 refine Sp.of_vm' c.ref19_Identity (by simp) fun _ => ?_
 simp [g.ref19_Identity, go_sem]
 refine callP_pure (valid6_sp t (h.mono (by omega)) li lf) (by simp [go_sem]) ?_
 cases hv : t.vb
 ·simp [go_sem, gtrans0]
 have ok := GAuto.vb_iff.1 hv
 have hf := formT_ok (idt_ok ok) n hn hn1 h.idt (by simpa [GAuto.idt] using hl)
 simp [go_sem, trV, trE, idt_ok ok]
 generalize t.idt.nf = v0 at *
 refine vL_rule (S := fun k : Nat => mkSt [(1, .ptr 1 0 0 0), (2, .ptr 2 0 0 0), (4, .ptr 3 0 0 0), (5, .p (.int .i64 k))]
   [(1, ⟨7, [.p (enc t)]⟩), (2, ⟨8, [.agg [.p (.int .i64 0), .nil, .p (.int .i64 0), .p (.int .i64 0), .p (.int .i64 0), .nil, .nil, .nil]]⟩), (3, ⟨8, [.agg [.p (.int .i64 t.ring.kind), .p (.sl (ens t.ring.parts)), .p (.int .i64 t.sy), .p (.int .i64 t.sy), .p (.int .i64 t.st), .p (.sl (ens t.ini)), .p (.sl (ens t.fin)), .own 4 0 0 k]]⟩), (4, ⟨12, avs ((t.arcs.map idT).take k)⟩)])
  (I := fun k => k ≤ t.arcs.length) (m := fun k => t.arcs.length - k) 0
  ((Weak.nilCell (s0 := 4) (g0 := 0) (i := 7) (s := 77) (sz := 12) rfl).trans (Weak.to [1, 2, 4, 5] [((1, 0), 1), ((2, 0), 2), ((4, 0), 3), ((77, 0), 4)] (by simp [go_sem]))) (by omega) ?_
 rintro k h6 R hn' hr hx
 have e1 : IntKind.i64.wrap ((k : Int) + 1) = ((k + 1 : Nat) : Int) := i64w (by omega) (by omega)
 by_cases hk : k < t.arcs.length
 ·simp [g.ref19_Identity_l1, mkSt, go_sem, hk]
  refine atP_get hk ?_
  have hts : avs ((t.arcs.map idT).take (k + 1)) = avs ((t.arcs.map idT).take k) ++ [.p (enc (idT t.arcs[k]))] := by
   rw [List.take_succ_eq_append_getElem (by simpa using hk), avs_append]; simp [go_sem]
  try rw [e1]
  exact ⟨⟨by omega, by omega⟩, hn' (k + 1) _ (Weak.to [1, 2, 4, 5] [((1, 0), 1), ((2, 0), 2), ((3, 0), 3), ((50, 0), 4)] (by simp [mkSt, go_sem, hts, idT])) (by omega) (by omega)⟩
 ·have : k = t.arcs.length := by omega
  subst this
  have hts : (t.arcs.map idT).take t.arcs.length = t.arcs.map idT := List.take_of_length_le (by simp)
  simp [g.ref19_Identity_l1, mkSt, go_sem]
  refine hx _ _ ?_
  simp [go_sem]
  refine callP_pure hf (by simp [go_sem, hts, GAuto.idt]) ?_
  simp [go_sem]
end Go.Ab
namespace Go.Ab
open Enc (enc)
attribute [local go_sem] optOpd Opd.slots
theorem GW.ind {M : GW -> Prop} (h : ∀ v, (∀ w ∈ v.parts, M w) -> M v) : ∀ v, M v
 | .mk q c i s p ps => h _ fun w hw => by
  have : SizeOf.sizeOf w < SizeOf.sizeOf ps := List.sizeOf_lt_of_mem hw
  exact GW.ind h w
termination_by v => SizeOf.sizeOf v
decreasing_by simp only [GW.mk.sizeOf_spec]; omega
inductive GW.lt : GW -> Prop
 | mk {q : GRat} {c : Int} {i : Bool} {s : UInt64} {p : List GMono} {ps : List GW} : q.sm 3 -> p.length ≤ 8 -> ps.length ≤ 4 -> psm p 2 -> (∀ w ∈ ps, GW.lt w) -> GW.lt (.mk q c i s p ps)
theorem GW.lt_iff {w : GW} : w.lt ↔ w.q.sm 3 ∧ w.poly.length ≤ 8 ∧ w.parts.length ≤ 4 ∧ psm w.poly 2 ∧ ∀ x ∈ w.parts, x.lt := by
 constructor
 ·intro h; cases h with | mk a b c d e => exact ⟨a, b, c, d, e⟩
 ·cases w; rintro ⟨a, b, c, d, e⟩; exact .mk a b c d e
theorem GW.lt_sm : ∀ w : GW, w.lt -> w.sm 8 := by
 refine GW.ind fun v ih h => ?_
 obtain ⟨a, b, c, d, e⟩ := GW.lt_iff.1 h
 cases v with
 | mk q c' i s p ps => exact .mk (a.monoR (by omega)) (d.monoR (by omega)) b (Nat.le_trans c (by omega)) fun x hx => ih x hx (e x hx)
noncomputable instance (w : GW) : Decidable w.lt := Classical.propDecidable _
theorem light_sp : ∀ w : GW, Sp P F.made_Light [enc w] (.pure (.bool (decide w.lt))) := by
 refine GW.ind fun v ih => ?_
 refine Sp.of_vm' c.made_Light (by simp) fun hok => ?_
 simp [g.made_Light, go_sem]
 refine callP_pure (light1_sp v.q 3) (by simp [go_sem]) ?_
 by_cases h1 : v.q.num.length ≤ 3 ∧ v.q.den.length ≤ 3
 rotate_left
 ·rw [decide_eq_false h1]; simp [go_sem]; exact fun h => h1 (GW.lt_iff.1 h).1
 rw [decide_eq_true h1]; simp [go_sem]
 refine ⟨fun h2 h => by have := (GW.lt_iff.1 h).2.1; omega, fun h2 => ⟨fun h3 h => by have := (GW.lt_iff.1 h).2.2.1; omega, fun h3 => ?_⟩⟩
 refine vL_rule (S := fun k : Nat => mkSt [(1, .ptr 1 0 0 0), (3, .p (.int .i64 k))] [(1, ⟨8, [.p (enc v)]⟩)]) (I := fun k => k ≤ v.poly.length ∧ ∀ i, (hi : i < v.poly.length) -> i < k -> v.poly[i].coef.sm 2) (m := fun k => v.poly.length - k) 0
  (Weak.to [1, 3] [((1, 0), 1)] (by simp [go_sem])) ⟨by omega, fun i _ h0 => by omega⟩ ?_
 rintro k ⟨h6, h7⟩ R hn hr' hx
 have e1 : IntKind.i64.wrap ((k : Int) + 1) = ((k + 1 : Nat) : Int) := i64w (by omega) (by omega)
 by_cases hk : k < v.poly.length
 ·simp [g.made_Light_l1, mkSt, go_sem, hk]
  refine atP_get hk ?_
  refine callP_pure (light1_sp v.poly[k].coef 2) (by simp [go_sem]) ?_
  by_cases hc : v.poly[k].coef.num.length ≤ 2 ∧ v.poly[k].coef.den.length ≤ 2
  ·rw [decide_eq_true hc]; simp [go_sem, e1]
   refine hn (k + 1) _ (Weak.to [1, 3] [((1, 0), 1)] (by simp [mkSt, go_sem])) ⟨by omega, fun i hi h0 => ?_⟩ (by omega)
   by_cases hik : i < k
   ·exact h7 i hi hik
   ·have : i = k := by omega
    subst this; exact hc
  ·rw [decide_eq_false hc]; simp [go_sem]
   refine hr' _ ?_
   simp [go_sem]
   exact fun h => hc ((GW.lt_iff.1 h).2.2.2.1 _ (List.getElem_mem hk))
 ·have h8 : psm v.poly 2 := fun x hx => by
   obtain ⟨i, hi, rfl⟩ := List.mem_iff_getElem.1 hx
   exact h7 i hi (by omega)
  simp [g.made_Light_l1, mkSt, go_sem, hk]
  refine hx _ _ ?_
  simp [go_sem]
  refine vL_rule (S := fun k : Nat => mkSt [(1, .ptr 1 0 0 0), (4, .p (.int .i64 k))] [(1, ⟨8, [.p (enc v)]⟩)]) (I := fun k => k ≤ v.parts.length ∧ ∀ i, (hi : i < v.parts.length) -> i < k -> v.parts[i].lt) (m := fun k => v.parts.length - k) 0
   (Weak.to [1, 4] [((1, 0), 1)] (by simp [go_sem])) ⟨by omega, fun i _ h0 => by omega⟩ ?_
  rintro k2 ⟨g6, g7⟩ R2 hn2 hr2 hx2
  have e2 : IntKind.i64.wrap ((k2 : Int) + 1) = ((k2 + 1 : Nat) : Int) := i64w (by omega) (by omega)
  by_cases hk2 : k2 < v.parts.length
  ·simp [g.made_Light_l2, mkSt, go_sem, hk2]
   refine atP_get hk2 ?_
   refine callP_pure (ih _ (List.getElem_mem hk2)) (by simp [go_sem]) ?_
   by_cases hc : v.parts[k2].lt
   ·rw [decide_eq_true hc]; simp [go_sem, e2]
    refine hn2 (k2 + 1) _ (Weak.to [1, 4] [((1, 0), 1)] (by simp [mkSt, go_sem])) ⟨by omega, fun i hi h0 => ?_⟩ (by omega)
    by_cases hik : i < k2
    ·exact g7 i hi hik
    ·have : i = k2 := by omega
     subst this; exact hc
   ·rw [decide_eq_false hc]; simp [go_sem]
    refine hr2 _ ?_
    simp [go_sem]
    exact fun h => hc ((GW.lt_iff.1 h).2.2.2.2 _ (List.getElem_mem hk2))
  ·have h9 : ∀ x ∈ v.parts, x.lt := fun x hx => by
    obtain ⟨i, hi, rfl⟩ := List.mem_iff_getElem.1 hx
    exact g7 i hi (by omega)
   simp [g.made_Light_l2, mkSt, go_sem, hk2]
   refine hx2 _ _ ?_
   simp [go_sem]
   exact GW.lt_iff.2 ⟨h1, by omega, by omega, h8, h9⟩
theorem lightList_sp (l : List GW) (m : Nat) (hm : m ≤ 1000000) : Sp P F.made_LightList [.sl (ens l), .int .i64 m] (.pure (.bool (decide (l.length ≤ m ∧ ∀ w ∈ l, w.lt)))) := by
 refine Sp.of_vm' c.made_LightList (by simp) fun hok => ?_
 by_cases h1 : l.length ≤ m
 rotate_left
 ·have : ¬ (l.length : Int) ≤ m := by omega
  simp [g.made_LightList, go_sem, h1]
 have h1' : ¬ (m : Int) < l.length := by omega
 simp [g.made_LightList, go_sem, h1, h1']
 refine vL_rule (S := fun k : Nat => mkSt [(0, .p (.sl (ens l))), (5, .p (.int .i64 k))] []) (I := fun k => k ≤ l.length ∧ ∀ i, (hi : i < l.length) -> i < k -> l[i].lt) (m := fun k => l.length - k) 0
  (Weak.to [0, 5] [] (by simp [go_sem])) ⟨by omega, fun i _ h0 => by omega⟩ ?_
 rintro k ⟨h6, h7⟩ R hn hr' hx
 have e1 : IntKind.i64.wrap ((k : Int) + 1) = ((k + 1 : Nat) : Int) := i64w (by omega) (by omega)
 by_cases hk : k < l.length
 ·simp [g.made_LightList_l1, mkSt, go_sem, hk]
  refine atP_get hk ?_
  try simp [go_sem]
  refine callP_pure (light_sp l[k]) (by simp [go_sem]) ?_
  by_cases hc : l[k].lt
  ·rw [decide_eq_true hc]; simp [go_sem, e1]
   refine hn (k + 1) _ (Weak.to [0, 5] [] (by simp [mkSt, go_sem])) ⟨by omega, fun i hi h0 => ?_⟩ (by omega)
   by_cases hik : i < k
   ·exact h7 i hi hik
   ·have : i = k := by omega
    subst this; exact hc
  ·rw [decide_eq_false hc]; simp [go_sem]
   refine hr' _ ?_
   simp [go_sem]
   exact ⟨_, List.getElem_mem hk, hc⟩
 ·have h9 : ∀ x ∈ l, x.lt := fun x hx => by
   obtain ⟨i, hi, rfl⟩ := List.mem_iff_getElem.1 hx
   exact h7 i hi (by omega)
  simp [g.made_LightList_l1, mkSt, go_sem, hk]
  refine hx _ _ ?_
  simp [go_sem]
  exact h9
theorem lightRing_sp (r : GRing) : Sp P F.made_LightRing [enc r] (.pure (.bool (decide (r.parts.length ≤ 6)))) := by
 refine Sp.of_vm' c.made_LightRing (by simp) fun hok => ?_
 simp [g.made_LightRing, go_sem]
 omega
end Go.Ab
namespace Go.Ab
open Enc (enc)
attribute [local go_sem] optOpd Opd.slots
structure GAuto.lt (a : GAuto) : Prop where
 ring : a.ring.parts.length ≤ 6
 ini : a.ini.length ≤ 6 ∧ ∀ w ∈ a.ini, w.lt
 fin : a.fin.length ≤ 6 ∧ ∀ w ∈ a.fin, w.lt
 al : a.arcs.length ≤ 16
 arcs : ∀ x ∈ a.arcs, x.w.lt
noncomputable instance (a : GAuto) : Decidable a.lt := Classical.propDecidable _
theorem GAuto.lt.sm {a : GAuto} (h : a.lt) : a.sm 8 := ⟨fun w hw => GW.lt_sm _ (h.ini.2 w hw), fun w hw => GW.lt_sm _ (h.fin.2 w hw), fun x hx => GW.lt_sm _ (h.arcs x hx)⟩
theorem lightAuto_sp (a : GAuto) : Sp P F.made_LightAuto [enc a] (.pure (.bool (decide a.lt))) := by
 refine Sp.of_vm' c.made_LightAuto (by simp) fun hok => ?_
 simp [g.made_LightAuto, go_sem]
 refine callP_pure (lightRing_sp a.ring) (by simp [go_sem]) ?_
 by_cases h1 : a.ring.parts.length ≤ 6
 rotate_left
 ·rw [decide_eq_false h1]; simp [go_sem]; exact fun h => h1 h.ring
 rw [decide_eq_true h1]; simp [go_sem]
 refine callP_pure (lightList_sp a.ini 6 (by omega)) (by simp [go_sem]) ?_
 by_cases h2 : a.ini.length ≤ 6 ∧ ∀ w ∈ a.ini, w.lt
 rotate_left
 ·rw [decide_eq_false h2]; simp [go_sem]; exact fun h => h2 h.ini
 rw [decide_eq_true h2]; simp [go_sem]
 refine callP_pure (lightList_sp a.fin 6 (by omega)) (by simp [go_sem]) ?_
 by_cases h3 : a.fin.length ≤ 6 ∧ ∀ w ∈ a.fin, w.lt
 rotate_left
 ·rw [decide_eq_false h3]; simp [go_sem]; exact fun h => h3 h.fin
 rw [decide_eq_true h3]; simp [go_sem]
 refine ⟨fun h4 h => by have := h.al; omega, fun h4 => ?_⟩
 refine vL_rule (S := fun k : Nat => mkSt [(1, .ptr 1 0 0 0), (3, .p (.int .i64 k))] [(1, ⟨7, [.p (enc a)]⟩)]) (I := fun k => k ≤ a.arcs.length ∧ ∀ i, (hi : i < a.arcs.length) -> i < k -> a.arcs[i].w.lt) (m := fun k => a.arcs.length - k) 0
  (Weak.to [1, 3] [((1, 0), 1)] (by simp [go_sem])) ⟨by omega, fun i _ h0 => by omega⟩ ?_
 rintro k ⟨h6, h7⟩ R hn hr' hx
 have e1 : IntKind.i64.wrap ((k : Int) + 1) = ((k + 1 : Nat) : Int) := i64w (by omega) (by omega)
 by_cases hk : k < a.arcs.length
 ·simp [g.made_LightAuto_l1, mkSt, go_sem, hk]
  refine atP_get hk ?_
  try simp [go_sem]
  refine callP_pure (light_sp a.arcs[k].w) (by simp [go_sem]) ?_
  by_cases hc : a.arcs[k].w.lt
  ·rw [decide_eq_true hc]; simp [go_sem, e1]
   refine hn (k + 1) _ (Weak.to [1, 3] [((1, 0), 1)] (by simp [mkSt, go_sem])) ⟨by omega, fun i hi h0 => ?_⟩ (by omega)
   by_cases hik : i < k
   ·exact h7 i hi hik
   ·have : i = k := by omega
    subst this; exact hc
  ·rw [decide_eq_false hc]; simp [go_sem]
   refine hr' _ ?_
   simp [go_sem]
   exact fun h => hc (h.arcs _ (List.getElem_mem hk))
 ·have h9 : ∀ x ∈ a.arcs, x.w.lt := fun x hx => by
   obtain ⟨i, hi, rfl⟩ := List.mem_iff_getElem.1 hx
   exact h7 i hi (by omega)
  simp [g.made_LightAuto_l1, mkSt, go_sem, hk]
  refine hx _ _ ?_
  simp [go_sem]
  exact ⟨h1, h2, h3, by omega, h9⟩
structure GTrans.lt (a : GTrans) : Prop where
 ring : a.ring.parts.length ≤ 6
 ini : a.ini.length ≤ 5 ∧ ∀ w ∈ a.ini, w.lt
 fin : a.fin.length ≤ 5 ∧ ∀ w ∈ a.fin, w.lt
 al : a.arcs.length ≤ 12
 arcs : ∀ x ∈ a.arcs, x.w.lt
noncomputable instance (a : GTrans) : Decidable a.lt := Classical.propDecidable _
theorem GTrans.lt.sm {a : GTrans} (h : a.lt) : a.sm 8 := ⟨fun w hw => GW.lt_sm _ (h.ini.2 w hw), fun w hw => GW.lt_sm _ (h.fin.2 w hw), fun x hx => GW.lt_sm _ (h.arcs x hx)⟩
theorem lightTrans_sp (a : GTrans) : Sp P F.made_LightTrans [enc a] (.pure (.bool (decide a.lt))) := by
 refine Sp.of_vm' c.made_LightTrans (by simp) fun hok => ?_
 simp [g.made_LightTrans, go_sem]
 refine callP_pure (lightRing_sp a.ring) (by simp [go_sem]) ?_
 by_cases h1 : a.ring.parts.length ≤ 6
 rotate_left
 ·rw [decide_eq_false h1]; simp [go_sem]; exact fun h => h1 h.ring
 rw [decide_eq_true h1]; simp [go_sem]
 refine callP_pure (lightList_sp a.ini 5 (by omega)) (by simp [go_sem]) ?_
 by_cases h2 : a.ini.length ≤ 5 ∧ ∀ w ∈ a.ini, w.lt
 rotate_left
 ·rw [decide_eq_false h2]; simp [go_sem]; exact fun h => h2 h.ini
 rw [decide_eq_true h2]; simp [go_sem]
 refine callP_pure (lightList_sp a.fin 5 (by omega)) (by simp [go_sem]) ?_
 by_cases h3 : a.fin.length ≤ 5 ∧ ∀ w ∈ a.fin, w.lt
 rotate_left
 ·rw [decide_eq_false h3]; simp [go_sem]; exact fun h => h3 h.fin
 rw [decide_eq_true h3]; simp [go_sem]
 refine ⟨fun h4 h => by have := h.al; omega, fun h4 => ?_⟩
 refine vL_rule (S := fun k : Nat => mkSt [(1, .ptr 1 0 0 0), (3, .p (.int .i64 k))] [(1, ⟨8, [.p (enc a)]⟩)]) (I := fun k => k ≤ a.arcs.length ∧ ∀ i, (hi : i < a.arcs.length) -> i < k -> a.arcs[i].w.lt) (m := fun k => a.arcs.length - k) 0
  (Weak.to [1, 3] [((1, 0), 1)] (by simp [go_sem])) ⟨by omega, fun i _ h0 => by omega⟩ ?_
 rintro k ⟨h6, h7⟩ R hn hr' hx
 have e1 : IntKind.i64.wrap ((k : Int) + 1) = ((k + 1 : Nat) : Int) := i64w (by omega) (by omega)
 by_cases hk : k < a.arcs.length
 ·simp [g.made_LightTrans_l1, mkSt, go_sem, hk]
  refine atP_get hk ?_
  try simp [go_sem]
  refine callP_pure (light_sp a.arcs[k].w) (by simp [go_sem]) ?_
  by_cases hc : a.arcs[k].w.lt
  ·rw [decide_eq_true hc]; simp [go_sem, e1]
   refine hn (k + 1) _ (Weak.to [1, 3] [((1, 0), 1)] (by simp [mkSt, go_sem])) ⟨by omega, fun i hi h0 => ?_⟩ (by omega)
   by_cases hik : i < k
   ·exact h7 i hi hik
   ·have : i = k := by omega
    subst this; exact hc
  ·rw [decide_eq_false hc]; simp [go_sem]
   refine hr' _ ?_
   simp [go_sem]
   exact fun h => hc (h.arcs _ (List.getElem_mem hk))
 ·have h9 : ∀ x ∈ a.arcs, x.w.lt := fun x hx => by
   obtain ⟨i, hi, rfl⟩ := List.mem_iff_getElem.1 hx
   exact h7 i hi (by omega)
  simp [g.made_LightTrans_l1, mkSt, go_sem, hk]
  refine hx _ _ ?_
  simp [go_sem]
  exact ⟨h1, h2, h3, by omega, h9⟩
end Go.Ab
namespace Go.Ab
open Enc (enc)
attribute [local go_sem] optOpd Opd.slots
def aw1 : GW := .mk (rto 1) 0 false 0 [] []
def aw2 : GW := .mk (rto 2) 0 false 0 [] []
def ar1 : GRing := ⟨1, []⟩
theorem one_ar1 : ar1.one = aw1 := by simp [GRing.one, ar1, GRing.ok, aw1, oneW]
theorem w1_chk : aw1.chk ar1 := ⟨rfl, fun _ => si1.2 ⟨rfl, rfl, rfl, rfl, rfl, rto_valid 1⟩, fun h => by cases h⟩
theorem w1_sm : aw1.sm 3 := .one 1 ⟨Nat.le_trans rto1_sm.1 (by omega), Nat.le_trans rto1_sm.2 (by omega)⟩ (psm_nil 3) (by simp)
theorem w11 : ar1.plus aw1 aw1 = aw2 := by
 have : ar1.plus aw1 aw1 = plusW 1 aw1 aw1 := rfl
 rw [this]
 simp only [plusW, if_true, aw1, aw2, GW.q_mk, v_rto]
 congr 2
 exact (by decide +kernel : (1 : Rat) + 1 = 2)
theorem w2_ne : aw2 ≠ ar1.zero := by
 have : ar1.zero = .mk gr0 0 false 0 [] [] := by simp [GRing.zero, ar1, GRing.ok]
 rw [this]
 intro h
 simp only [aw2, GW.mk.injEq] at h
 have h1 := congrArg GRat.v h.1
 rw [v_rto, gr0_v] at h1
 exact absurd h1 (by decide)
def at0 : GTrans := ⟨ar1, 1, 3, 1, [aw1], [aw1], [⟨0, 1, 2, 0, aw1⟩, ⟨0, 1, 3, 0, aw1⟩]⟩
theorem t0_ok : at0.ok := by
 refine ⟨rfl, by decide, by decide, by decide, by decide, rfl, rfl, by decide, ?_, ?_, ?_⟩
 ·intro x hx
  simp only [at0, List.mem_cons, List.not_mem_nil, or_false] at hx
  rcases hx with rfl | rfl
  ·exact ⟨by decide, by decide, by decide, by decide, by decide, by decide, by decide, by decide, w1_chk⟩
  ·exact ⟨by decide, by decide, by decide, by decide, by decide, by decide, by decide, by decide, w1_chk⟩
 ·intro w hw; simp [at0] at hw; subst hw; exact w1_chk
 ·intro w hw; simp [at0] at hw; subst hw; exact w1_chk
theorem t0_sm : at0.sm 3 := by
 refine ⟨?_, ?_, ?_⟩
 ·intro w hw; simp [at0] at hw; subst hw; exact w1_sm
 ·intro w hw; simp [at0] at hw; subst hw; exact w1_sm
 ·intro x hx
  simp only [at0, List.mem_cons, List.not_mem_nil, or_false] at hx
  rcases hx with rfl | rfl <;> exact w1_sm
theorem t0_tid : tidA ar1 (at0.arcs.map (labA GTArc.i)) = [⟨0, 1, 0, aw2⟩] := by
 have : mrg GArc.key (upA ar1) id (srt GArc.key (at0.arcs.map (labA GTArc.i))) = [⟨0, 1, 0, ar1.plus aw1 aw1⟩] := by
  simp [at0, labA, srt, insR, mrg, mst, GArc.key, upA]
 unfold tidA
 rw [this, w11]
 simp [w2_ne]
theorem awake_sp : Sp P F.law19_awake [] (.pure (.bool true)) := by
 refine Sp.of_vm' c.law19_awake (by simp) fun hok => ?_
 have hi := inputP_sp at0 3 (by omega) (by omega) t0_sm (by simp [at0]) (by simp [at0]) (by simp [at0])
 have hv : sideV at0 at0.inA = ⟨ar1, 1, 1, [aw1], [aw1], [⟨0, 1, 0, aw2⟩]⟩ := by
  simp only [sideV, t0_ok, if_true, GAuto.vb_iff.2 (inA_ok t0_ok)]
  show GAuto.mk _ _ _ _ _ _ = _
  rw [<- t0_tid]; rfl
 have he : sideE at0 at0.inA = 0 := by simp [sideE, t0_ok, GAuto.vb_iff.2 (inA_ok t0_ok)]
 rw [hv, he] at hi
 have h1 := one3_sp ar1
 rw [one_ar1] at h1
 simp [g.law19_awake, go_sem]
 refine callP_pure h1 (by simp [go_sem, ar1]) ?_
 simp [go_sem]
 refine callP_pure hi (by simp [go_sem, at0, ar1]) ?_
 simp [go_sem]
 refine ⟨fun x _ h => by omega, ?_⟩
 have hof := of1_sp 2 1 (by omega) (by omega) (by omega)
 rw [show Rat.divInt 2 1 = 2 by decide] at hof
 refine callP_pure hof (by simp [go_sem]) ?_
 have h4 : (rto 2).sm 1073741824 := ⟨Nat.le_trans (show (rto 2).num.length ≤ 1 from lb_len_le (by decide)) (by omega), Nat.le_trans (show (rto 2).den.length ≤ 1 by decide) (by omega)⟩
 simp [go_sem, aw2]
 refine callP_pure (same1_sp (rto 2) (rto 2) h4) (by simp [go_sem]) ?_
 simp [go_sem]
end Go.Ab
namespace Go.Ab
open Enc (enc)
attribute [local go_sem] optOpd Opd.slots
theorem tidA_sm {r : GRing} {n : Nat} (hn : n ≤ 90) (hn1 : 1 ≤ n) {l : List GArc} (hl : l.length ≤ 19) (h : ∀ x ∈ l, x.w.sm n ∧ x.w.chk r) : (∀ x ∈ tidA r l, x.w.sm 1048576) ∧ (tidA r l).length ≤ 19 := by
 have hs := srt_facts (key := GArc.key) l
 have iv := tidyA_inv (r := r) hn1 (fun x hx => h x ((hs.2.2 x).1 hx)) _ (Nat.le_refl _)
 rw [List.take_of_length_le (Nat.le_refl _), hs.2.1] at iv
 refine ⟨fun x hx => (iv.2 x (List.mem_filter.1 hx).1).1.mono ?_, Nat.le_trans (List.length_filter_le _ _) (Nat.le_trans iv.1 hl)⟩
 have := Nat.mul_le_mul (show l.length + 1 ≤ 20 by omega) (show n + 1 ≤ 91 by omega)
 omega
theorem tidT_sm {r : GRing} {n : Nat} (hn : n ≤ 90) (hn1 : 1 ≤ n) {l : List GTArc} (hl : l.length ≤ 19) (h : ∀ x ∈ l, x.w.sm n ∧ x.w.chk r) : (∀ x ∈ tidT r l, x.w.sm 1048576) ∧ (tidT r l).length ≤ 19 := by
 have hs := srt_facts (key := GTArc.key) l
 have iv := tidyT_inv (r := r) hn1 (fun x hx => h x ((hs.2.2 x).1 hx)) _ (Nat.le_refl _)
 rw [List.take_of_length_le (Nat.le_refl _), hs.2.1] at iv
 refine ⟨fun x hx => (iv.2 x (List.mem_filter.1 hx).1).1.mono ?_, Nat.le_trans (List.length_filter_le _ _) (Nat.le_trans iv.1 hl)⟩
 have := Nat.mul_le_mul (show l.length + 1 ≤ 20 by omega) (show n + 1 ≤ 91 by omega)
 omega
structure GAuto.fit (a : GAuto) : Prop where
 sm : a.sm 1048576
 li : a.ini.length ≤ 1000000
 lf : a.fin.length ≤ 1000000
 la : a.arcs.length ≤ 1000000
structure GTrans.fit (a : GTrans) : Prop where
 sm : a.sm 1048576
 li : a.ini.length ≤ 1000000
 lf : a.fin.length ≤ 1000000
 la : a.arcs.length ≤ 1000000
theorem gauto0_fit : gauto0.fit := ⟨⟨by simp [gauto0], by simp [gauto0], by simp [gauto0]⟩, by simp [gauto0], by simp [gauto0], by simp [gauto0]⟩
theorem gtrans0_fit : gtrans0.fit := ⟨⟨by simp [gtrans0], by simp [gtrans0], by simp [gtrans0]⟩, by simp [gtrans0], by simp [gtrans0], by simp [gtrans0]⟩
theorem nfA_fit {a : GAuto} {n : Nat} (ok : a.ok) (hn : n ≤ 90) (hn1 : 1 ≤ n) (h : a.sm n) (hl : a.arcs.length ≤ 19) : a.nf.fit := by
 have t := tidA_sm (r := a.ring) hn hn1 hl fun x hx => ⟨h.arcs x hx, (ok.arcs x hx).2.2.2.2.2.2⟩
 have := ok.il; have := ok.fl; have := ok.st2
 exact ⟨⟨fun w hw => (h.ini w hw).mono (by omega), fun w hw => (h.fin w hw).mono (by omega), t.1⟩, by show a.ini.length ≤ _; omega, by show a.fin.length ≤ _; omega, Nat.le_trans t.2 (by omega)⟩
theorem nfT_fit {a : GTrans} {n : Nat} (ok : a.ok) (hn : n ≤ 90) (hn1 : 1 ≤ n) (h : a.sm n) (hl : a.arcs.length ≤ 19) : a.nf.fit := by
 have t := tidT_sm (r := a.ring) hn hn1 hl fun x hx => ⟨h.arcs x hx, (ok.arcs x hx).2.2.2.2.2.2.2.2⟩
 have := ok.il; have := ok.fl; have := ok.st2
 exact ⟨⟨fun w hw => (h.ini w hw).mono (by omega), fun w hw => (h.fin w hw).mono (by omega), t.1⟩, by show a.ini.length ≤ _; omega, by show a.fin.length ≤ _; omega, Nat.le_trans t.2 (by omega)⟩
theorem sideV_fit {t : GTrans} {A : GAuto} {n : Nat} (hA : t.ok -> A.ok) (hn : n ≤ 90) (hn1 : 1 ≤ n) (h : A.sm n) (hl : A.arcs.length ≤ 19) : (sideV t A).fit := by
 unfold sideV
 by_cases ok : t.ok
 ·rw [if_pos ok, if_pos (GAuto.vb_iff.2 (hA ok))]; exact nfA_fit (hA ok) hn hn1 h hl
 ·rw [if_neg ok]; exact gauto0_fit
theorem trV_fit {t : GTrans} {n : Nat} (hn : n ≤ 90) (hn1 : 1 ≤ n) (h : t.sm n) (hl : t.arcs.length ≤ 19) : (trV t).fit := by
 unfold trV
 by_cases ok : t.ok
 ·rw [if_pos ok]; exact nfT_fit ok hn hn1 h hl
 ·rw [if_neg ok]; exact gtrans0_fit
theorem same6_self {a : GAuto} (h : a.fit) : Sp P F.ref06_Same [enc a, enc a] (.pure (.bool true)) := by
 have := same6_sp a a h.sm h.li h.lf h.la
 simpa using this
theorem same17_self {a : GTrans} (h : a.fit) : Sp P F.ref17_Same [enc a, enc a] (.pure (.bool true)) := by
 have := same17_sp a a h.sm h.li h.lf h.la
 simpa using this
theorem sides_sp (t : GTrans) (a : GAuto) : Sp P F.law19_ProjectSides [enc t, enc a] (.pure (.bool true)) := by
 refine Sp.of_vm' c.law19_ProjectSides (by simp) fun hok => ?_
 simp [g.law19_ProjectSides, go_sem]
 refine callP_pure (lightTrans_sp t) (by simp [go_sem]) ?_
 by_cases lt : t.lt
 rotate_left
 ·rw [decide_eq_false lt]; simp [go_sem]
  refine callP_pure awake_sp (by simp [go_sem]) ?_
  simp [go_sem]
 rw [decide_eq_true lt]; simp [go_sem]
 refine callP_pure (lightAuto_sp a) (by simp [go_sem]) ?_
 by_cases la : a.lt
 rotate_left
 ·rw [decide_eq_false la]; simp [go_sem]
  refine callP_pure awake_sp (by simp [go_sem]) ?_
  simp [go_sem]
 rw [decide_eq_true la]; simp [go_sem]
 have st := lt.sm
 have sa := la.sm
 have l1 := lt.al
 have l2 := la.al
 have l3 := lt.ini.1
 have l4 := lt.fin.1
 have l5 := la.ini.1
 have l6 := la.fin.1
 have k1 := inputP_sp t 8 (by omega) (by omega) st (by omega) (by omega) (by omega)
 have k2 := input19_sp t 8 (by omega) (by omega) st (by omega) (by omega) (by omega)
 have k3 := outputP_sp t 8 (by omega) (by omega) st (by omega) (by omega) (by omega)
 have k4 := output19_sp t 8 (by omega) (by omega) st (by omega) (by omega) (by omega)
 have k5 := invertP_sp t 8 (by omega) (by omega) st (by omega) (by omega) (by omega)
 have k6 := invert19_sp t 8 (by omega) (by omega) st (by omega) (by omega) (by omega)
 have k7 := identityP_sp a 8 (by omega) (by omega) sa (by omega) (by omega) (by omega)
 have k8 := identity19_sp a 8 (by omega) (by omega) sa (by omega) (by omega) (by omega)
 have f1 : (sideV t t.inA).fit := sideV_fit inA_ok (n := 8) (by omega) (by omega) st.inA (by simp [GTrans.inA]; omega)
 have f2 : (sideV t t.outA).fit := sideV_fit outA_ok (n := 8) (by omega) (by omega) st.outA (by simp [GTrans.outA]; omega)
 have f3 : (trV t.inv).fit := trV_fit (n := 8) (by omega) (by omega) st.inv (by simp [GTrans.inv]; omega)
 have f4 : (if a.vb then trV a.idt else gtrans0).fit := by
  split
  ·exact trV_fit (n := 8) (by omega) (by omega) sa.idt (by simp [GAuto.idt]; omega)
  ·exact gtrans0_fit
 generalize sideV t t.inA = v1 at *
 generalize sideE t t.inA = e1 at *
 generalize sideV t t.outA = v2 at *
 generalize sideE t t.outA = e2 at *
 generalize trV t.inv = v3 at *
 generalize trE t.inv = e3 at *
 generalize (if a.vb then trV a.idt else gtrans0) = v4 at *
 generalize (if a.vb then trE a.idt else 4) = e4 at *
 refine callP_pure k1 (by simp [go_sem]) ?_
 simp [go_sem]
 refine callP_pure k2 (by simp [go_sem]) ?_
 simp [go_sem]
 refine callP_pure k3 (by simp [go_sem]) ?_
 simp [go_sem]
 refine callP_pure k4 (by simp [go_sem]) ?_
 simp [go_sem]
 refine callP_pure k5 (by simp [go_sem]) ?_
 simp [go_sem]
 refine callP_pure k6 (by simp [go_sem]) ?_
 simp [go_sem]
 refine callP_pure k7 (by simp [go_sem]) ?_
 simp [go_sem]
 refine callP_pure k8 (by simp [go_sem]) ?_
 simp [go_sem]
 refine callP_pure awake_sp (by simp [go_sem]) ?_
 simp [go_sem]
 refine callP_pure (same6_self f1) (by simp [go_sem]) ?_
 simp [go_sem]
 refine callP_pure (same6_self f2) (by simp [go_sem]) ?_
 simp [go_sem]
 refine callP_pure (same17_self f3) (by simp [go_sem]) ?_
 simp [go_sem]
 refine callP_pure (same17_self f4) (by simp [go_sem]) ?_
 simp [go_sem]
end Go.Ab
