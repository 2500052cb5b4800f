/-
Proofs for the law ProjectSides of the seat, part 36 (texts T3 T4 X6 X7 X9 X31 X32 X33 X34). Conditions: none.
-/
import Derived.Test.YtalcegbealdigaaGreatDoorP28
import Derived.Test.YtalcegbealdigaaGreatDoorP24
import Derived.Test.YtalcegbealdigaaGreatDoorP11
import Derived.Test.YtalcegbealdigaaGreatDoorP35
set_option maxRecDepth 100000
set_option maxHeartbeats 4000000
set_option linter.all false
namespace Go.Ab
section
variable {α : Type} {key : α -> List Int}
def sortAt (key : α -> List Int) (l : List α) (i : Nat) : List α := srt key (l.take i) ++ l.drop i
theorem insR_len (s : List α) (x : α) : (insR key s x).length = s.length + 1 := by
 induction s with
 | nil => rfl
 | cons z r ih => simp only [insR]; split <;> simp [ih]
theorem insR_mem {s : List α} {x y : α} : y ∈ insR key s x ↔ y = x ∨ y ∈ s := by
 induction s with
 | nil => simp [insR]
 | cons z r ih =>
  simp only [insR]; split
  ·simp
  ·simp only [List.mem_cons, ih]
   exact ⟨fun h => by rcases h with h | h | h <;> simp [h], fun h => by rcases h with h | h | h <;> simp [h]⟩
theorem srt_snoc (l : List α) (x : α) : srt key (l ++ [x]) = insR key (srt key l) x := by simp [srt, List.foldl_append]
theorem srt_facts (l : List α) : Srt key (srt key l) ∧ (srt key l).length = l.length ∧ ∀ y, y ∈ srt key l ↔ y ∈ l := by
 have : ∀ (n : Nat) (l : List α), l.length = n -> Srt key (srt key l) ∧ (srt key l).length = l.length ∧ ∀ y, y ∈ srt key l ↔ y ∈ l := by
  intro n
  induction n with
  | zero => intro l hl; have := List.eq_nil_of_length_eq_zero hl; subst this; simp [srt, Srt]
  | succ n ih =>
   intro l hl
   obtain ⟨l', y, rfl⟩ : ∃ l' y, l = l' ++ [y] := ⟨l.dropLast, l.getLast (by intro h; simp [h] at hl), (List.dropLast_concat_getLast _).symm⟩
   obtain ⟨h1, h2, h3⟩ := ih l' (by simpa using hl)
   rw [srt_snoc]
   refine ⟨insR_sorted h1, by rw [insR_len, h2]; simp, fun z => ?_⟩
   rw [insR_mem, h3]; simp [or_comm]
 exact this _ l rfl
theorem sortAt_one (l : List α) : sortAt key l 1 = l := by cases l <;> simp [sortAt, srt, insR]
theorem sortAt_ge {l : List α} {i : Nat} (h : l.length ≤ i) : sortAt key l i = srt key l := by
 unfold sortAt; rw [List.take_of_length_le h, List.drop_of_length_le h, List.append_nil]
theorem sortAt_lt {l : List α} {i : Nat} (h : i < l.length) : sortAt key l i = srt key (l.take i) ++ l[i] :: l.drop (i + 1) := by
 unfold sortAt; rw [List.drop_eq_getElem_cons h]
theorem sortAt_succ {l : List α} {i : Nat} (h : i < l.length) : sortAt key l (i + 1) = insR key (srt key (l.take i)) l[i] ++ l.drop (i + 1) := by
 unfold sortAt; rw [List.take_succ_eq_append_getElem h, srt_snoc]
theorem insR_at {x : α} {B : List α} (hB : ∀ b ∈ B, key x < key b) : ∀ {A : List α}, (∀ a ∈ A, ¬ key x < key a) -> insR key (A ++ B) x = A ++ x :: B
 | [], _ => by
  cases B with
  | nil => rfl
  | cons b B => simp [insR, hB b (by simp)]
 | a :: A, h => by
  have := insR_at hB (A := A) fun y hy => h y (by simp [hy])
  simp [insR, h a (by simp), this]
theorem swap_list (A B : List α) (z x : α) (rest : List α) : ((A ++ [z] ++ x :: (B ++ rest)).set (A.length + 1) z).set A.length x = A ++ x :: ((z :: B) ++ rest) := by
 simp [List.set_append, List.append_assoc]
end
end Go.Ab
namespace Go.Ab
section
variable {α : Type} {key : α -> List Int} {up : α -> α -> α} {nw : α -> α}
theorem mst_mem : ∀ {out : List α} {x y : α}, x ∈ mst key up nw out y -> x ∈ out ∨ x = nw y ∨ ∃ z ∈ out, x = up z y
 | [], x, y, h => by simp [mst] at h; exact .inr (.inl h)
 | [z], x, y, h => by
  simp only [mst] at h
  split at h
  ·simp at h; exact .inr (.inr ⟨z, by simp, h⟩)
  ·simp at h; rcases h with h | h
   ·exact .inl (by simp [h])
   ·exact .inr (.inl h)
 | z :: w :: r, x, y, h => by
  rw [mst_app z y (by simp)] at h
  rcases List.mem_cons.1 h with h | h
  ·exact .inl (by simp [h])
  ·rcases mst_mem h with h | h | ⟨u, h, e⟩
   ·exact .inl (List.mem_cons_of_mem _ h)
   ·exact .inr (.inl h)
   ·exact .inr (.inr ⟨u, List.mem_cons_of_mem _ h, e⟩)
theorem insF_mem : ∀ {out : List α} {x y : α}, x ∈ insF key up nw out y -> x ∈ out ∨ x = nw y ∨ ∃ z ∈ out, x = up z y
 | [], x, y, h => by simp [insF] at h; exact .inr (.inl h)
 | z :: r, x, y, h => by
  simp only [insF] at h
  split at h
  ·rcases List.mem_cons.1 h with h | h
   ·exact .inl (by simp [h])
   ·rcases insF_mem h with h | h | ⟨u, h, e⟩
    ·exact .inl (List.mem_cons_of_mem _ h)
    ·exact .inr (.inl h)
    ·exact .inr (.inr ⟨u, List.mem_cons_of_mem _ h, e⟩)
  ·split at h
   ·rcases List.mem_cons.1 h with h | h
    ·exact .inr (.inr ⟨z, by simp, h⟩)
    ·exact .inl (List.mem_cons_of_mem _ h)
   ·rcases List.mem_cons.1 h with h | h
    ·exact .inr (.inl h)
    ·exact .inl h
theorem mst_len_le (out : List α) (y : α) : (mst key up nw out y).length ≤ out.length + 1 := by
 match out with
 | [] => simp [mst]
 | [z] => simp only [mst]; split <;> simp
 | z :: w :: r =>
  rw [mst_app z y (by simp)]
  have := mst_len_le (w :: r) y
  simp only [List.length_cons] at this ⊢; omega
theorem insF_len_le : ∀ (out : List α) (y : α), (insF key up nw out y).length ≤ out.length + 1
 | [], y => by simp [insF]
 | z :: r, y => by
  simp only [insF]
  have := insF_len_le r y
  (repeat' split) <;> simp only [List.length_cons] <;> omega
theorem mrg_take_succ {l : List α} {k : Nat} (h : k < l.length) : mrg key up nw (l.take (k + 1)) = mst key up nw (mrg key up nw (l.take k)) l[k] := by
 rw [List.take_succ_eq_append_getElem h, mrg_snoc]
theorem nfm_take_succ {l : List α} {k : Nat} (h : k < l.length) : nfm key up nw (l.take (k + 1)) = insF key up nw (nfm key up nw (l.take k)) l[k] := by
 rw [List.take_succ_eq_append_getElem h]; unfold nfm; rw [List.foldl_append]; rfl
theorem mrg_all {Q : Nat -> α -> Prop} (hm : ∀ k x, Q k x -> Q (k + 1) x) {l : List α} (hn : ∀ x ∈ l, Q 0 (nw x)) (hu : ∀ k z, ∀ x ∈ l, Q k z -> Q (k + 1) (up z x)) (h0 : ∀ k x, Q 0 x -> Q k x) :
  ∀ k, k ≤ l.length -> (mrg key up nw (l.take k)).length ≤ k ∧ ∀ x ∈ mrg key up nw (l.take k), Q k x
 | 0, _ => by simp [mrg]
 | k + 1, h => by
  obtain ⟨i1, i2⟩ := mrg_all hm hn hu h0 k (by omega)
  have hk : k < l.length := by omega
  rw [mrg_take_succ hk]
  refine ⟨Nat.le_trans (mst_len_le _ _) (by omega), fun x hx => ?_⟩
  rcases mst_mem hx with h | h | ⟨z, h, e⟩
  ·exact hm _ _ (i2 x h)
  ·rw [h]; exact h0 _ _ (hn _ (List.getElem_mem hk))
  ·rw [e]; exact hu _ _ _ (List.getElem_mem hk) (i2 z h)
theorem nfm_all {Q : Nat -> α -> Prop} (hm : ∀ k x, Q k x -> Q (k + 1) x) {l : List α} (hn : ∀ x ∈ l, Q 0 (nw x)) (hu : ∀ k z, ∀ x ∈ l, Q k z -> Q (k + 1) (up z x)) (h0 : ∀ k x, Q 0 x -> Q k x) :
  ∀ k, k ≤ l.length -> (nfm key up nw (l.take k)).length ≤ k ∧ ∀ x ∈ nfm key up nw (l.take k), Q k x
 | 0, _ => by simp [nfm]
 | k + 1, h => by
  obtain ⟨i1, i2⟩ := nfm_all hm hn hu h0 k (by omega)
  have hk : k < l.length := by omega
  rw [nfm_take_succ hk]
  refine ⟨Nat.le_trans (insF_len_le _ _) (by omega), fun x hx => ?_⟩
  rcases insF_mem hx with h | h | ⟨z, h, e⟩
  ·exact hm _ _ (i2 x h)
  ·rw [h]; exact h0 _ _ (hn _ (List.getElem_mem hk))
  ·rw [e]; exact hu _ _ _ (List.getElem_mem hk) (i2 z h)
end
end Go.Ab
namespace Go.Ab
open Enc (enc)
attribute [local go_sem] optOpd Opd.slots
section
variable {α : Type} [Enc α]
theorem isort_api_Arc (hsz : Enc.sz α = 11) (hone : ∀ x : α, (enc x).cells.all PV.one = true) (key : α -> List Int) (cf : FuncId) (l : List α) (hl : l.length ≤ 1000000)
  (hc : ∀ x ∈ l, ∀ y ∈ l, ∃ n : Int, Sp P cf [enc x, enc y] (.pure (.int .i64 n)) ∧ (n < 0 ↔ key x < key y)) :
  SpM P F.slices_insertionSortCmpFunc_api_Arc [.sl (ens l), .int .i64 0, .int .i64 l.length, .fn cf []] 0 11 (ens (srt key l)) (.pure (.tup [])) := by
 have hs1 : ∀ x : α, (enc x).sz = 11 := fun x => by rw [Enc.ok, hsz]
 have ew1 : IntKind.i64.wrap 1 = 1 := i64w (by omega) (by omega)
 refine SpM.of_vm c.slices_insertionSortCmpFunc_api_Arc (by simp) rfl (by simp [go_sem, (srt_facts l).2.1]) ?_
 simp [g.slices_insertionSortCmpFunc_api_Arc, go_sem]
 refine vL_rule (S := fun i : Nat => mkSt [(0, .own PIN 0 0 l.length), (1, .p (.int .i64 0)), (2, .p (.int .i64 l.length)), (3, .p (.fn cf [])), (8, .p (.int .i64 i))] [(PIN, ⟨11, avs (sortAt key l i)⟩)]) (I := fun i => 1 ≤ i) (m := fun i => l.length + 1 - i) 1
  (Weak.to [0, 1, 2, 3, 8] [((PIN, 0), PIN)] (by simp [go_sem, sortAt_one, ew1])) (by omega) ?_
 rintro i h1 R hn hr hx
 simp [g.slices_insertionSortCmpFunc_api_Arc_l2, mkSt, go_sem]
 refine ⟨fun hi => ?_, fun hi => hx _ _ ?_⟩
 rotate_left
 ·simp [go_sem, sortAt_ge hi]
 have e1 : IntKind.i64.wrap ((i : Int) + 1) = ((i + 1 : Nat) : Int) := i64w (by omega) (by omega)
 have hsi := srt_facts (key := key) (l.take i)
 have hsl : (srt key (l.take i)).length = i := by rw [hsi.2.1]; simp; omega
 have hend : ∀ (L : List α) (v : AV), L = sortAt key l (i + 1) -> v = .p (.int .i64 ((i + 1 : Nat) : Int)) -> R .normal ⟨[(0, .own 999998 0 0 l.length), (1, .p (.int .i64 0)), (2, .p (.int .i64 l.length)), (3, .p (.fn cf [])), (8, v)], [(999998, [some ⟨11, avs L⟩]), (999999, [none])]⟩ := by
  rintro L v rfl rfl
  exact hn (i + 1) _ (Weak.to [0, 1, 2, 3, 8] [((PIN, 0), PIN)] (by simp [go_sem])) (by omega) (by omega)
 refine vL_rule (S := fun x : List α × Nat => mkSt [(0, .own PIN 0 0 l.length), (1, .p (.int .i64 0)), (2, .p (.int .i64 l.length)), (3, .p (.fn cf [])), (8, .p (.int .i64 i)), (9, .p (.int .i64 x.2))] [(PIN, ⟨11, avs x.1⟩)])
  (I := fun x => ∃ A B, x.1 = A ++ l[i] :: (B ++ l.drop (i + 1)) ∧ x.2 = A.length ∧ A ++ B = srt key (l.take i) ∧ ∀ b ∈ B, key l[i] < key b) (m := fun x => x.2) (sortAt key l i, i)
  (Weak.to [0, 1, 2, 3, 8, 9] [((PIN, 0), PIN)] (by simp [go_sem])) ⟨srt key (l.take i), [], by rw [sortAt_lt hi]; simp, hsl.symm, by simp, by simp⟩ ?_
 rintro ⟨L, j⟩ ⟨A, B, hL, hj, hAB, hB⟩ R2 hn2 hr2 hx2
 simp only at hL hj
 have hLl : L.length = l.length := by
  have := congrArg List.length hAB
  rw [hL]; simp at this ⊢; rw [hsi.2.1] at this; simp at this; omega
 have hLm : ∀ y ∈ L, y ∈ l := by
  intro y hy
  rw [hL] at hy
  simp only [List.mem_append, List.mem_cons] at hy
  have hm : ∀ y, y ∈ A ++ B -> y ∈ l := fun y hy => by rw [hAB, hsi.2.2] at hy; exact List.mem_of_mem_take hy
  rcases hy with h | h | h | h
  ·exact hm y (by simp [h])
  ·rw [h]; exact List.getElem_mem hi
  ·exact hm y (by simp [h])
  ·exact List.mem_of_mem_drop h
 have hjl : j < l.length := by rw [<- hLl, hL, hj]; simp
 rcases List.eq_nil_or_concat A with rfl | ⟨A', z, rfl⟩
 ·
  simp at hj
  subst hj
  simp [g.slices_insertionSortCmpFunc_api_Arc_l1, mkSt, go_sem]
  refine hx2 _ _ ?_
  simp [go_sem, e1]
  refine hend L _ ?_ rfl
  rw [sortAt_succ hi, <- hAB, insR_at hB (by simp), hL]; simp
 ·simp only [List.concat_eq_append] at hj hL hAB
  simp at hj
  subst hj
  have hx0 : L[A'.length + 1]? = some l[i] := by rw [hL]; simp
  have hz0 : L[A'.length]? = some z := by rw [hL]; simp
  have hzl : z ∈ l := hLm z (by rw [hL]; simp)
  obtain ⟨n, hn3, hn4⟩ := hc l[i] (List.getElem_mem hi) z hzl
  have hl0 : A'.length + 1 < l.length := hjl
  have e3 : IntKind.i64.wrap (A'.length : Int) = (A'.length : Nat) := i64w (by omega) (by omega)
  have e4 : ((A'.length : Int) + 1).toNat = A'.length + 1 := by omega
  have hgt : (0 : Int) < (A'.length : Int) + 1 := by omega
  simp [g.slices_insertionSortCmpFunc_api_Arc_l1, mkSt, go_sem, e3, hLl, hl0, show A'.length < l.length by omega, e4, hgt]
  refine ⟨by omega, atP_of hx0 ?_⟩
  refine atP_of hz0 ?_
  refine callP_pure hn3 rfl ?_
  by_cases hlt : n < 0
  ·simp [go_sem, hlt, e3, e4, hgt, hLl, hl0, show A'.length < l.length by omega]
   refine atP_of hz0 ?_
   refine ⟨by omega, atP_of hx0 ?_⟩
   refine ⟨by omega, atP_of hx0 ?_⟩
   refine ⟨hs1 z, ?_⟩
   rw [vmO_el]
   refine atP_of (x := .p (enc z)) (by simp [avs_get, hz0]) ?_
   simp only [vmO_ok]
   refine ⟨hs1 _, ?_⟩
   simp [go_sem, e3]
   refine hn2 ((L.set (A'.length + 1) z).set A'.length l[i], A'.length) _ (Weak.to [0, 1, 2, 3, 8, 9] [((PIN, 0), PIN)] (by simp [go_sem])) ⟨A', z :: B, ?_, rfl, ?_, ?_⟩ (by simp)
   ·rw [hL]; exact swap_list A' B z l[i] _
   ·rw [<- hAB]; simp
   ·intro b hb
    rcases List.mem_cons.1 hb with rfl | hb
    ·exact hn4.1 hlt
    ·exact hB b hb
  ·simp [go_sem, hlt, e3, e4, hgt, hLl, hl0]
   refine hx2 _ _ ?_
   simp [go_sem, e1]
   refine hend L _ ?_ rfl
   have hnk : ¬ key l[i] < key z := fun h => hlt (hn4.2 h)
   rw [sortAt_succ hi, <- hAB, insR_at hB, hL]
   ·simp
   ·intro a ha
    simp only [List.mem_append, List.mem_singleton] at ha
    rcases ha with ha | rfl
    ·intro hk
     have hs0 := hsi.1
     rw [<- hAB] at hs0
     have := (List.pairwise_append.1 (List.pairwise_append.1 hs0).1).2.2 a ha z (by simp)
     exact hnk (key_lt_le hk this)
    ·exact hnk
theorem isort_api_TArc (hsz : Enc.sz α = 12) (hone : ∀ x : α, (enc x).cells.all PV.one = true) (key : α -> List Int) (cf : FuncId) (l : List α) (hl : l.length ≤ 1000000)
  (hc : ∀ x ∈ l, ∀ y ∈ l, ∃ n : Int, Sp P cf [enc x, enc y] (.pure (.int .i64 n)) ∧ (n < 0 ↔ key x < key y)) :
  SpM P F.slices_insertionSortCmpFunc_api_TArc [.sl (ens l), .int .i64 0, .int .i64 l.length, .fn cf []] 0 12 (ens (srt key l)) (.pure (.tup [])) := by
 have hs1 : ∀ x : α, (enc x).sz = 12 := fun x => by rw [Enc.ok, hsz]
 have ew1 : IntKind.i64.wrap 1 = 1 := i64w (by omega) (by omega)
 refine SpM.of_vm c.slices_insertionSortCmpFunc_api_TArc (by simp) rfl (by simp [go_sem, (srt_facts l).2.1]) ?_
 simp [g.slices_insertionSortCmpFunc_api_TArc, go_sem]
 refine vL_rule (S := fun i : Nat => mkSt [(0, .own PIN 0 0 l.length), (1, .p (.int .i64 0)), (2, .p (.int .i64 l.length)), (3, .p (.fn cf [])), (8, .p (.int .i64 i))] [(PIN, ⟨12, avs (sortAt key l i)⟩)]) (I := fun i => 1 ≤ i) (m := fun i => l.length + 1 - i) 1
  (Weak.to [0, 1, 2, 3, 8] [((PIN, 0), PIN)] (by simp [go_sem, sortAt_one, ew1])) (by omega) ?_
 rintro i h1 R hn hr hx
 simp [g.slices_insertionSortCmpFunc_api_TArc_l2, mkSt, go_sem]
 refine ⟨fun hi => ?_, fun hi => hx _ _ ?_⟩
 rotate_left
 ·simp [go_sem, sortAt_ge hi]
 have e1 : IntKind.i64.wrap ((i : Int) + 1) = ((i + 1 : Nat) : Int) := i64w (by omega) (by omega)
 have hsi := srt_facts (key := key) (l.take i)
 have hsl : (srt key (l.take i)).length = i := by rw [hsi.2.1]; simp; omega
 have hend : ∀ (L : List α) (v : AV), L = sortAt key l (i + 1) -> v = .p (.int .i64 ((i + 1 : Nat) : Int)) -> R .normal ⟨[(0, .own 999998 0 0 l.length), (1, .p (.int .i64 0)), (2, .p (.int .i64 l.length)), (3, .p (.fn cf [])), (8, v)], [(999998, [some ⟨12, avs L⟩]), (999999, [none])]⟩ := by
  rintro L v rfl rfl
  exact hn (i + 1) _ (Weak.to [0, 1, 2, 3, 8] [((PIN, 0), PIN)] (by simp [go_sem])) (by omega) (by omega)
 refine vL_rule (S := fun x : List α × Nat => mkSt [(0, .own PIN 0 0 l.length), (1, .p (.int .i64 0)), (2, .p (.int .i64 l.length)), (3, .p (.fn cf [])), (8, .p (.int .i64 i)), (9, .p (.int .i64 x.2))] [(PIN, ⟨12, avs x.1⟩)])
  (I := fun x => ∃ A B, x.1 = A ++ l[i] :: (B ++ l.drop (i + 1)) ∧ x.2 = A.length ∧ A ++ B = srt key (l.take i) ∧ ∀ b ∈ B, key l[i] < key b) (m := fun x => x.2) (sortAt key l i, i)
  (Weak.to [0, 1, 2, 3, 8, 9] [((PIN, 0), PIN)] (by simp [go_sem])) ⟨srt key (l.take i), [], by rw [sortAt_lt hi]; simp, hsl.symm, by simp, by simp⟩ ?_
 rintro ⟨L, j⟩ ⟨A, B, hL, hj, hAB, hB⟩ R2 hn2 hr2 hx2
 simp only at hL hj
 have hLl : L.length = l.length := by
  have := congrArg List.length hAB
  rw [hL]; simp at this ⊢; rw [hsi.2.1] at this; simp at this; omega
 have hLm : ∀ y ∈ L, y ∈ l := by
  intro y hy
  rw [hL] at hy
  simp only [List.mem_append, List.mem_cons] at hy
  have hm : ∀ y, y ∈ A ++ B -> y ∈ l := fun y hy => by rw [hAB, hsi.2.2] at hy; exact List.mem_of_mem_take hy
  rcases hy with h | h | h | h
  ·exact hm y (by simp [h])
  ·rw [h]; exact List.getElem_mem hi
  ·exact hm y (by simp [h])
  ·exact List.mem_of_mem_drop h
 have hjl : j < l.length := by rw [<- hLl, hL, hj]; simp
 rcases List.eq_nil_or_concat A with rfl | ⟨A', z, rfl⟩
 ·
  simp at hj
  subst hj
  simp [g.slices_insertionSortCmpFunc_api_TArc_l1, mkSt, go_sem]
  refine hx2 _ _ ?_
  simp [go_sem, e1]
  refine hend L _ ?_ rfl
  rw [sortAt_succ hi, <- hAB, insR_at hB (by simp), hL]; simp
 ·simp only [List.concat_eq_append] at hj hL hAB
  simp at hj
  subst hj
  have hx0 : L[A'.length + 1]? = some l[i] := by rw [hL]; simp
  have hz0 : L[A'.length]? = some z := by rw [hL]; simp
  have hzl : z ∈ l := hLm z (by rw [hL]; simp)
  obtain ⟨n, hn3, hn4⟩ := hc l[i] (List.getElem_mem hi) z hzl
  have hl0 : A'.length + 1 < l.length := hjl
  have e3 : IntKind.i64.wrap (A'.length : Int) = (A'.length : Nat) := i64w (by omega) (by omega)
  have e4 : ((A'.length : Int) + 1).toNat = A'.length + 1 := by omega
  have hgt : (0 : Int) < (A'.length : Int) + 1 := by omega
  simp [g.slices_insertionSortCmpFunc_api_TArc_l1, mkSt, go_sem, e3, hLl, hl0, show A'.length < l.length by omega, e4, hgt]
  refine ⟨by omega, atP_of hx0 ?_⟩
  refine atP_of hz0 ?_
  refine callP_pure hn3 rfl ?_
  by_cases hlt : n < 0
  ·simp [go_sem, hlt, e3, e4, hgt, hLl, hl0, show A'.length < l.length by omega]
   refine atP_of hz0 ?_
   refine ⟨by omega, atP_of hx0 ?_⟩
   refine ⟨by omega, atP_of hx0 ?_⟩
   refine ⟨hs1 z, ?_⟩
   rw [vmO_el]
   refine atP_of (x := .p (enc z)) (by simp [avs_get, hz0]) ?_
   simp only [vmO_ok]
   refine ⟨hs1 _, ?_⟩
   simp [go_sem, e3]
   refine hn2 ((L.set (A'.length + 1) z).set A'.length l[i], A'.length) _ (Weak.to [0, 1, 2, 3, 8, 9] [((PIN, 0), PIN)] (by simp [go_sem])) ⟨A', z :: B, ?_, rfl, ?_, ?_⟩ (by simp)
   ·rw [hL]; exact swap_list A' B z l[i] _
   ·rw [<- hAB]; simp
   ·intro b hb
    rcases List.mem_cons.1 hb with rfl | hb
    ·exact hn4.1 hlt
    ·exact hB b hb
  ·simp [go_sem, hlt, e3, e4, hgt, hLl, hl0]
   refine hx2 _ _ ?_
   simp [go_sem, e1]
   refine hend L _ ?_ rfl
   have hnk : ¬ key l[i] < key z := fun h => hlt (hn4.2 h)
   rw [sortAt_succ hi, <- hAB, insR_at hB, hL]
   ·simp
   ·intro a ha
    simp only [List.mem_append, List.mem_singleton] at ha
    rcases ha with ha | rfl
    ·intro hk
     have hs0 := hsi.1
     rw [<- hAB] at hs0
     have := (List.pairwise_append.1 (List.pairwise_append.1 hs0).1).2.2 a ha z (by simp)
     exact hnk (key_lt_le hk this)
    ·exact hnk
end
end Go.Ab
namespace Go.Ab
open Enc (enc)
attribute [local go_sem] optOpd Opd.slots
section
variable {α : Type} [Enc α]
theorem stable_api_Arc (hsz : Enc.sz α = 11) (hone : ∀ x : α, (enc x).cells.all PV.one = true) (key : α -> List Int) (cf : FuncId) (l : List α) (hl : l.length ≤ 19)
  (hc : ∀ x ∈ l, ∀ y ∈ l, ∃ n : Int, Sp P cf [enc x, enc y] (.pure (.int .i64 n)) ∧ (n < 0 ↔ key x < key y)) :
  SpM P F.slices_stableCmpFunc_api_Arc [.sl (ens l), .int .i64 l.length, .fn cf []] 0 11 (ens (srt key l)) (.pure (.tup [])) := by
 refine SpM.of_vm c.slices_stableCmpFunc_api_Arc (by simp) rfl (by simp [go_sem, (srt_facts l).2.1]) ?_
 simp [g.slices_stableCmpFunc_api_Arc, go_sem]
 refine vL_unr fun R hn hr hx => ?_
 simp [g.slices_stableCmpFunc_api_Arc_l1, go_sem, show ¬ (20 ≤ (l.length : Int)) by omega]
 refine hx _ _ ?_
 simp [go_sem]
 refine callP_mut (isort_api_Arc hsz hone key cf l (by omega) hc) (by simp [go_sem]) rfl rfl (by simp) (by simp [go_sem]) (by simp [go_sem, (srt_facts l).2.1]) rfl (all_enc _ _ hsz) (cells_one hone _) (by simp [go_sem]) ?_
 simp [go_sem]
 refine vL_unr fun R2 hn2 hr2 hx2 => ?_
 simp [g.slices_stableCmpFunc_api_Arc_l3, go_sem, show ¬ (20 < (l.length : Int)) by omega]
 refine hx2 _ _ ?_
 simp [go_sem]
theorem sorts_api_Arc (hsz : Enc.sz α = 11) (hone : ∀ x : α, (enc x).cells.all PV.one = true) (key : α -> List Int) (cf : FuncId) (l : List α) (hl : l.length ≤ 19)
  (hc : ∀ x ∈ l, ∀ y ∈ l, ∃ n : Int, Sp P cf [enc x, enc y] (.pure (.int .i64 n)) ∧ (n < 0 ↔ key x < key y)) :
  SpM P F.slices_SortStableFunc_api_Arc [.sl (ens l), .fn cf []] 0 11 (ens (srt key l)) (.pure (.tup [])) := by
 refine SpM.of_vm c.slices_SortStableFunc_api_Arc (by simp) rfl (by simp [go_sem, (srt_facts l).2.1]) ?_
 simp [g.slices_SortStableFunc_api_Arc, go_sem]
 refine callP_mut (stable_api_Arc hsz hone key cf l hl hc) (by simp [go_sem]) rfl rfl (by simp) (by simp [go_sem]) (by simp [go_sem, (srt_facts l).2.1]) rfl (all_enc _ _ hsz) (cells_one hone _) (by simp [go_sem]) ?_
 simp [go_sem]
theorem stable_api_TArc (hsz : Enc.sz α = 12) (hone : ∀ x : α, (enc x).cells.all PV.one = true) (key : α -> List Int) (cf : FuncId) (l : List α) (hl : l.length ≤ 19)
  (hc : ∀ x ∈ l, ∀ y ∈ l, ∃ n : Int, Sp P cf [enc x, enc y] (.pure (.int .i64 n)) ∧ (n < 0 ↔ key x < key y)) :
  SpM P F.slices_stableCmpFunc_api_TArc [.sl (ens l), .int .i64 l.length, .fn cf []] 0 12 (ens (srt key l)) (.pure (.tup [])) := by
 refine SpM.of_vm c.slices_stableCmpFunc_api_TArc (by simp) rfl (by simp [go_sem, (srt_facts l).2.1]) ?_
 simp [g.slices_stableCmpFunc_api_TArc, go_sem]
 refine vL_unr fun R hn hr hx => ?_
 simp [g.slices_stableCmpFunc_api_TArc_l1, go_sem, show ¬ (20 ≤ (l.length : Int)) by omega]
 refine hx _ _ ?_
 simp [go_sem]
 refine callP_mut (isort_api_TArc hsz hone key cf l (by omega) hc) (by simp [go_sem]) rfl rfl (by simp) (by simp [go_sem]) (by simp [go_sem, (srt_facts l).2.1]) rfl (all_enc _ _ hsz) (cells_one hone _) (by simp [go_sem]) ?_
 simp [go_sem]
 refine vL_unr fun R2 hn2 hr2 hx2 => ?_
 simp [g.slices_stableCmpFunc_api_TArc_l3, go_sem, show ¬ (20 < (l.length : Int)) by omega]
 refine hx2 _ _ ?_
 simp [go_sem]
theorem sorts_api_TArc (hsz : Enc.sz α = 12) (hone : ∀ x : α, (enc x).cells.all PV.one = true) (key : α -> List Int) (cf : FuncId) (l : List α) (hl : l.length ≤ 19)
  (hc : ∀ x ∈ l, ∀ y ∈ l, ∃ n : Int, Sp P cf [enc x, enc y] (.pure (.int .i64 n)) ∧ (n < 0 ↔ key x < key y)) :
  SpM P F.slices_SortStableFunc_api_TArc [.sl (ens l), .fn cf []] 0 12 (ens (srt key l)) (.pure (.tup [])) := by
 refine SpM.of_vm c.slices_SortStableFunc_api_TArc (by simp) rfl (by simp [go_sem, (srt_facts l).2.1]) ?_
 simp [g.slices_SortStableFunc_api_TArc, go_sem]
 refine callP_mut (stable_api_TArc hsz hone key cf l hl hc) (by simp [go_sem]) rfl rfl (by simp) (by simp [go_sem]) (by simp [go_sem, (srt_facts l).2.1]) rfl (all_enc _ _ hsz) (cells_one hone _) (by simp [go_sem]) ?_
 simp [go_sem]
end
end Go.Ab
namespace Go.Ab
open Enc (enc)
attribute [local go_sem] optOpd Opd.slots
def gw0' : GW := .mk ⟨false, [], []⟩ 0 false 0 [] []
theorem delf_api_Arc (df : FuncId) (caps : List PV) (p : GArc -> Bool) (l : List GArc) (hl : l.length ≤ 1000000) (hp : ∀ x ∈ l, Sp P df (enc x :: caps) (.pure (.bool (p x)))) :
  SpM P F.slices_DeleteFunc_api_Arc [.sl (ens l), .fn df caps] 0 11 (ens (l.filter (fun x => !p x) ++ List.replicate (l.length - (l.filter fun x => !p x).length) (⟨0, 0, 0, gw0'⟩ : GArc))) (.same (l.filter fun x => !p x).length) := by
 have hfl : (l.filter fun x => !p x).length ≤ l.length := List.length_filter_le _ _
 refine SpM.of_vm c.slices_DeleteFunc_api_Arc (by simp) rfl (by simp [go_sem]; omega) ?_
 simp [g.slices_DeleteFunc_api_Arc, go_sem]
 refine callP_pure (idxf_api_Arc l df caps p (by omega) hp) (by simp [go_sem]) ?_
 cases hi : l.findIdx? p with
 | none =>
  have hn := List.findIdx?_eq_none_iff.1 hi
  have hf : l.filter (fun x => !p x) = l := List.filter_eq_self.2 fun x hx => by simp [hn x hx]
  have hx : idxI p l = -1 := by simp [idxI, hi]
  simp [hx, hf, go_sem]
 | some k =>
  obtain ⟨hk, hpk, hbef⟩ := List.findIdx?_eq_some_iff_getElem.1 hi
  have hx : idxI p l = k := by simp [idxI, hi]
  have hne : ¬ ((k : Int) = -1) := by omega
  have e1 : IntKind.i64.wrap ((k : Int) + 1) = ((k + 1 : Nat) : Int) := i64w (by omega) (by omega)
  simp [hx, hne, e1, go_sem]
  have htk : (l.take k).filter (fun x => !p x) = l.take k := List.filter_eq_self.2 fun x hx => by
   rw [List.mem_take_iff_getElem] at hx
   obtain ⟨i, hi, rfl⟩ := hx
   have := hbef i (by omega)
   simpa using this
  have htk1 : (l.take (k + 1)).filter (fun x => !p x) = l.take k := by
   rw [List.take_succ_eq_append_getElem hk, List.filter_append, htk]; simp [hpk]
  refine vL_rule (S := fun x : List GArc × Nat × Nat => mkSt [(0, .own PIN 0 0 l.length), (1, .p (.fn df caps)), (5, .p (.int .i64 x.2.1)), (6, .p (.int .i64 x.2.2))] [(PIN, ⟨11, avs x.1⟩)])
   (I := fun x => x.1.length = l.length ∧ x.2.1 < x.2.2 ∧ x.2.2 ≤ l.length ∧ x.1.take x.2.1 = (l.take x.2.2).filter (fun x => !p x) ∧ x.1.drop x.2.2 = l.drop x.2.2 ∧ x.2.1 ≤ l.length) (m := fun x => l.length - x.2.2) (l, k, k + 1)
   (Weak.to [0, 1, 5, 6] [((PIN, 0), PIN)] (by simp [go_sem])) ⟨rfl, by simp, by simp; omega, by rw [htk1], rfl, by simp; omega⟩ ?_
  rintro ⟨L, i, j⟩ ⟨h1, h2, h3, h4, h5, h6⟩ R hn hr hx2
  simp only at h1 h2 h3 h4 h5 h6
  simp [g.slices_DeleteFunc_api_Arc_l1, mkSt, go_sem]
  refine ⟨fun hj => ?_, fun hj => hx2 _ _ ?_⟩
  ·have e2 : IntKind.i64.wrap ((j : Int) + 1) = ((j + 1 : Nat) : Int) := i64w (by omega) (by omega)
   have e3 : IntKind.i64.wrap ((i : Int) + 1) = ((i + 1 : Nat) : Int) := i64w (by omega) (by omega)
   have hjL : L[j]? = some l[j] := by
    have : (L.drop j)[0]? = (l.drop j)[0]? := by rw [h5]
    simpa [hj] using this
   refine ⟨by omega, atP_of hjL ?_⟩
   try simp [go_sem]
   refine callP_pure (hp l[j] (List.getElem_mem hj)) (mapM_c (by simp [go_sem]) (mapM_psF _ _)) ?_
   have htj : (l.take (j + 1)).filter (fun x => !p x) = (l.take j).filter (fun x => !p x) ++ (if p l[j] then [] else [l[j]]) := by
    rw [List.take_succ_eq_append_getElem hj, List.filter_append]
    by_cases h : p l[j] <;> simp [h]
   rcases Bool.eq_false_or_eq_true (p l[j]) with h7 | h7
   ·simp [h7, e2, go_sem]
    refine hn (L, i, j + 1) _ (Weak.to [0, 1, 5, 6] [((PIN, 0), PIN)] (by simp [go_sem])) ⟨h1, by show i < j + 1; omega, by show j + 1 ≤ l.length; omega, by show L.take i = _; rw [htj, h4]; simp [h7], ?_, h6⟩ (by show l.length - (j + 1) < l.length - j; omega)
    show L.drop (j + 1) = l.drop (j + 1)
    rw [<- List.drop_drop, h5, List.drop_drop]
   ·simp [h7, go_sem]
    refine ⟨by omega, ?_⟩
    refine atP_of (l := L) (n := i) (x := L[i]'(by omega)) (by simp) ?_
    simp [e2, e3, go_sem]
    have htki : (L.set i l[j]).take (i + 1) = L.take i ++ [l[j]] := by
     rw [List.take_succ_eq_append_getElem (by simp; omega), List.take_set_of_le (Nat.le_refl i)]
     simp
    refine hn (L.set i l[j], i + 1, j + 1) _ (Weak.to [0, 1, 5, 6] [((PIN, 0), PIN)] (by simp [go_sem])) ⟨by simp [h1], by show i + 1 < j + 1; omega, by show j + 1 ≤ l.length; omega, by show (L.set i l[j]).take (i + 1) = _; rw [htki, htj, h4]; simp [h7], ?_, by show i + 1 ≤ l.length; omega⟩ (by show l.length - (j + 1) < l.length - j; omega)
    show (L.set i l[j]).drop (j + 1) = l.drop (j + 1)
    rw [List.drop_set_of_lt (by omega), <- List.drop_drop, h5, List.drop_drop]
  ·have hjl : j = l.length := by omega
   subst hjl
   rw [List.take_length] at h4
   have hil : i = (l.filter fun x => !p x).length := by rw [<- h4]; simp; omega
   generalize (l.filter fun x => !p x) = D at *
   subst hil
   have ht : (avs L).take D.length = avs D := by rw [avs_take, h4]
   have hm1 : min D.length l.length = D.length := Nat.min_eq_left h6
   have hm2 : D.length + (l.length - D.length) = l.length := by omega
   simp [go_sem, h1, h6, hm1, hm2, h4]
   have hdl : L.drop l.length = [] := by rw [<- h1]; simp
   rw [hdl, avs_nil, List.append_nil]
   rfl
theorem delf_api_TArc (df : FuncId) (caps : List PV) (p : GTArc -> Bool) (l : List GTArc) (hl : l.length ≤ 1000000) (hp : ∀ x ∈ l, Sp P df (enc x :: caps) (.pure (.bool (p x)))) :
  SpM P F.slices_DeleteFunc_api_TArc [.sl (ens l), .fn df caps] 0 12 (ens (l.filter (fun x => !p x) ++ List.replicate (l.length - (l.filter fun x => !p x).length) (⟨0, 0, 0, 0, gw0'⟩ : GTArc))) (.same (l.filter fun x => !p x).length) := by
 have hfl : (l.filter fun x => !p x).length ≤ l.length := List.length_filter_le _ _
 refine SpM.of_vm c.slices_DeleteFunc_api_TArc (by simp) rfl (by simp [go_sem]; omega) ?_
 simp [g.slices_DeleteFunc_api_TArc, go_sem]
 refine callP_pure (idxf_api_TArc l df caps p (by omega) hp) (by simp [go_sem]) ?_
 cases hi : l.findIdx? p with
 | none =>
  have hn := List.findIdx?_eq_none_iff.1 hi
  have hf : l.filter (fun x => !p x) = l := List.filter_eq_self.2 fun x hx => by simp [hn x hx]
  have hx : idxI p l = -1 := by simp [idxI, hi]
  simp [hx, hf, go_sem]
 | some k =>
  obtain ⟨hk, hpk, hbef⟩ := List.findIdx?_eq_some_iff_getElem.1 hi
  have hx : idxI p l = k := by simp [idxI, hi]
  have hne : ¬ ((k : Int) = -1) := by omega
  have e1 : IntKind.i64.wrap ((k : Int) + 1) = ((k + 1 : Nat) : Int) := i64w (by omega) (by omega)
  simp [hx, hne, e1, go_sem]
  have htk : (l.take k).filter (fun x => !p x) = l.take k := List.filter_eq_self.2 fun x hx => by
   rw [List.mem_take_iff_getElem] at hx
   obtain ⟨i, hi, rfl⟩ := hx
   have := hbef i (by omega)
   simpa using this
  have htk1 : (l.take (k + 1)).filter (fun x => !p x) = l.take k := by
   rw [List.take_succ_eq_append_getElem hk, List.filter_append, htk]; simp [hpk]
  refine vL_rule (S := fun x : List GTArc × Nat × Nat => mkSt [(0, .own PIN 0 0 l.length), (1, .p (.fn df caps)), (5, .p (.int .i64 x.2.1)), (6, .p (.int .i64 x.2.2))] [(PIN, ⟨12, avs x.1⟩)])
   (I := fun x => x.1.length = l.length ∧ x.2.1 < x.2.2 ∧ x.2.2 ≤ l.length ∧ x.1.take x.2.1 = (l.take x.2.2).filter (fun x => !p x) ∧ x.1.drop x.2.2 = l.drop x.2.2 ∧ x.2.1 ≤ l.length) (m := fun x => l.length - x.2.2) (l, k, k + 1)
   (Weak.to [0, 1, 5, 6] [((PIN, 0), PIN)] (by simp [go_sem])) ⟨rfl, by simp, by simp; omega, by rw [htk1], rfl, by simp; omega⟩ ?_
  rintro ⟨L, i, j⟩ ⟨h1, h2, h3, h4, h5, h6⟩ R hn hr hx2
  simp only at h1 h2 h3 h4 h5 h6
  simp [g.slices_DeleteFunc_api_TArc_l1, mkSt, go_sem]
  refine ⟨fun hj => ?_, fun hj => hx2 _ _ ?_⟩
  ·have e2 : IntKind.i64.wrap ((j : Int) + 1) = ((j + 1 : Nat) : Int) := i64w (by omega) (by omega)
   have e3 : IntKind.i64.wrap ((i : Int) + 1) = ((i + 1 : Nat) : Int) := i64w (by omega) (by omega)
   have hjL : L[j]? = some l[j] := by
    have : (L.drop j)[0]? = (l.drop j)[0]? := by rw [h5]
    simpa [hj] using this
   refine ⟨by omega, atP_of hjL ?_⟩
   try simp [go_sem]
   refine callP_pure (hp l[j] (List.getElem_mem hj)) (mapM_c (by simp [go_sem]) (mapM_psF _ _)) ?_
   have htj : (l.take (j + 1)).filter (fun x => !p x) = (l.take j).filter (fun x => !p x) ++ (if p l[j] then [] else [l[j]]) := by
    rw [List.take_succ_eq_append_getElem hj, List.filter_append]
    by_cases h : p l[j] <;> simp [h]
   rcases Bool.eq_false_or_eq_true (p l[j]) with h7 | h7
   ·simp [h7, e2, go_sem]
    refine hn (L, i, j + 1) _ (Weak.to [0, 1, 5, 6] [((PIN, 0), PIN)] (by simp [go_sem])) ⟨h1, by show i < j + 1; omega, by show j + 1 ≤ l.length; omega, by show L.take i = _; rw [htj, h4]; simp [h7], ?_, h6⟩ (by show l.length - (j + 1) < l.length - j; omega)
    show L.drop (j + 1) = l.drop (j + 1)
    rw [<- List.drop_drop, h5, List.drop_drop]
   ·simp [h7, go_sem]
    refine ⟨by omega, ?_⟩
    refine atP_of (l := L) (n := i) (x := L[i]'(by omega)) (by simp) ?_
    simp [e2, e3, go_sem]
    have htki : (L.set i l[j]).take (i + 1) = L.take i ++ [l[j]] := by
     rw [List.take_succ_eq_append_getElem (by simp; omega), List.take_set_of_le (Nat.le_refl i)]
     simp
    refine hn (L.set i l[j], i + 1, j + 1) _ (Weak.to [0, 1, 5, 6] [((PIN, 0), PIN)] (by simp [go_sem])) ⟨by simp [h1], by show i + 1 < j + 1; omega, by show j + 1 ≤ l.length; omega, by show (L.set i l[j]).take (i + 1) = _; rw [htki, htj, h4]; simp [h7], ?_, by show i + 1 ≤ l.length; omega⟩ (by show l.length - (j + 1) < l.length - j; omega)
    show (L.set i l[j]).drop (j + 1) = l.drop (j + 1)
    rw [List.drop_set_of_lt (by omega), <- List.drop_drop, h5, List.drop_drop]
  ·have hjl : j = l.length := by omega
   subst hjl
   rw [List.take_length] at h4
   have hil : i = (l.filter fun x => !p x).length := by rw [<- h4]; simp; omega
   generalize (l.filter fun x => !p x) = D at *
   subst hil
   have ht : (avs L).take D.length = avs D := by rw [avs_take, h4]
   have hm1 : min D.length l.length = D.length := Nat.min_eq_left h6
   have hm2 : D.length + (l.length - D.length) = l.length := by omega
   simp [go_sem, h1, h6, hm1, hm2, h4]
   have hdl : L.drop l.length = [] := by rw [<- h1]; simp
   rw [hdl, avs_nil, List.append_nil]
   rfl
end Go.Ab
namespace Go.Ab
open Enc (enc)
@[go_sem] theorem vmO_elast {P : Program} {N : Nat} {Q : Exit -> St -> Prop} {α : Type} [Enc α] (o : List α) (x : AV) (f : AV -> Outc) (d : Option Nat) (dd : List (List Nat)) (ks : List Kt) : vmO P N Q (.el (avs o ++ [x]) o.length f) d dd ks = vmO P N Q (f x) d dd ks := by
 have : (avs o ++ [x])[o.length]? = some x := by rw [List.getElem?_append_right (by simp [go_sem])]; simp [go_sem]
 simp only [vmO, runO, this]
 exact propext ⟨fun ⟨e, h, k⟩ => by cases h; exact k, fun k => ⟨_, rfl, k⟩⟩
@[go_sem] theorem set_last {α : Type} [Enc α] (o : List α) (x y : AV) : (avs o ++ [x]).set o.length y = avs o ++ [y] := by
 rw [List.set_append_right _ _ (by simp [go_sem])]; simp [go_sem]
theorem take_avs {α : Type} [Enc α] (l : List α) (r : List α) : ((ens (l ++ r)).map AV.p).take l.length = avs l := by simp [avs, ens]
theorem callP_fresh0 {st : St} {f : FuncId} {e : Nat} {vs : List AV} {args : List PV} {sz : Nat} {es : List PV} {K : PCall -> AV -> St -> Prop} (hs : Sp P f args (.fresh sz es)) (hv : vs.mapM (toPV st FUEL) = some args)
  (h : es.all (fun v => v.sz == sz) = true ∧ 0 < sz ∧ es.length ≤ LIM) (h0 : vs.flatMap (deps st FUEL) = [])
  (k : K ⟨f, args, .fresh sz es, none⟩ (.own e (st.site e).length 0 es.length) (st.alloc e ⟨sz, es.map .p⟩)) : callP P st e f vs K :=
 callP_fresh hs hv h st (by rw [h0]; simp [killAll]) k
theorem callP_mut0 {st : St} {f : FuncId} {e : Nat} {vs : List AV} {args : List PV} {i sz : Nat} {es' : List PV} {r : PV} {K : PCall -> AV -> St -> Prop} (hs : SpM P f args i sz es' (.pure r)) (hv : vs.mapM (toPV st FUEL) = some args)
  {s g len : Nat} {sl : Bool} (href : mutRef vs[i]? = some (s, g, len, sl)) {o : AObj} (ho : st.obj s g = some o) (hi : i < vs.length) (hl : len = o.es.length) (hl2 : es'.length = len) (hsz : o.sz = sz) (hall : es'.all (fun v => v.sz == sz) = true) (hone : (es'.flatMap PV.cells).all PV.one = true)
  (h0 : (vs.eraseIdx i).flatMap (deps st FUEL) ++ o.es.flatMap (deps st 4) = [])
  (k : K ⟨f, args, .pure r, some (i, sz, es')⟩ (.p r) (st.setObj s g ⟨sz, es'.map .p⟩)) : callP P st e f vs K := by
 refine callP_mut hs hv href ho hi hl hl2 hsz hall hone (by rw [h0]; rfl) ?_
 rw [h0]
 simpa [killAll] using k
theorem tidyK1_sp (x : GArc) (r : GRing) (hw : x.w.sm 1048576) : Sp P F.automaton_Tidy_k1 [enc x, .ref (enc r)] (.pure (.bool (decide (x.w = r.zero)))) := by
 refine Sp.of_vmW c.automaton_Tidy_k1 (by simp) (Weak.openRef (t := 1) (v := enc r) (n := 2) (by simp [go_sem]) (by simp [go_sem])) ?_
 simp [g.automaton_Tidy_k1, go_sem]
 refine callP_pure (isZeroA_sp r x.w hw) (by simp [go_sem]) ?_
 simp [go_sem]
def upA (r : GRing) (z y : GArc) : GArc := ⟨z.f, z.l, z.t, r.plus z.w y.w⟩
noncomputable def tidA (r : GRing) (l : List GArc) : List GArc := (mrg GArc.key (upA r) id (srt GArc.key l)).filter fun x => !decide (x.w = r.zero)
theorem tidyA_inv {r : GRing} {n : Nat} (hn1 : 1 ≤ n) {l : List GArc} (h : ∀ x ∈ l, x.w.sm n ∧ x.w.chk r) (k : Nat) (hk : k ≤ l.length) :
  (mrg GArc.key (upA r) id (l.take k)).length ≤ k ∧ ∀ x ∈ mrg GArc.key (upA r) id (l.take k), x.w.sm ((k + 1) * (n + 1)) ∧ x.w.chk r := by
 refine mrg_all (up := upA r) (nw := id) (Q := fun k x => x.w.sm ((k + 1) * (n + 1)) ∧ x.w.chk r) (fun k x hx => ⟨hx.1.mono (Nat.mul_le_mul_right _ (by omega)), hx.2⟩) (fun x hx => ⟨(h x hx).1.mono (by omega), (h x hx).2⟩) (fun k z x hx hz => ⟨?_, (plus_chk hz.2 (h x hx).2 : (r.plus z.w x.w).chk r)⟩) (fun k x hx => ⟨hx.1.mono (Nat.mul_le_mul_right _ (by omega)), hx.2⟩) k hk
 have := plus_sm hz.1 (h x hx).1 hz.2 (h x hx).2 (Nat.le_trans hn1 (by rw [Nat.add_mul]; omega)) hn1
 have e : (k + 1) * (n + 1) + n + 1 = (k + 1 + 1) * (n + 1) := by rw [Nat.add_mul (k + 1) 1]; omega
 rw [<- e]; exact this
theorem tidyA_sp (r : GRing) (l : List GArc) (n : Nat) (hn : n ≤ 90) (hn1 : 3 ≤ n) (hl : l.length ≤ 19) (h : ∀ x ∈ l, x.w.sm n ∧ x.w.chk r) :
  Sp P F.automaton_Tidy [enc r, .sl (ens l)] (.pure (.sl (ens (tidA r l)))) := by
 have hs := srt_facts (key := GArc.key) l
 have h' : ∀ x ∈ srt GArc.key l, x.w.sm n ∧ x.w.chk r := fun x hx => h x ((hs.2.2 x).1 hx)
 have inv := tidyA_inv (by omega) h'
 unfold tidA
 generalize hS : srt GArc.key l = S at *
 have hSl : S.length = l.length := hs.2.1
 have hone : ∀ x : GArc, (enc x).cells.all PV.one = true := fun x => by simp [go_sem, PV.cells]
 refine Sp.of_vm' c.automaton_Tidy (by simp) fun _ => ?_
 simp [g.automaton_Tidy, go_sem]
 refine callP_fresh0 (clone_api_Arc l (by omega)) (by simp [go_sem]) ⟨all_enc _ _ rfl, by decide, by simp [ens, LIM]; omega⟩ (by simp [go_sem]) ?_
 simp [go_sem]
 refine callP_mut0 (sorts_api_Arc rfl hone GArc.key F.automaton_order l hl fun x hx y hy => ⟨_, orderA_lex x y, lexI_lt rfl⟩) (by simp [go_sem]) rfl rfl (by simp) (by simp [go_sem]) (by simp [go_sem, hS, hSl]) rfl (all_enc _ _ rfl) (cells_one hone _) (by simp [go_sem]) ?_
 simp [go_sem]
 rw [hS]
 have hone' : 3 ≤ n + 1 := by omega
 refine vL_rule (S := fun k : Nat => mkSt [(2, .ptr 2 0 0 0), (6, .own 1 0 0 (mrg GArc.key (upA r) id (S.take k)).length), (14, .own 3 0 0 S.length), (15, .p (.int .i64 S.length)), (16, .p (.int .i64 k))] [(2, ⟨2, [.p (enc r)]⟩), (1, ⟨11, avs (mrg GArc.key (upA r) id (S.take k))⟩), (3, ⟨11, avs S⟩)]) (I := fun k => k ≤ S.length) (m := fun k => S.length - k) 0
  (Weak.nl 6 77 11 rfl (Weak.to [2, 6, 14, 15, 16] [((2, 0), 2), ((77, 0), 1), ((11, 0), 3)] (by simp [go_sem, hSl, mrg]))) (by omega) ?_
 rintro k h1 R hn' hr hx
 have e3 : IntKind.i64.wrap ((k : Int) + 1) = ((k + 1 : Nat) : Int) := i64w (by omega) (by omega)
 obtain ⟨iv1, iv2⟩ := inv k h1
 generalize hO : mrg GArc.key (upA r) id (S.take k) = O at *
 by_cases hk : k < S.length
 rotate_left
 ·have : k = S.length := by omega
  subst this
  rw [List.take_of_length_le (Nat.le_refl _)] at hO
  rw [hO] at hx hr
  have hb : (O.length + 1) * (n + 1) ≤ 1048576 := by
   have := Nat.mul_le_mul (show O.length + 1 ≤ 20 by omega) (show n + 1 ≤ 91 by omega)
   omega
  have hb2 : (S.length + 1) * (n + 1) ≤ 1048576 := by
   have := Nat.mul_le_mul (show S.length + 1 ≤ 20 by omega) (show n + 1 ≤ 91 by omega)
   omega
  simp [g.automaton_Tidy_l1, mkSt, go_sem]
  refine hx _ _ ?_
  simp [go_sem]
  refine callP_same (delf_api_Arc F.automaton_Tidy_k1 [.ref (enc r)] (fun x => decide (x.w = r.zero)) O (by omega) fun x hx => tidyK1_sp x r ((iv2 x hx).1.mono hb2)) (by simp [go_sem, toPV4_ptr, toPV3_p]) rfl rfl (by simp) (by simp [go_sem]) (by simp [go_sem]; have := List.length_filter_le (fun x : GArc => !decide (x.w = r.zero)) O; omega) rfl (all_enc _ _ rfl) (cells_one hone _) (by simp [go_sem]) (List.length_filter_le _ _) ?_
  generalize hF : O.filter (fun x => !decide (x.w = r.zero)) = F0 at *
  have hFl : F0.length ≤ O.length := by rw [<- hF]; exact List.length_filter_le _ _
  have hA1 := take_avs F0 (List.replicate (O.length - F0.length) (⟨0, 0, 0, gw0'⟩ : GArc))
  have hA2 : F0.length ≤ (ens (F0 ++ List.replicate (O.length - F0.length) (⟨0, 0, 0, gw0'⟩ : GArc))).length := by simp [ens]
  generalize ens (F0 ++ List.replicate (O.length - F0.length) (⟨0, 0, 0, gw0'⟩ : GArc)) = A0 at *
  cases hfl : A0.all PV.flat
  ·simp [go_sem, killAll]
   rw [hA1]; simp [go_sem, hA2]
  ·simp [go_sem, killAll]
   rw [hA1]; simp [go_sem, hA2]
 have hw := h' _ (List.getElem_mem hk)
 have hnx := mrg_take_succ (key := GArc.key) (up := upA r) (nw := id) hk
 rw [hO] at hnx
 have cz := zero_chk hw.2.1
 have sz := zero_sm (n := n) hw.2.1 hn1
 have pz := plus_zero hw.2
 rcases List.eq_nil_or_concat O with rfl | ⟨o, z, rfl⟩
 ·simp [g.automaton_Tidy_l1, mkSt, go_sem, hk]
  refine atP_get hk ?_
  refine callP_pure (zeroS_sp r) rfl ?_
  simp [go_sem]
  refine callP_pure (plusS_sp r S[k].w r.zero n hw.1 sz (by omega) (by omega) hw.2 cz) (by simp [go_sem]) ?_
  rw [pz]
  simp [go_sem, e3]
  refine hn' (k + 1) _ (Weak.to [2, 6, 14, 15, 16] [((2, 0), 2), ((59, 0), 1), ((3, 0), 3)] ?_) (by omega) (by omega)
  rw [hnx]
  simp [mkSt, go_sem, mst]
 ·have e4 : IntKind.i64.wrap (o.length : Int) = (o.length : Int) := i64w (by omega) (by simp at iv1; omega)
  simp [g.automaton_Tidy_l1, mkSt, go_sem, hk, e4]
  refine atP_get hk ?_
  refine callP_pure (orderA_lex z S[k]) (by simp [go_sem]) ?_
  simp [go_sem, e4]
  have hz := iv2 z (by simp)
  have hb2 : (k + 1) * (n + 1) ≤ 2000 := by
   have := Nat.mul_le_mul (show k + 1 ≤ 20 by omega) (show n + 1 ≤ 91 by omega)
   omega
  have hb3 : n ≤ (k + 1) * (n + 1) := by rw [Nat.add_mul]; omega
  have hle : lexI z.key S[k].key = 0 ↔ z.key = S[k].key := lexI_eq (by simp [GArc.key])
  refine ⟨fun h0 => ?_, fun h0 => ?_⟩
  ·rw [List.concat_eq_append, mst_old (key := GArc.key) (z := z) (y := S[k]) (hle.1 h0)] at hnx
   refine callP_pure (plusS_sp r z.w S[k].w _ hz.1 (hw.1.mono hb3) hb2 (by omega) hz.2 hw.2) (by simp [go_sem]) ?_
   simp [go_sem, e3, e4]
   refine hn' (k + 1) _ (Weak.to [2, 6, 14, 15, 16] [((2, 0), 2), ((1, 0), 1), ((3, 0), 3)] ?_) (by omega) (by omega)
   rw [hnx]
   simp [mkSt, go_sem, upA]
  ·rw [List.concat_eq_append, mst_new (key := GArc.key) (z := z) (y := S[k]) (fun h => h0 (hle.2 h))] at hnx
   refine callP_pure (zeroS_sp r) rfl ?_
   simp [go_sem]
   refine callP_pure (plusS_sp r S[k].w r.zero n hw.1 sz (by omega) (by omega) hw.2 cz) (by simp [go_sem]) ?_
   rw [pz]
   simp [go_sem, e3]
   refine ⟨by simp at iv1; omega, hn' (k + 1) _ (Weak.to [2, 6, 14, 15, 16] [((2, 0), 2), ((59, 0), 1), ((3, 0), 3)] ?_) (by omega) (by omega)⟩
   rw [hnx]
   simp [mkSt, go_sem, upA]
end Go.Ab
namespace Go.Ab
open Enc (enc)
structure GAuto.ok (a : GAuto) : Prop where
 ring : a.ring.ok = true
 sy1 : 1 ≤ a.sy
 sy2 : a.sy ≤ 32
 st1 : 0 ≤ a.st
 st2 : a.st ≤ 64
 il : (a.ini.length : Int) = a.st
 fl : (a.fin.length : Int) = a.st
 al : a.arcs.length ≤ 2048
 arcs : ∀ x ∈ a.arcs, inA x a
 ini : ∀ w ∈ a.ini, w.chk a.ring
 fin : ∀ w ∈ a.fin, w.chk a.ring
theorem any_chk {r : GRing} {l : List GW} : (!l.any fun w => !decide (w.chk r)) = true ↔ ∀ w ∈ l, w.chk r := by
 simp
theorem GAuto.vb_iff {a : GAuto} : a.vb = true ↔ a.ok := by
 unfold GAuto.vb
 simp only [Bool.and_eq_true, decide_eq_true_eq, any_chk]
 constructor
 ·rintro ⟨h1, h2, h3, h4, h5, h6, h7, h8, h9, h10, h11⟩
  exact ⟨h1, h2, h3, h4, h5, h6, h7, h8, fun x hx => by simpa using (by simpa using h9 : ∀ x ∈ a.arcs, inA x a) x hx, h10, h11⟩
 ·rintro ⟨h1, h2, h3, h4, h5, h6, h7, h8, h9, h10, h11⟩
  exact ⟨h1, h2, h3, h4, h5, h6, h7, h8, by simpa using h9, h10, h11⟩
def gauto0 : GAuto := ⟨⟨0, []⟩, 0, 0, [], [], []⟩
noncomputable def GAuto.nf (a : GAuto) : GAuto := ⟨a.ring, a.sy, a.st, a.ini, a.fin, tidA a.ring a.arcs⟩
theorem GAuto.sm.mono {a : GAuto} {m n : Nat} (h : a.sm m) (k : m ≤ n) : a.sm n := ⟨fun w hw => (h.ini w hw).mono k, fun w hw => (h.fin w hw).mono k, fun x hx => (h.arcs x hx).mono k⟩
theorem copy_id {r : GRing} {l : List GW} (h : ∀ w ∈ l, w.chk r) : (l.map fun w => r.plus w r.zero) = l := by
 have : (l.map fun w => r.plus w r.zero) = l.map id := List.map_congr_left fun w hw => plus_zero (h w hw)
 rw [this, List.map_id]
theorem ok_plen {r : GRing} (h : r.ok = true) : r.parts.length ≤ 3 := by
 by_cases h6 : r.kind = 6
 ·exact (GRing.ok_parts h h6).2.1
 ·simp [(GRing.ok_kind h h6).2.2]
theorem copyC_sp (r : GRing) (l : List GW) (n : Nat) (hn : n ≤ 90) (hn1 : 3 ≤ n) (hr : r.ok = true) (hl : l.length ≤ 64) (h : ∀ w ∈ l, w.sm n) (c : ∀ w ∈ l, w.chk r) : Sp P F.automaton_Copy [enc r, .sl (ens l)] (.pure (.sl (ens l))) := by
 have k := copyA_sp r l n (by omega) (by omega) (by omega) (fun w hw => ⟨h w hw, c w hw⟩) (zero_sm hr hn1) (zero_chk hr)
 rwa [copy_id c] at k
theorem normalA_sp (a : GAuto) (n : Nat) (hn : n ≤ 90) (hn1 : 3 ≤ n) (h : a.sm n) (hl : a.arcs.length ≤ 19) :
  Sp P F.automaton_Normal [enc a] (.pure (.tup [enc (if a.vb then a.nf else gauto0), .int .i64 (if a.vb then 0 else 4)])) := by
 refine Sp.of_vm' c.automaton_Normal (by simp) fun _ => ?_
 simp [g.automaton_Normal, go_sem]
 refine callP_pure (validA_sp a (h.mono (by omega))) (by simp [go_sem]) ?_
 cases hv : a.vb
 ·simp [go_sem, gauto0]
 have ok := GAuto.vb_iff.1 hv
 have i1 := ok.il; have i2 := ok.fl; have i3 := ok.st2
 simp [go_sem]
 refine callP_pure (ringA_sp a.ring (by have := ok_plen ok.ring; omega)) (by simp [go_sem]) ?_
 simp [go_sem]
 refine callP_pure (copyC_sp a.ring a.ini n hn hn1 ok.ring (by omega) h.ini ok.ini) (by simp [go_sem]) ?_
 simp [go_sem]
 refine callP_pure (copyC_sp a.ring a.fin n hn hn1 ok.ring (by omega) h.fin ok.fin) (by simp [go_sem]) ?_
 simp [go_sem]
 refine callP_pure (tidyA_sp a.ring a.arcs n hn hn1 hl fun x hx => ⟨h.arcs x hx, (ok.arcs x hx).2.2.2.2.2.2⟩) (by simp [go_sem]) ?_
 simp [go_sem, GAuto.nf]
end Go.Ab
namespace Go.Ab
open Enc (enc)
theorem orderT_lex (x y : GTArc) : Sp P F.transducer_order [enc x, enc y] (.pure (.int .i64 (lexI x.key y.key))) := by
 rw [<- firstI_lex x.key y.key rfl, show List.zipWith cmpI x.key y.key = [cmpI x.f y.f, cmpI x.i y.i, cmpI x.o y.o, cmpI x.t y.t] from rfl]
 refine Sp.of_vm' c.transducer_order (by simp) fun _ => ?_
 simp [g.transducer_order, go_sem]
 refine callP_pure (cmpC_sp x.f y.f) rfl ?_
 simp [go_sem]
 refine callP_pure (cmpC_sp x.i y.i) rfl ?_
 simp [go_sem]
 refine callP_pure (cmpC_sp x.o y.o) rfl ?_
 simp [go_sem]
 refine callP_pure (cmpC_sp x.t y.t) rfl ?_
 simp [go_sem]
 refine callP_pure (cmpOr_sp [cmpI x.f y.f, cmpI x.i y.i, cmpI x.o y.o, cmpI x.t y.t] (by simp)) (by simp [go_sem]) ?_
 simp [go_sem]
theorem weightsK1T_sp (r : GRing) (w : GW) (hw : w.sm 1048576) : Sp P F.transducer_weights_k1 [enc w, .ref (enc r)] (.pure (.bool (!decide (w.chk r)))) := by
 refine Sp.of_vmW c.transducer_weights_k1 (by simp) (Weak.openRef (t := 1) (v := enc r) (n := 2) (by simp [go_sem]) (by simp [go_sem])) ?_
 simp [g.transducer_weights_k1, go_sem]
 refine callP_pure (checkS_sp r w hw) (by simp [go_sem]) ?_
 simp [go_sem]
theorem weightsT_sp (r : GRing) (l : List GW) (m : Int) (hl : ∀ w ∈ l, w.sm 1048576) (hlen : l.length ≤ 2147483648) : Sp P F.transducer_weights [enc r, .sl (ens l), .int .i64 m] (.pure (.bool (decide ((l.length : Int) = m ∧ ∀ w ∈ l, w.chk r)))) := by
 refine Sp.of_vm' c.transducer_weights (by simp) fun _ => ?_
 have e : decide ((l.length : Int) = m ∧ ∀ w ∈ l, w.chk r) = (decide ((l.length : Int) = m) && !l.any fun w => !decide (w.chk r)) := by
  rw [Bool.eq_iff_iff]; simp
 rw [e]
 simp [g.transducer_weights, go_sem]
 refine ⟨fun h => ?_, fun h => by simp [h]⟩
 refine callP_pure (has_api_Weight l F.transducer_weights_k1 [.ref (enc r)] (fun w => !decide (w.chk r)) (by omega) fun w hw => weightsK1T_sp r w (hl w hw)) (by simp [go_sem, toPV4_ptr, toPV3_p]) ?_
 simp [go_sem, h]
theorem symbolsT_sp (m : Int) : Sp P F.transducer_symbols [.int .i64 m] (.pure (.bool (decide (1 ≤ m ∧ m ≤ 32)))) := by
 refine Sp.of_vm' c.transducer_symbols (by simp) fun _ => ?_
 simp [g.transducer_symbols, go_sem]
 exact ⟨fun h _ => h, fun h h' => by omega⟩
end Go.Ab
namespace Go.Ab
open Enc (enc)
theorem tidyK1T_sp (x : GTArc) (r : GRing) (hw : x.w.sm 1048576) : Sp P F.transducer_Tidy_k1 [enc x, .ref (enc r)] (.pure (.bool (decide (x.w = r.zero)))) := by
 refine Sp.of_vmW c.transducer_Tidy_k1 (by simp) (Weak.openRef (t := 1) (v := enc r) (n := 2) (by simp [go_sem]) (by simp [go_sem])) ?_
 simp [g.transducer_Tidy_k1, go_sem]
 refine callP_pure (isZeroA_sp r x.w hw) (by simp [go_sem]) ?_
 simp [go_sem]
def upT (r : GRing) (z y : GTArc) : GTArc := ⟨z.f, z.i, z.o, z.t, r.plus z.w y.w⟩
noncomputable def tidT (r : GRing) (l : List GTArc) : List GTArc := (mrg GTArc.key (upT r) id (srt GTArc.key l)).filter fun x => !decide (x.w = r.zero)
theorem tidyT_inv {r : GRing} {n : Nat} (hn1 : 1 ≤ n) {l : List GTArc} (h : ∀ x ∈ l, x.w.sm n ∧ x.w.chk r) (k : Nat) (hk : k ≤ l.length) :
  (mrg GTArc.key (upT r) id (l.take k)).length ≤ k ∧ ∀ x ∈ mrg GTArc.key (upT r) id (l.take k), x.w.sm ((k + 1) * (n + 1)) ∧ x.w.chk r := by
 refine mrg_all (up := upT r) (nw := id) (Q := fun k x => x.w.sm ((k + 1) * (n + 1)) ∧ x.w.chk r) (fun k x hx => ⟨hx.1.mono (Nat.mul_le_mul_right _ (by omega)), hx.2⟩) (fun x hx => ⟨(h x hx).1.mono (by omega), (h x hx).2⟩) (fun k z x hx hz => ⟨?_, (plus_chk hz.2 (h x hx).2 : (r.plus z.w x.w).chk r)⟩) (fun k x hx => ⟨hx.1.mono (Nat.mul_le_mul_right _ (by omega)), hx.2⟩) k hk
 have := plus_sm hz.1 (h x hx).1 hz.2 (h x hx).2 (Nat.le_trans hn1 (by rw [Nat.add_mul]; omega)) hn1
 have e : (k + 1) * (n + 1) + n + 1 = (k + 1 + 1) * (n + 1) := by rw [Nat.add_mul (k + 1) 1]; omega
 rw [<- e]; exact this
theorem tidyT_sp (r : GRing) (l : List GTArc) (n : Nat) (hn : n ≤ 90) (hn1 : 3 ≤ n) (hl : l.length ≤ 19) (h : ∀ x ∈ l, x.w.sm n ∧ x.w.chk r) :
  Sp P F.transducer_Tidy [enc r, .sl (ens l)] (.pure (.sl (ens (tidT r l)))) := by
 have hs := srt_facts (key := GTArc.key) l
 have h' : ∀ x ∈ srt GTArc.key l, x.w.sm n ∧ x.w.chk r := fun x hx => h x ((hs.2.2 x).1 hx)
 have inv := tidyT_inv (by omega) h'
 unfold tidT
 generalize hS : srt GTArc.key l = S at *
 have hSl : S.length = l.length := hs.2.1
 have hone : ∀ x : GTArc, (enc x).cells.all PV.one = true := fun x => by simp [go_sem, PV.cells]
 refine Sp.of_vm' c.transducer_Tidy (by simp) fun _ => ?_
 simp [g.transducer_Tidy, go_sem]
 refine callP_fresh0 (clone_api_TArc l (by omega)) (by simp [go_sem]) ⟨all_enc _ _ rfl, by decide, by simp [ens, LIM]; omega⟩ (by simp [go_sem]) ?_
 simp [go_sem]
 refine callP_mut0 (sorts_api_TArc rfl hone GTArc.key F.transducer_order l hl fun x hx y hy => ⟨_, orderT_lex x y, lexI_lt rfl⟩) (by simp [go_sem]) rfl rfl (by simp) (by simp [go_sem]) (by simp [go_sem, hS, hSl]) rfl (all_enc _ _ rfl) (cells_one hone _) (by simp [go_sem]) ?_
 simp [go_sem]
 rw [hS]
 have hone' : 3 ≤ n + 1 := by omega
 refine vL_rule (S := fun k : Nat => mkSt [(2, .ptr 2 0 0 0), (6, .own 1 0 0 (mrg GTArc.key (upT r) id (S.take k)).length), (14, .own 3 0 0 S.length), (15, .p (.int .i64 S.length)), (16, .p (.int .i64 k))] [(2, ⟨2, [.p (enc r)]⟩), (1, ⟨12, avs (mrg GTArc.key (upT r) id (S.take k))⟩), (3, ⟨12, avs S⟩)]) (I := fun k => k ≤ S.length) (m := fun k => S.length - k) 0
  (Weak.nl 6 77 12 rfl (Weak.to [2, 6, 14, 15, 16] [((2, 0), 2), ((77, 0), 1), ((11, 0), 3)] (by simp [go_sem, hSl, mrg]))) (by omega) ?_
 rintro k h1 R hn' hr hx
 have e3 : IntKind.i64.wrap ((k : Int) + 1) = ((k + 1 : Nat) : Int) := i64w (by omega) (by omega)
 obtain ⟨iv1, iv2⟩ := inv k h1
 generalize hO : mrg GTArc.key (upT r) id (S.take k) = O at *
 by_cases hk : k < S.length
 rotate_left
 ·have : k = S.length := by omega
  subst this
  rw [List.take_of_length_le (Nat.le_refl _)] at hO
  rw [hO] at hx hr
  have hb : (O.length + 1) * (n + 1) ≤ 1048576 := by
   have := Nat.mul_le_mul (show O.length + 1 ≤ 20 by omega) (show n + 1 ≤ 91 by omega)
   omega
  have hb2 : (S.length + 1) * (n + 1) ≤ 1048576 := by
   have := Nat.mul_le_mul (show S.length + 1 ≤ 20 by omega) (show n + 1 ≤ 91 by omega)
   omega
  simp [g.transducer_Tidy_l1, mkSt, go_sem]
  refine hx _ _ ?_
  simp [go_sem]
  refine callP_same (delf_api_TArc F.transducer_Tidy_k1 [.ref (enc r)] (fun x => decide (x.w = r.zero)) O (by omega) fun x hx => tidyK1T_sp x r ((iv2 x hx).1.mono hb2)) (by simp [go_sem, toPV4_ptr, toPV3_p]) rfl rfl (by simp) (by simp [go_sem]) (by simp [go_sem]; have := List.length_filter_le (fun x : GTArc => !decide (x.w = r.zero)) O; omega) rfl (all_enc _ _ rfl) (cells_one hone _) (by simp [go_sem]) (List.length_filter_le _ _) ?_
  generalize hF : O.filter (fun x => !decide (x.w = r.zero)) = F0 at *
  have hFl : F0.length ≤ O.length := by rw [<- hF]; exact List.length_filter_le _ _
  have hA1 := take_avs F0 (List.replicate (O.length - F0.length) (⟨0, 0, 0, 0, gw0'⟩ : GTArc))
  have hA2 : F0.length ≤ (ens (F0 ++ List.replicate (O.length - F0.length) (⟨0, 0, 0, 0, gw0'⟩ : GTArc))).length := by simp [ens]
  generalize ens (F0 ++ List.replicate (O.length - F0.length) (⟨0, 0, 0, 0, gw0'⟩ : GTArc)) = A0 at *
  cases hfl : A0.all PV.flat
  ·simp [go_sem, killAll]
   rw [hA1]; simp [go_sem, hA2]
  ·simp [go_sem, killAll]
   rw [hA1]; simp [go_sem, hA2]
 have hw := h' _ (List.getElem_mem hk)
 have hnx := mrg_take_succ (key := GTArc.key) (up := upT r) (nw := id) hk
 rw [hO] at hnx
 have cz := zero_chk hw.2.1
 have sz := zero_sm (n := n) hw.2.1 hn1
 have pz := plus_zero hw.2
 rcases List.eq_nil_or_concat O with rfl | ⟨o, z, rfl⟩
 ·simp [g.transducer_Tidy_l1, mkSt, go_sem, hk]
  refine atP_get hk ?_
  refine callP_pure (zeroS_sp r) rfl ?_
  simp [go_sem]
  refine callP_pure (plusS_sp r S[k].w r.zero n hw.1 sz (by omega) (by omega) hw.2 cz) (by simp [go_sem]) ?_
  rw [pz]
  simp [go_sem, e3]
  refine hn' (k + 1) _ (Weak.to [2, 6, 14, 15, 16] [((2, 0), 2), ((59, 0), 1), ((3, 0), 3)] ?_) (by omega) (by omega)
  rw [hnx]
  simp [mkSt, go_sem, mst]
 ·have e4 : IntKind.i64.wrap (o.length : Int) = (o.length : Int) := i64w (by omega) (by simp at iv1; omega)
  simp [g.transducer_Tidy_l1, mkSt, go_sem, hk, e4]
  refine atP_get hk ?_
  refine callP_pure (zeroS_sp r) rfl ?_
  simp [go_sem]
  refine callP_pure (plusS_sp r S[k].w r.zero n hw.1 sz (by omega) (by omega) hw.2 cz) (by simp [go_sem]) ?_
  rw [pz]
  simp [go_sem, e4]
  refine callP_pure (orderT_lex z S[k]) (by simp [go_sem]) ?_
  simp [go_sem, e4]
  have hz := iv2 z (by simp)
  have hb2 : (k + 1) * (n + 1) ≤ 2000 := by
   have := Nat.mul_le_mul (show k + 1 ≤ 20 by omega) (show n + 1 ≤ 91 by omega)
   omega
  have hb3 : n ≤ (k + 1) * (n + 1) := by rw [Nat.add_mul]; omega
  have hle : lexI z.key S[k].key = 0 ↔ z.key = S[k].key := lexI_eq (by simp [GTArc.key])
  refine ⟨fun h0 => ?_, fun h0 => ?_⟩
  ·rw [List.concat_eq_append, mst_old (key := GTArc.key) (z := z) (y := S[k]) (hle.1 h0)] at hnx
   refine callP_pure (plusS_sp r z.w S[k].w _ hz.1 (hw.1.mono hb3) hb2 (by omega) hz.2 hw.2) (by simp [go_sem]) ?_
   simp [go_sem, e3, e4]
   refine hn' (k + 1) _ (Weak.to [2, 6, 14, 15, 16] [((2, 0), 2), ((1, 0), 1), ((3, 0), 3)] ?_) (by omega) (by omega)
   rw [hnx]
   simp [mkSt, go_sem, upT]
  ·rw [List.concat_eq_append, mst_new (key := GTArc.key) (z := z) (y := S[k]) (fun h => h0 (hle.2 h))] at hnx
   simp [go_sem, e3]
   refine ⟨by simp at iv1; omega, hn' (k + 1) _ (Weak.to [2, 6, 14, 15, 16] [((2, 0), 2), ((59, 0), 1), ((3, 0), 3)] ?_) (by omega) (by omega)⟩
   rw [hnx]
   simp [mkSt, go_sem, upT]
end Go.Ab
