/-
Proofs for the law ProjectSides of the seat, part 30 (texts X16 W6 W7 W8 X17 Fw42 Fw44 DevT). Conditions: none.
-/
import Derived.Test.YtalcegbealdigaaGreatDoorP29
import Derived.Test.YtalcegbealdigaaGreatDoorP11
import Derived.Test.YtalcegbealdigaaGreatDoorP13
import Derived.Test.YtalcegbealdigaaGreatDoorP24
import Derived.Test.YtalcegbealdigaaGreatDoorP14
import Derived.KernelRfl
set_option maxRecDepth 100000
set_option maxHeartbeats 4000000
set_option linter.all false
namespace Go.Ab
open Enc (enc)
attribute [local go_sem] optOpd Opd.slots
theorem zeroK1_sp (k : Int) (hk : 1 ≤ k ∧ k ≤ 5) (i : Int) : Sp P F.semiring_Zero_k1 [kindA k, .int .i64 i] (.pure (enc (zeroK k))) := by
 obtain ⟨f5, f6, f7, f8, c5, c8, hA⟩ := kindA_eq k hk
 rw [hA]
 refine Sp.of_vm' c.semiring_Zero_k1 (by simp) fun _ => ?_
 simp [g.semiring_Zero_k1, go_sem]
 refine callP_pure (zeroF_sp k hk) rfl ?_
 simp [go_sem]
theorem zeroS_sp (r : GRing) : Sp P F.semiring_Zero [enc r] (.pure (enc r.zero)) := by
 refine Sp.of_vm' c.semiring_Zero (by simp) fun _ => ?_
 simp [g.semiring_Zero, go_sem]
 refine callP_pure (validS_sp r) rfl ?_
 rcases Bool.eq_false_or_eq_true r.ok with hr0 | hr0
 rotate_left
 ·simp [hr0, GRing.zero, gw0, go_sem]
 simp [hr0, go_sem]
 refine ⟨fun h6 => ?_, fun h6 => ?_⟩
 ·have hp := GRing.ok_parts hr0 h6
  refine callP_pure (each_sp r hp.2.2 hp.2.1 F.semiring_Zero_k1 [] (r.parts.map zeroK) (by simp) fun i h h' => by simpa using zeroK1_sp r.parts[i] (hp.2.2 _ (List.getElem_mem h)) i) rfl ?_
  simp [hr0, GRing.zero, h6, go_sem]
 ·have hk := GRing.ok_kind hr0 h6
  obtain ⟨f5, f6, f7, f8, c5, c8, hA⟩ := kindA_eq r.kind ⟨hk.1, hk.2.1⟩
  refine callP_pure (kind_sp r.kind ⟨hk.1, hk.2.1⟩) rfl ?_
  simp [hA, go_sem]
  refine callP_pure (zeroF_sp r.kind ⟨hk.1, hk.2.1⟩) rfl ?_
  simp [hr0, GRing.zero, hk.2.2, zeroK, go_sem]
theorem checkS_sp (r : GRing) (w : GW) (hw : w.sm 1048576) : Sp P F.semiring_Check [enc r, enc w] (.pure (.bool (decide (w.chk r)))) := by
 refine Sp.of_vm' c.semiring_Check (by simp) fun _ => ?_
 simp [g.semiring_Check, go_sem]
 refine callP_pure (validS_sp r) rfl ?_
 rcases Bool.eq_false_or_eq_true r.ok with hr0 | hr0
 rotate_left
 ·simp [hr0, GW.chk, go_sem]
 simp [hr0, go_sem]
 refine ⟨fun h6 => ?_, fun h6 => ?_⟩
 rotate_left
 ·have hk := GRing.ok_kind hr0 h6
  obtain ⟨f5, f6, f7, f8, c5, c8, hA⟩ := kindA_eq r.kind ⟨hk.1, hk.2.1⟩
  refine callP_pure (kind_sp r.kind ⟨hk.1, hk.2.1⟩) rfl ?_
  simp [hA, go_sem]
  refine callP_pure (chkF_sp r.kind ⟨hk.1, hk.2.1⟩ w hw) (by simp [go_sem]) ?_
  simp [GW.chk, hr0, h6, go_sem]
 have hp := GRing.ok_parts hr0 h6
 refine ⟨fun hl => ?_, fun hl h => ?_⟩
 rotate_left
 ·have := (h.2.2 h6).1; omega
 have hl' : w.parts.length = r.parts.length := by omega
 refine callP_pure (equalS_sp w hw (.mk gr0 0 false 0 [] w.parts)) (by simp [go_sem]) ?_
 simp [go_sem]
 refine ⟨fun he => ?_, fun he h => he (h.2.2 h6).2.1⟩
 refine vL_rule (S := fun k : Nat => mkSt [(3, .ptr 1 0 0 0), (35, .p (.sl (ens r.parts))), (36, .p (.int .i64 r.parts.length)), (37, .p (.int .i64 k))] [(1, ⟨8, [.p (enc w)]⟩)]) (I := fun k => k ≤ r.parts.length ∧ ∀ i, (h : i < r.parts.length) -> (h' : i < w.parts.length) -> i < k -> w.parts[i].si r.parts[i]) (m := fun k => r.parts.length - k) 0
  (Weak.to [3, 35, 36, 37] [((3, 0), 1)] (by simp [go_sem])) ⟨by omega, fun i h h' h0 => by omega⟩ ?_
 rintro k ⟨h7, h8⟩ R hn hr hx
 have e1 : IntKind.i64.wrap ((k : Int) + 1) = ((k + 1 : Nat) : Int) := i64w (by omega) (by omega)
 simp [g.semiring_Check_l1, mkSt, go_sem]
 refine ⟨fun hk => ?_, fun hk => hx _ _ ?_⟩
 ·have hk2 : k < w.parts.length := by omega
  have hpk := hp.2.2 _ (List.getElem_mem hk)
  obtain ⟨f5, f6, f7, f8, c5, c8, hA⟩ := kindA_eq r.parts[k] hpk
  refine atP_get hk ?_
  try simp [go_sem]
  refine callP_pure (kind_sp r.parts[k] hpk) rfl ?_
  simp [hA, go_sem]
  refine atP_get hk2 ?_
  try simp [go_sem]
  refine callP_pure (chkF_sp r.parts[k] hpk w.parts[k] (hw.parts _ (List.getElem_mem hk2))) (by simp [go_sem]) ?_
  by_cases h9 : w.parts[k].si r.parts[k]
  ·simp [h9, e1, go_sem]
   refine hn (k + 1) _ (Weak.to [3, 35, 36, 37] [((1, 0), 1)] (by simp [go_sem])) ⟨by omega, fun i h h' hi => ?_⟩ (by omega)
   by_cases hik : i < k
   ·exact h8 i h h' hik
   ·have : i = k := by omega
    subst this; exact h9
  ·simp [h9, go_sem]
   refine hr _ ?_
   have : ¬ w.chk r := fun h => h9 ((h.2.2 h6).2.2 k hk hk2)
   simp [this, go_sem]
 ·have : w.chk r := ⟨hr0, fun h => absurd h6 h, fun _ => ⟨hl', he, fun i h h' => h8 i h h' (by omega)⟩⟩
  simp [this, go_sem]
theorem valueS_sp (r : GRing) (w : GW) (hw : w.sm 1048576) : Sp P F.semiring_value [enc r, enc w] (.pure (enc (w.tk r))) := by
 refine Sp.of_vm' c.semiring_value (by simp) fun _ => ?_
 simp [g.semiring_value, go_sem]
 refine callP_pure (checkS_sp r w hw) (by simp [go_sem]) ?_
 by_cases hc : w.chk r
 ·simp [hc, GW.tk, go_sem]
 ·simp [hc, GW.tk, go_sem]
  refine callP_pure (zeroS_sp r) (by simp [go_sem]) ?_
  simp [go_sem]
end Go.Ab
namespace Go.Ab
open Enc (enc)
attribute [local go_sem] optOpd Opd.slots
def oneW (k : Int) (ps : List GW) : GW := .mk (if k = 1 ∨ k = 3 then rto 1 else gr0) 0 false (if k = 4 then 18446744073709551615 else 0) (if k = 5 then pconst 1 else []) ps
def GRing.one (r : GRing) : GW := if r.ok then oneW r.kind (r.parts.map fun k => oneW k []) else gw0
theorem one3_1 : Sp P F.ref03_One [enc (⟨1, []⟩ : GRing)] (.pure (enc (oneW 1 []))) := by
 have hd : Rat.divInt 1 1 = 1 := rfl
 have hof := of1_sp 1 1 (by omega) (by omega) (by omega)
 rw [hd] at hof
 have hr0 : (⟨1, []⟩ : GRing).ok = true := ok_one (by omega)
 refine Sp.of_vm' c.ref03_One (by simp) fun _ => ?_
 simp [g.ref03_One, go_sem]
 refine callP_pure (valid3_sp ⟨1, []⟩) rfl ?_
 simp [hr0, go_sem]
 refine callP_pure hof rfl ?_
 simp [go_sem]
 refine vL_unroll fun R hn hr hx => ?_
 simp [g.ref03_One_l1, go_sem]
 refine hx _ _ ?_
 simp [oneW, pconst, v_rto, go_sem]
theorem one3_2 : Sp P F.ref03_One [enc (⟨2, []⟩ : GRing)] (.pure (enc (oneW 2 []))) := by
 have hd : Rat.divInt 1 1 = 1 := rfl
 have hof := of1_sp 1 1 (by omega) (by omega) (by omega)
 rw [hd] at hof
 have hr0 : (⟨2, []⟩ : GRing).ok = true := ok_one (by omega)
 refine Sp.of_vm' c.ref03_One (by simp) fun _ => ?_
 simp [g.ref03_One, go_sem]
 refine callP_pure (valid3_sp ⟨2, []⟩) rfl ?_
 simp [hr0, go_sem]
 refine vL_unroll fun R hn hr hx => ?_
 simp [g.ref03_One_l1, go_sem]
 refine hx _ _ ?_
 simp [oneW, pconst, v_rto, go_sem]
theorem one3_3 : Sp P F.ref03_One [enc (⟨3, []⟩ : GRing)] (.pure (enc (oneW 3 []))) := by
 have hd : Rat.divInt 1 1 = 1 := rfl
 have hof := of1_sp 1 1 (by omega) (by omega) (by omega)
 rw [hd] at hof
 have hr0 : (⟨3, []⟩ : GRing).ok = true := ok_one (by omega)
 refine Sp.of_vm' c.ref03_One (by simp) fun _ => ?_
 simp [g.ref03_One, go_sem]
 refine callP_pure (valid3_sp ⟨3, []⟩) rfl ?_
 simp [hr0, go_sem]
 refine callP_pure hof rfl ?_
 simp [go_sem]
 refine vL_unroll fun R hn hr hx => ?_
 simp [g.ref03_One_l1, go_sem]
 refine hx _ _ ?_
 simp [oneW, pconst, v_rto, go_sem]
theorem one3_4 : Sp P F.ref03_One [enc (⟨4, []⟩ : GRing)] (.pure (enc (oneW 4 []))) := by
 have hd : Rat.divInt 1 1 = 1 := rfl
 have hof := of1_sp 1 1 (by omega) (by omega) (by omega)
 rw [hd] at hof
 have hr0 : (⟨4, []⟩ : GRing).ok = true := ok_one (by omega)
 refine Sp.of_vm' c.ref03_One (by simp) fun _ => ?_
 simp [g.ref03_One, go_sem]
 refine callP_pure (valid3_sp ⟨4, []⟩) rfl ?_
 simp [hr0, go_sem]
 refine vL_unroll fun R hn hr hx => ?_
 simp [g.ref03_One_l1, go_sem]
 refine hx _ _ ?_
 simp [oneW, pconst, v_rto, go_sem]
theorem one3_5 : Sp P F.ref03_One [enc (⟨5, []⟩ : GRing)] (.pure (enc (oneW 5 []))) := by
 have hd : Rat.divInt 1 1 = 1 := rfl
 have hof := of1_sp 1 1 (by omega) (by omega) (by omega)
 rw [hd] at hof
 have hr0 : (⟨5, []⟩ : GRing).ok = true := ok_one (by omega)
 refine Sp.of_vm' c.ref03_One (by simp) fun _ => ?_
 simp [g.ref03_One, go_sem]
 refine callP_pure (valid3_sp ⟨5, []⟩) rfl ?_
 simp [hr0, go_sem]
 refine callP_pure hof rfl ?_
 simp [go_sem]
 refine callP_pure (constant2_sp (rto 1) (rto1_sm.mono (by omega))) rfl ?_
 simp [go_sem]
 refine vL_unroll fun R hn hr hx => ?_
 simp [g.ref03_One_l1, go_sem]
 refine hx _ _ ?_
 simp [oneW, pconst, v_rto, go_sem]
theorem one3_k (k : Int) (hk : 1 ≤ k ∧ k ≤ 5) : Sp P F.ref03_One [enc (⟨k, []⟩ : GRing)] (.pure (enc (oneW k []))) := by
 have : k = 1 ∨ k = 2 ∨ k = 3 ∨ k = 4 ∨ k = 5 := by omega
 rcases this with rfl | rfl | rfl | rfl | rfl
 ·exact one3_1
 ·exact one3_2
 ·exact one3_3
 ·exact one3_4
 ·exact one3_5
theorem one3_sp (r : GRing) : Sp P F.ref03_One [enc r] (.pure (enc r.one)) := by
 rcases Bool.eq_false_or_eq_true r.ok with hr0 | hr0
 rotate_left
 ·refine Sp.of_vm' c.ref03_One (by simp) fun _ => ?_
  simp [g.ref03_One, go_sem]
  refine callP_pure (valid3_sp r) rfl ?_
  simp [hr0, GRing.one, gw0, go_sem]
 by_cases h6 : r.kind = 6
 rotate_left
 ·have hk := GRing.ok_kind hr0 h6
  have he : r = ⟨r.kind, []⟩ := by rw [<- hk.2.2]
  have h1 : r.one = oneW r.kind [] := by simp [GRing.one, hr0, hk.2.2]
  rw [h1, he]
  exact one3_k r.kind ⟨hk.1, hk.2.1⟩
 have hp := GRing.ok_parts hr0 h6
 refine Sp.of_vm' c.ref03_One (by simp) fun _ => ?_
 simp [g.ref03_One, go_sem]
 refine callP_pure (valid3_sp r) rfl ?_
 simp [hr0, h6, go_sem]
 refine vL_rule (S := fun k : Nat => mkSt [(1, .ptr 1 0 0 0), (2, .ptr 2 0 0 0), (3, .ptr 3 0 0 0), (4, .p (.int .i64 k))]
   [(1, ⟨2, [.p (enc r)]⟩), (2, ⟨8, [.agg [.p (.bool false), .nil, .nil, .p (.int .i64 0), .p (.bool false), .p (.int .u64 0), .nil, .nil]]⟩),
    (3, ⟨8, [.agg [.p (.bool false), .nil, .nil, .p (.int .i64 0), .p (.bool false), .p (.int .u64 0), .nil, .own 4 0 0 k]]⟩), (4, ⟨8, avs ((r.parts.map fun k => oneW k []).take k)⟩)])
  (I := fun k => k ≤ r.parts.length) (m := fun k => r.parts.length - k) 0
  ((Weak.nilCell (s0 := 3) (g0 := 0) (i := 7) (s := 77) (sz := 8) rfl).trans (Weak.to [1, 2, 3, 4] [((1, 0), 1), ((2, 0), 2), ((3, 0), 3), ((77, 0), 4)] (by simp [go_sem, h6]))) (by omega) ?_
 rintro k h1 R hn hr hx
 have e1 : IntKind.i64.wrap ((k : Int) + 1) = ((k + 1 : Nat) : Int) := i64w (by omega) (by omega)
 simp [g.ref03_One_l1, mkSt, go_sem]
 refine ⟨fun hk => ?_, fun hk => hx _ _ ?_⟩
 ·have hpk := hp.2.2 _ (List.getElem_mem hk)
  refine callP_pure (part3_sp r k hk) rfl ?_
  simp [go_sem]
  refine callP_pure (one3_k r.parts[k] hpk) rfl ?_
  have hk' : k < (r.parts.map fun k => oneW k []).length := by simpa using hk
  have hts : avs ((r.parts.map fun k => oneW k []).take (k + 1)) = avs ((r.parts.map fun k => oneW k []).take k) ++ [.p (enc (oneW r.parts[k] []))] := by
   rw [List.take_succ_eq_append_getElem hk', avs_append]; simp; rfl
  simp [e1, go_sem]
  exact ⟨⟨(Nat.min_eq_left h1).symm, by omega⟩, hn (k + 1) _ (Weak.to [1, 2, 3, 4] [((1, 0), 1), ((2, 0), 2), ((3, 0), 3), ((39, 0), 4)] (by simp [go_sem, hts])) (by omega) (by omega)⟩
 ·have : k = r.parts.length := by omega
  subst this
  have ht : (r.parts.map fun k => oneW k []).take r.parts.length = r.parts.map fun k => oneW k [] := by rw [List.take_of_length_le (by simp)]
  simp [hr0, h6, GRing.one, oneW, go_sem]
  simp only [oneW] at ht
  simp only [ht]
end Go.Ab
namespace Go.Ab
open Enc (enc)
attribute [local go_sem] optOpd Opd.slots
theorem sameList3_sp (p q : List GW) (hl : p.length ≤ 1073741824) (hp : ∀ w ∈ p, w.sm 1048576) : Sp P F.ref03_SameList [.sl (ens p), .sl (ens q)] (.pure (.bool (decide (p = q)))) := by
 refine Sp.of_vm' c.ref03_SameList (by simp) fun _ => ?_
 simp [g.ref03_SameList, go_sem]
 refine ⟨fun h => ?_, fun h => fun he => h (by rw [he])⟩
 have hlen : p.length = q.length := by omega
 refine vL_rule (S := fun k : Nat => mkSt [(0, .p (.sl (ens p))), (1, .p (.sl (ens q))), (5, .p (.int .i64 k))] []) (I := fun k => k ≤ p.length ∧ p.take k = q.take k) (m := fun k => p.length - k) 0
  (Weak.to [0, 1, 5] [] (by simp [go_sem])) ⟨by omega, by simp⟩ ?_
 rintro k ⟨h1, h2⟩ R hn hr hx
 have e1 : IntKind.i64.wrap ((k : Int) + 1) = ((k + 1 : Nat) : Int) := i64w (by omega) (by omega)
 simp [g.ref03_SameList_l1, mkSt, go_sem]
 refine ⟨fun hk => ?_, fun hk => hx _ _ ?_⟩
 ·have hk2 : k < q.length := by omega
  have bad : p[k] ≠ q[k] -> p ≠ q := fun h h' => by subst h'; exact h rfl
  refine atP_get hk ?_
  refine atP_get hk2 ?_
  refine callP_pure (equal3_sp p[k] (hp _ (List.getElem_mem hk)) q[k]) (by simp [go_sem]) ?_
  by_cases h6 : p[k] = q[k]
  ·simp [h6, e1, go_sem]
   exact hn (k + 1) _ (Weak.to [0, 1, 5] [] (by simp [go_sem])) ⟨by omega, by rw [List.take_succ_eq_append_getElem hk, List.take_succ_eq_append_getElem hk2, h2, h6]⟩ (by omega)
  ·have h8 : p ≠ q := bad h6
   simp [h6, go_sem]
   exact hr _ (by simp [h8, go_sem])
 ·have h3 : p = q := by rw [<- List.take_length (l := p), <- List.take_length (l := q), <- hlen, show p.length = k by omega]; exact h2
  simp [h3, go_sem]
end Go.Ab
namespace Go.Ab
open Enc (enc)
attribute [local go_sem] optOpd Opd.slots
theorem orI_u64' (x y : UInt64) : orI .u64 x.toNat y.toNat = ((x ||| y).toNat : Int) := by rw [orI_u64 x.toNat_lt y.toNat_lt, UInt64.toNat_or]
def plusW (k : Int) (v w : GW) : GW :=
 if k = 1 then .mk (rto (v.q.v + w.q.v)) 0 false 0 [] []
 else if k = 2 then if v.inf = true ∨ (w.inf = false ∧ w.cost < v.cost) then w else v
 else if k = 3 then if v.q.v < w.q.v then w else v
 else if k = 4 then .mk gr0 0 false (v.set ||| w.set) [] []
 else .mk gr0 0 false 0 (padd v.poly w.poly) []
theorem plus3_1 (v w : GW) (hv : v.sm 1048576) (hw : w.sm 1048576) (cv : v.chk ⟨1, []⟩) (cw : w.chk ⟨1, []⟩) : Sp P F.ref03_Plus [enc (⟨1, []⟩ : GRing), enc v, enc w] (.pure (enc (plusW 1 v w))) := by
 have hr0 : (⟨1, []⟩ : GRing).ok = true := ok_one (by omega)
 have t1 : v.tk ⟨1, []⟩ = v := if_pos cv
 have t2 : w.tk ⟨1, []⟩ = w := if_pos cw
 have k1 := take3_sp ⟨1, []⟩ v hv
 have k2 := take3_sp ⟨1, []⟩ w hw
 rw [t1] at k1; rw [t2] at k2
 refine Sp.of_vm' c.ref03_Plus (by simp) fun _ => ?_
 simp [g.ref03_Plus, go_sem]
 refine callP_pure (valid3_sp ⟨1, []⟩) rfl ?_
 simp [hr0, go_sem]
 refine callP_pure k1 (by simp [go_sem]) ?_
 simp [go_sem]
 refine callP_pure k2 (by simp [go_sem]) ?_
 simp [go_sem]
 refine callP_pure (add1_sp v.q w.q hv.q hw.q) rfl ?_
 simp [plusW, go_sem]
theorem plus3_2 (v w : GW) (hv : v.sm 1048576) (hw : w.sm 1048576) (cv : v.chk ⟨2, []⟩) (cw : w.chk ⟨2, []⟩) : Sp P F.ref03_Plus [enc (⟨2, []⟩ : GRing), enc v, enc w] (.pure (enc (plusW 2 v w))) := by
 have hr0 : (⟨2, []⟩ : GRing).ok = true := ok_one (by omega)
 have t1 : v.tk ⟨2, []⟩ = v := if_pos cv
 have t2 : w.tk ⟨2, []⟩ = w := if_pos cw
 have k1 := take3_sp ⟨2, []⟩ v hv
 have k2 := take3_sp ⟨2, []⟩ w hw
 rw [t1] at k1; rw [t2] at k2
 refine Sp.of_vm' c.ref03_Plus (by simp) fun _ => ?_
 simp [g.ref03_Plus, go_sem]
 refine callP_pure (valid3_sp ⟨2, []⟩) rfl ?_
 simp [hr0, go_sem]
 refine callP_pure k1 (by simp [go_sem]) ?_
 simp [go_sem]
 refine callP_pure k2 (by simp [go_sem]) ?_
 simp [go_sem]
 rcases Bool.eq_false_or_eq_true v.inf with h1 | h1
 ·simp [plusW, h1, go_sem]
 rcases Bool.eq_false_or_eq_true w.inf with h2 | h2
 ·simp [plusW, h1, h2, go_sem]
 simp [plusW, h1, h2, go_sem]
 refine ⟨fun h3 => by simp [h3, h2, go_sem], fun h3 => by simp [show ¬ w.cost < v.cost by omega, h1, go_sem]⟩
theorem plus3_3 (v w : GW) (hv : v.sm 1048576) (hw : w.sm 1048576) (cv : v.chk ⟨3, []⟩) (cw : w.chk ⟨3, []⟩) : Sp P F.ref03_Plus [enc (⟨3, []⟩ : GRing), enc v, enc w] (.pure (enc (plusW 3 v w))) := by
 have hr0 : (⟨3, []⟩ : GRing).ok = true := ok_one (by omega)
 have t1 : v.tk ⟨3, []⟩ = v := if_pos cv
 have t2 : w.tk ⟨3, []⟩ = w := if_pos cw
 have k1 := take3_sp ⟨3, []⟩ v hv
 have k2 := take3_sp ⟨3, []⟩ w hw
 rw [t1] at k1; rw [t2] at k2
 refine Sp.of_vm' c.ref03_Plus (by simp) fun _ => ?_
 simp [g.ref03_Plus, go_sem]
 refine callP_pure (valid3_sp ⟨3, []⟩) rfl ?_
 simp [hr0, go_sem]
 refine callP_pure k1 (by simp [go_sem]) ?_
 simp [go_sem]
 refine callP_pure k2 (by simp [go_sem]) ?_
 simp [go_sem]
 refine callP_pure (less1_sp v.q w.q hv.q hw.q) rfl ?_
 by_cases h1 : v.q.v < w.q.v
 ·simp [plusW, h1, go_sem]
 ·simp [plusW, h1, go_sem]
theorem plus3_4 (v w : GW) (hv : v.sm 1048576) (hw : w.sm 1048576) (cv : v.chk ⟨4, []⟩) (cw : w.chk ⟨4, []⟩) : Sp P F.ref03_Plus [enc (⟨4, []⟩ : GRing), enc v, enc w] (.pure (enc (plusW 4 v w))) := by
 have hr0 : (⟨4, []⟩ : GRing).ok = true := ok_one (by omega)
 have t1 : v.tk ⟨4, []⟩ = v := if_pos cv
 have t2 : w.tk ⟨4, []⟩ = w := if_pos cw
 have k1 := take3_sp ⟨4, []⟩ v hv
 have k2 := take3_sp ⟨4, []⟩ w hw
 rw [t1] at k1; rw [t2] at k2
 refine Sp.of_vm' c.ref03_Plus (by simp) fun _ => ?_
 simp [g.ref03_Plus, go_sem]
 refine callP_pure (valid3_sp ⟨4, []⟩) rfl ?_
 simp [hr0, go_sem]
 refine callP_pure k1 (by simp [go_sem]) ?_
 simp [go_sem]
 refine callP_pure k2 (by simp [go_sem]) ?_
 simp [go_sem]
 simp [plusW, orI_u64', go_sem]
theorem plus3_5 (v w : GW) (hv : v.sm 1048576) (hw : w.sm 1048576) (cv : v.chk ⟨5, []⟩) (cw : w.chk ⟨5, []⟩) (D B B' : Nat) (h1 : pqb D B v.poly) (h2 : pqb D B' w.poly) (hD0 : D ≠ 0) (hD : D < 4294967296 ^ 1048576) (hB : B + B' < 4294967296 ^ 1048576) : Sp P F.ref03_Plus [enc (⟨5, []⟩ : GRing), enc v, enc w] (.pure (enc (plusW 5 v w))) := by
 have k3 := add2_sp v.poly w.poly D B B' (chk_p cv) (chk_p cw) h1 h2 hD0 hD hB
 clear hD hB
 have hr0 : (⟨5, []⟩ : GRing).ok = true := ok_one (by omega)
 have t1 : v.tk ⟨5, []⟩ = v := if_pos cv
 have t2 : w.tk ⟨5, []⟩ = w := if_pos cw
 have k1 := take3_sp ⟨5, []⟩ v hv
 have k2 := take3_sp ⟨5, []⟩ w hw
 rw [t1] at k1; rw [t2] at k2
 refine Sp.of_vm' c.ref03_Plus (by simp) fun _ => ?_
 simp [g.ref03_Plus, go_sem]
 refine callP_pure (valid3_sp ⟨5, []⟩) rfl ?_
 simp [hr0, go_sem]
 refine callP_pure k1 (by simp [go_sem]) ?_
 simp [go_sem]
 refine callP_pure k2 (by simp [go_sem]) ?_
 simp [go_sem]
 refine callP_pure k3 rfl ?_
 simp [plusW, go_sem]
end Go.Ab
namespace Go.Ab
open Enc (enc)
attribute [local go_sem] optOpd Opd.slots
theorem ratK4_sp (v w : GW) (hv : v.sm 1048576) (hw : w.sm 1048576) : Sp P F.semiring_rationals_k4 [enc v, enc w] (.pure (enc (plusW 1 v w))) := by
 refine Sp.of_vm' c.semiring_rationals_k4 (by simp) fun _ => ?_
 simp [g.semiring_rationals_k4, go_sem]
 refine callP_pure (radd_sp v.q w.q hv.q hw.q) rfl ?_
 simp [plusW, go_sem]
theorem setK4_sp (v w : GW) : Sp P F.semiring_sets_k4 [enc v, enc w] (.pure (enc (plusW 4 v w))) := by
 refine Sp.of_vm' c.semiring_sets_k4 (by simp) fun _ => ?_
 simp [g.semiring_sets_k4, go_sem, plusW, orI_u64']
theorem less_sp (v w : GW) : Sp P F.semiring_less [enc v, enc w] (.pure (.bool (!v.inf && (w.inf || decide (v.cost < w.cost))))) := by
 refine Sp.of_vm' c.semiring_less (by simp) fun _ => ?_
 simp [g.semiring_less, go_sem]
 rcases Bool.eq_false_or_eq_true v.inf with h1 | h1 <;> rcases Bool.eq_false_or_eq_true w.inf with h2 | h2 <;> simp [go_sem, h1, h2]
theorem cosK4_sp (v w : GW) (hv : v.si 2) (hw : w.si 2) : Sp P F.semiring_costs_k4 [enc v, enc w] (.pure (enc (plusW 2 v w))) := by
 refine Sp.of_vm' c.semiring_costs_k4 (by simp) fun _ => ?_
 simp [g.semiring_costs_k4, go_sem]
 refine callP_pure (less_sp w v) (by simp [go_sem]) ?_
 rcases Bool.eq_false_or_eq_true v.inf with h1 | h1
 ·rcases Bool.eq_false_or_eq_true w.inf with h2 | h2
  ·have hvw : v = w := by
    have a := si2.1 hv
    have b := si2.1 hw
    exact GW.ext (by rw [a.2.1, b.2.1]) (by rw [a.2.2.2.2.2.2 h1, b.2.2.2.2.2.2 h2]) (by rw [h1, h2]) (by rw [a.2.2.1, b.2.2.1]) (by rw [a.2.2.2.1, b.2.2.2.1]) (by rw [a.1, b.1])
   subst hvw
   simp [go_sem, h1, plusW]
  ·simp [go_sem, h1, h2, plusW]
 ·rcases Bool.eq_false_or_eq_true w.inf with h2 | h2
  ·simp [go_sem, h1, h2, plusW]
  ·by_cases h3 : w.cost < v.cost
   ·simp [go_sem, h1, h2, h3, plusW]
   ·simp [go_sem, h1, h2, h3, plusW]
theorem fraK2_sp (v w : GW) (hv : v.sm 1048576) (hw : w.sm 1048576) : Sp P F.semiring_fractions_k2 [enc v, enc w] (.pure (.bool (decide (w.q.v < v.q.v)))) := by
 refine Sp.of_vm' c.semiring_fractions_k2 (by simp) fun _ => ?_
 simp [g.semiring_fractions_k2, go_sem]
 refine callP_pure (rcompare_sp v.q w.q hv.q hw.q) rfl ?_
 simp [go_sem, sgn_pos]
theorem fraK3_sp (v w : GW) (hv : v.sm 1048576) (hw : w.sm 1048576) (sv : v.si 3) (sw : w.si 3) : Sp P F.semiring_fractions_k3 [enc v, enc w, .ref (fraB .any)] (.pure (enc (plusW 3 v w))) := by
 refine Sp.of_vmW c.semiring_fractions_k3 (by simp) (Weak.openRef (t := 2) (v := fraB .any) (n := 9) (by simp [go_sem]) rfl) ?_
 simp [g.semiring_fractions_k3, go_sem, fraB]
 refine callP_pure (fraK2_sp w v hw hv) (by simp [go_sem]) ?_
 have key : ∀ x : GW, x.si 3 -> x = .mk (rto x.q.v) 0 false 0 [] [] := fun x hx => by
  have a := si3.1 hx
  exact GW.ext (rto_v a.2.2.2.2.2.1).symm a.2.2.1 a.2.1 a.2.2.2.1 a.2.2.2.2.1 a.1
 have hg0 : gr0.v = 0 := by rw [show gr0 = rto 0 from rto_zero.symm, v_rto]
 by_cases h : v.q.v < w.q.v
 ·have e : plusW 3 v w = .mk (rto w.q.v) 0 false 0 [] [] := by simp only [plusW, h, if_true]; exact key w sw
  rw [e]
  simp [go_sem, h]
  have := radd_sp w.q gr0 hw.q (gr0_sm _)
  rw [hg0, Rat.add_zero] at this
  refine callP_pure this rfl ?_
  simp [go_sem]
 ·have e : plusW 3 v w = .mk (rto v.q.v) 0 false 0 [] [] := by simp only [plusW, h, if_false]; exact key v sv
  rw [e]
  simp [go_sem, h]
  have := radd_sp v.q gr0 hv.q (gr0_sm _)
  rw [hg0, Rat.add_zero] at this
  refine callP_pure this rfl ?_
  simp [go_sem]
end Go.Ab
namespace Go.Ab
open Enc (enc)
section
variable {P : Program} {K : Ctx} {Z Z' : Cz} {st st' st1 st2 : St} {w w' : World} {a : Act} {N : Nat} {ex : Exit} {A B : Option FA} {Post : Exit -> St -> Option FA -> Prop} {PostI : St -> Option FA -> Prop}
theorem compCallee_cal {c : Callee} {ts : Array TypeId} {aq : List Opd} {f0 : FuncId} {xs0 : List Opd} (h : compCallee P c ts aq = some (.call f0 xs0)) : ∃ g, c = .value g ∧ compOpd g = some (.c (.p (.fn f0 []))) ∧ aq = xs0 := by
 unfold compCallee at h
 split at h
 ·rename_i g
  split at h
  ·rename_i hg; cases h; exact ⟨g, rfl, hg, rfl⟩
  ·cases h
  ·cases h
 ·cases h
 ·exfalso
  repeat' split at h
  all_goals first
   | cases h
   | (obtain ⟨_, _, h⟩ := mapS h; cases h)
theorem calBind {α : Type} {x : Option α} {f : α -> Option IOp} {f0 : FuncId} {xs0 : List Opd} (h : x.bind f = some (.call f0 xs0)) (k : ∀ y, f y ≠ some (.call f0 xs0)) : False := by
 obtain ⟨y, _, h⟩ := bindS h; exact k y h
theorem calMap {α : Type} {x : Option α} {f : α -> IOp} {f0 : FuncId} {xs0 : List Opd} (h : x.map f = some (.call f0 xs0)) (k : ∀ y, f y ≠ .call f0 xs0) : False := by
 obtain ⟨y, _, h⟩ := mapS h; exact k y h
theorem compLook_cal {t : TypeId} {m k : Operand} {f0 : FuncId} {xs0 : List Opd} (h : compLook P t m k = some (.call f0 xs0)) : False := by
 unfold compLook at h
 repeat' split at h
 all_goals first
  | exact calBind h fun _ h => calBind h fun _ h => calMap h fun _ h => by cases h
  | cases h
theorem compSlice_cal {t : TypeId} {x : Operand} {lo hi mx : Option Operand} {f0 : FuncId} {xs0 : List Opd} (h : compSlice P t x lo hi mx = some (.call f0 xs0)) : False := by
 unfold compSlice at h
 repeat' split at h
 all_goals first
  | exact calBind h fun _ h => calBind h fun _ h => calMap h fun _ h => by cases h
  | cases h
theorem compNil_cal {op : BinOp} {x y : Opd} {f0 : FuncId} {xs0 : List Opd} (h : compNil op x y = some (.call f0 xs0)) : False := by
 unfold compNil at h
 repeat' split at h
 all_goals cases h
theorem compMkfn_cal {fn : Fn} {x y : Array Operand} {f0 : FuncId} {xs0 : List Opd} (h : compMkfn fn x y = some (.call f0 xs0)) : False := by
 unfold compMkfn at h
 repeat' split at h
 all_goals first
  | exact calMap h fun _ h => by cases h
  | cases h
theorem compOp_cal {op : Op} {f0 : FuncId} {xs0 : List Opd} (h : compOp P op = some (.call f0 xs0)) : ∃ cc h, op = .call cc ∧ cc.callee = .value h ∧ compOpd h = some (.c (.p (.fn f0 []))) ∧ compOpds cc.args.toList = some xs0 := by
 cases op
 case call c =>
  simp only [compOp] at h
  obtain ⟨aq, ha, h⟩ := bindS h
  obtain ⟨g, h1, h2, rfl⟩ := compCallee_cal h
  exact ⟨c, g, rfl, h1, h2, ha⟩
 case makeMap | mapUpdate | range | next | entry => cases h
 case lookup t m k c => cases c <;> first | exact (compLook_cal h).elim | cases h
 case slice => exact (compSlice_cal h).elim
 case makeFunc => exact (compMkfn_cal h).elim
 case move | assign | alloc | box | nilCheck | extract => exact (calMap h fun _ h => by cases h).elim
 case pick => exact (calBind h fun _ h => calBind h fun _ h => calMap h fun _ h => by cases h).elim
 case binOp =>
  refine (calBind h fun _ h => calBind h fun _ h => ?_).elim
  split at h
  ·cases h
  ·cases h
  ·exact compNil_cal h
  ·exact calMap h fun _ h => by cases h
 case unOp =>
  refine (calBind h fun _ h => ?_).elim
  split at h <;> cases h
 case convert =>
  refine (calBind h fun _ h => ?_).elim
  split at h <;> cases h
 case load => refine (calBind h fun _ h => ?_).elim; split at h <;> cases h
 case store => refine (calBind h fun _ h => calBind h fun _ h => ?_).elim; split at h <;> cases h
 case build =>
  simp only [compOp] at h
  split at h
  ·refine (calBind h fun _ h => calBind h fun _ h => ?_).elim
   split at h
   ·exact calMap h fun _ h => by cases h
   ·cases h
  ·cases h
 case buildSlice =>
  simp only [compOp] at h
  split at h
  ·exact (calBind h fun _ h => calMap h fun _ h => by cases h).elim
  ·cases h
 case makeSlice =>
  simp only [compOp] at h
  split at h
  ·refine (calBind h fun _ h => calBind h fun _ h => calBind h fun _ h => ?_).elim
   split at h <;> cases h
  ·cases h
 case fieldAddr =>
  simp only [compOp] at h
  split at h
  ·split at h
   ·split at h
    ·exact (calMap h fun _ h => by cases h).elim
    ·cases h
   ·cases h
  ·cases h
 case field =>
  simp only [compOp] at h
  split at h
  ·split at h
   ·split at h
    ·exact (calMap h fun _ h => by cases h).elim
    ·cases h
   ·cases h
  ·cases h
 case indexAddr =>
  simp only [compOp] at h
  split at h
  ·split at h
   ·exact (calBind h fun _ h => calMap h fun _ h => by cases h).elim
   ·cases h
  ·split at h
   ·exact (calBind h fun _ h => calMap h fun _ h => by cases h).elim
   ·cases h
  ·cases h
 case index =>
  simp only [compOp] at h
  split at h
  ·split at h
   ·exact (calBind h fun _ h => calMap h fun _ h => by cases h).elim
   ·cases h
  ·exact (calBind h fun _ h => calMap h fun _ h => by cases h).elim
  ·cases h
 all_goals cases h
theorem mop_callU {d : Option Nat} {f : FuncId} {xs : List Opd} {r : Nat} {ks vs args ks' vs' : List PV} (hsp : SpU P f ks vs args ks' vs') (hxs : xs.map st.ev = .p (.mapv r) :: args.map .p) (hn1 : nompL ks' = true) (hn2 : nompL vs' = true)
  (k : PostI (st.put d (.p (.tup []))) (some (mapFA r ks' vs'))) : MOp P N ⟨d, .call f xs, none⟩ st (some (mapFA r ks vs)) PostI := by
 intro ops j o K Z w a Q Kt hN hj hcc hs hA hK
 obtain ⟨h1, h2, h3, h4⟩ := compIns_spec hcc
 obtain ⟨cc, h, hop, hf, hh, hops⟩ := compOp_cal h1
 have hg : o.guard = none := by
  cases hg : o.guard with
  | none => rfl
  | some jb =>
   obtain ⟨j, b⟩ := jb
   rw [hg] at h2; simp only [compGuard] at h2
   split at h2 <;> cases h2
 have hw : Region.wanted o (yielded ops a.tmps) = true := by simp [Region.wanted, hg]
 have hd : d = o.dst := h3
 obtain ⟨hfn, hsp⟩ := hsp
 have hr := opds_ok hops hs
 rw [hxs] at hr
 have hfr := opd_ok hh hs
 simp only [St.ev] at hfr
 have hfv : a.eval h = .func (.func f) #[] #[] := by
  have hp := hfr.inv_p
  generalize a.eval h = F at hp ⊢
  cases hp with
  | fn _ _ vals h => cases h; rfl
 have hrun : (execOp a.eval o).run P w = .ok (.enter f ((cc.args.toList.map a.eval).toArray)) w := by
  have := callFunc_run (P := P) (w := w) (args := (cc.args.toList.map a.eval).toArray) hfn
  simp only [execOp, hop, resolve, hf, hfv, Deferred.ofValue, Sem.run_bind, Sem.run_pure, Result.andThen_ok, invoke]
  have e : #[] ++ cc.args.map a.eval ++ #[] = (cc.args.toList.map a.eval).toArray := by simp [<- Array.toList_map]
  rw [e]; exact this
 have hp0 : PReps Z.M (.mapv r :: args) (cc.args.toList.map a.eval) := AReps.to_p (by simpa using hr)
 generalize cc.args.toList.map a.eval = vals at hp0 hrun
 obtain ⟨hF, hX, es, clock, q0, q1, q2, q3, q4, q5⟩ := hA
 simp only [mapFA] at hF hX q0
 let Mp : Nat -> Option Obj := fun b => if b = r then w.heap[r]? else Z.M b
 have hsub : ∀ b o, Z.M b = some o -> Mp b = some o := fun b o ho => by
  simp only [Mp]; rw [if_neg]; · exact ho
  ·rintro rfl; rw [hF.m] at ho; cases ho
 have hMp : ∀ b o, Mp b = some o -> w.heap[b]? = some o := fun b o ho => by
  simp only [Mp] at ho; split at ho
  ·rename_i hb; subst hb; exact ho
  ·exact hs.heap.mem b o ho
 have hvals : PReps Mp (.mp r ks vs :: args) vals := by
  cases hp0 with
  | cons _ _ _ _ h0 h1 =>
   cases h0
   exact .cons _ _ _ _ (.mp r ks vs es clock (by simp only [Mp, if_true]; exact q0) (q1.mono hsub) (q2.mono hsub) q3 q4 q5) (h1.mono hsub)
 refine (show o.wp P a w Kt Q from ?_) |> fun h => by unfold wpOp; simp only [hj, hw, if_true]; exact .inl h
 unfold Oper.wp
 rw [hrun, Oper.upon_enter]
 refine (hsp w Mp r vals hMp hvals).mono ?_
 rintro e w' ⟨M', rfl, p1, p2, p3, p4, p5⟩
 obtain ⟨es', clock', t0, t1, t2, t3, t4, t5⟩ : ∃ es' clock', M' r = some (.map es' clock') ∧ PReps M' ks' (es'.toList.map (·.key)) ∧ PReps M' vs' (es'.toList.map (·.val)) ∧ (es'.toList.map (·.key)).Nodup ∧ (∀ e ∈ es'.toList, e.born < clock') ∧ (es'.toList.map (·.born)).Nodup := by
  cases p5 with
  | mp _ _ _ es clock m0 m1 m2 m3 m4 m5 => exact ⟨es, clock, m0, m1, m2, m3, m4, m5⟩
 let M1 : Nat -> Option Obj := fun b => if b = r then none else M' b
 have hM1 : ∀ b o, M1 b = some o -> b ≠ r ∧ M' b = some o := fun b o h => by
  simp only [M1] at h; split at h
  ·cases h
  ·exact ⟨by assumption, h⟩
 have hcells : ∀ b cur T fr, M' b = some (.cells cur T fr) -> M1 b = some (.cells cur T fr) := fun b cur T fr h => by
  simp only [M1]; rw [if_neg]; · exact h
  ·rintro rfl; rw [t0] at h; cases h
 have hold : ∀ b o, M1 b = some o -> Z.M b = some o ∨ w.heap.size ≤ b := fun b o h => by
  obtain ⟨g1, g2⟩ := hM1 b o h
  rcases p3 b o g2 with h | h | h
  ·exact absurd h g1
  ·simp only [Mp] at h; rw [if_neg g1] at h; exact .inl h
  ·exact .inr h
 have hHw : HRep K Z st w' := hs.heap.world p4 fun b hb => by subst hb; exact ⟨hF.m, hF.o, hX⟩
 have hZM1 : ∀ b o, Z.M b = some o -> M1 b = some o := fun b o hb => by
  have hbr : b ≠ r := by rintro rfl; rw [hF.m] at hb; cases hb
  simp only [M1]; rw [if_neg hbr]; exact p1 b o hbr (hsub b o hb)
 have hH1 : HRep K { Z with M := M1 } st w' := by
  refine hHw.grow (Keep.refl _ _) M1 hZM1 (fun b o hb => p2 b o (hM1 b o hb).2) (fun b o hb => ?_) (fun s g o b ho hb => ?_)
  ·rcases hold b o hb with h | h
   ·exact .inl h
   ·exact .inr (.inr (Nat.le_trans hs.heap.keep.size h))
  ·cases hm : M1 b with
   | none => rfl
   | some y =>
    rcases hold b y hm with h | h
    ·rw [hs.heap.sep s g o b ho hb] at h; cases h
    ·have := hs.heap.lt ho hb; omega
 have hz : ZLe Z st { Z with M := M1 } st := .growM hZM1
 refine hK _ _ _ _ _ k (?_ : StRep K { Z with M := M1 } (st.put d (.p (.tup []))) w' _) (Holds.site ?_ fun s g => obj_put st d _ s g)
 ·rw [hd]
  exact hs.put rfl hz hH1 (.p _ _ (.tup [] [] .nil)) (by subst hN; exact h4) hs.defers
 ·refine ⟨⟨by simp [M1, mapFA], hF.o, ?_⟩, hX, es', clock', p2 _ _ t0, t1.nomp hcells hn1, t2.nomp hcells hn2, t3, t4, t5⟩
  exact Nat.lt_of_lt_of_le hF.lt p4.size
theorem MR.freeze {ac : AC} {t r : Nat} {ks vs : List PV} (ht : st.get t = .p (.mapv r)) (k : MR P N ac (st.put (some t) (.p (.mp r ks vs))) none Post) : MR P N ac st (some (mapFA r ks vs)) Post := by
 intro code hc K Z w a Q hN hs hA hQ
 obtain ⟨hF, hX, es, clock, q0, q1, q2, q3, q4, q5⟩ := hA
 simp only [mapFA] at hF hX q0
 let M1 : Nat -> Option Obj := fun b => if b = r then w.heap[r]? else Z.M b
 have hsub : ∀ b o, Z.M b = some o -> M1 b = some o := fun b o ho => by
  simp only [M1]; rw [if_neg]; · exact ho
  ·rintro rfl; rw [hF.m] at ho; cases ho
 have hH1 : HRep K { Z with M := M1 } st w := by
  refine hs.heap.grow (Keep.refl _ _) M1 hsub (fun b o hb => ?_) (fun b o hb => ?_) (fun s g o b ho hb => ?_)
  ·simp only [M1] at hb; split at hb
   ·rename_i hbr; subst hbr; exact hb
   ·exact hs.heap.mem b o hb
  ·simp only [M1] at hb; split at hb
   ·rename_i hbr; subst hbr; exact .inr hX
   ·exact .inl hb
  ·simp only [M1]; rw [if_neg]; · exact hs.heap.sep s g o b ho hb
   ·rintro rfl; exact hF.o s g o ho hb
 have hz : ZLe Z st { Z with M := M1 } st := .growM hsub
 have hs1 : StRep K { Z with M := M1 } (st.put (some t) (.p (.mp r ks vs))) w a := by
  refine ⟨fun u => ?_, hs.defers, hs.size, hH1.of_site fun i => site_put _ _ _ i⟩
  rw [get_put]
  split
  ·rename_i hu; cases hu
   have h0 := hs.slots t
   rw [ht] at h0
   have h0 := h0.inv_p
   generalize a.tmps.getD t Go.undef = X at h0
   cases h0
   exact .p _ _ (.mp r ks vs es clock (by simp only [M1, if_true]; exact q0) (q1.mono hsub) (q2.mono hsub) q3 q4 q5)
  ·exact ARep.mono (zle_site (fun i => site_put _ _ _ i) _) (ARep.mono hz (hs.slots u))
 exact k code hc K _ w a Q hN hs1 trivial hQ
theorem Sp.of_mr {f : FuncId} {args : List PV} {res : RV} {n np : Nat} {b : GC} {rs : List (Nat × Option Nat)} (hc : compFn P f = some ⟨n, np, b.er, rs⟩) (hn : args.length ≤ n)
  (h : MR P n b.er (initSt args) none fun ex s _ => retP rs res ex s) : Sp P f args res := by
 unfold compFn at hc
 split at hc
 ·rename_i fn hf
  split at hc
  ·rename_i hname
   split at hc
   ·rename_i c hb
    split at hc
    ·rename_i bd rs' h1 h2
     simp only [Option.some.injEq, FnC.mk.injEq] at hc
     obtain ⟨rfl, _, rfl, rfl⟩ := hc
     refine ⟨⟨fn, hf, by rw [hb]; rfl, hname⟩, fun w M vals hM hv => ?_⟩
     refine calls_of_wp hf hb ?_
     refine h c h1 ⟨w, M, fun _ => False, fn.ntmps⟩ _ w _ _ rfl (init_rep hM hv hn) trivial (fun ex st' A' Z' w' a' hp hs _ => ?_)
     have hr : (ex = .ret ∨ ex = .normal) ∧ ∃ vs, resVals st' rs' = some vs ∧ ResOk st' (resOf vs) res := by
      have key : (ex = .ret ∨ ex = .normal) ∧ ∃ vs, resVals st' rs' = some vs ∧ resP st' (resOf vs) res := by
       cases ex with
       | ret => exact ⟨.inl rfl, hp⟩
       | normal => exact ⟨.inr rfl, hp⟩
       | _ => exact hp.elim
      obtain ⟨k1, vs, r3, r4⟩ := key
      refine ⟨k1, vs, r3, ?_⟩
      unfold resP at r4
      split at r4
      ·exact .pure _ _ r4
      ·split at r4
       ·rename_i sz es s' g off len hv
        obtain ⟨o, h1, rfl, h2, rfl, h4⟩ := r4
        rw [hv]
        exact .fresh _ _ _ _ _ h1 h2 h4
       ·rename_i hv; rw [hv, r4]; exact .nil _
       ·exact r4.elim
      ·exact r4.elim
     obtain ⟨hex, vs, hvs, hres⟩ := hr
     have hfin : a'.defers = [] ∧ ∃ v, (results fn a'.tmps).run P w' = .ok v w' ∧ ∃ x M', Ending.returned v = .returned x ∧ (∀ b o, M b = some o -> M' b = some o) ∧ (∀ b o, M' b = some o -> w'.heap[b]? = some o) ∧
       (∀ b o, M' b = some o -> M b = some o ∨ w.heap.size ≤ b) ∧ Keep w w' (fun _ => False) ∧ RRep M' w w' res x := by
      obtain ⟨xs, e1, e2⟩ := res_run hs h2 hvs
      obtain ⟨M', m1, m2, m3, m4, m5⟩ := res_post hs.heap e2.resOf hres
      refine ⟨hs.defers, _, ?_, _, M', rfl, m1, m2, m3, m4, m5⟩
      unfold results
      rw [Array.mapM_eq_mapM_toList]
      simp only [Sem.run_bind, map_eq_pure_bind, Sem.run_pure]
      exact congrArg (fun r => (Result.andThen r fun a w' => Result.ok a.toArray w').andThen fun (a : Array Value) w' => Result.ok (if h : a.size = 1 then a[0] else Value.tuple a) w') e1
     rcases hex with rfl | rfl
     ·exact hfin
     ·exact hfin
    ·cases hc
   ·cases hc
  ·cases hc
 ·cases hc
end
end Go.Ab
namespace Go.Ab
open Enc (enc)
section
variable {P : Program} {K : Ctx} {st st' st1 : St} {N : Nat} {A B : Option FA} {Post : Exit -> St -> Option FA -> Prop} {PostI : St -> Option FA -> Prop}
theorem MR.gseq {a b : GC} (h : vm P N (fun ex s => (ex = .normal -> MR P N b.er s A Post) ∧ (ex ≠ .normal -> Post ex s A)) [.code a] st) : MR P N (GC.seq a b).er st A Post :=
 .seq (.of_vm h)
theorem MR.gseq' {a b : GC} (h : MR P N a.er st A fun ex s B => (ex = .normal -> MR P N b.er s B Post) ∧ (ex ≠ .normal -> Post ex s B)) : MR P N (GC.seq a b).er st A Post := .seq h
theorem MR.gcond {a b : GC} {c : Opd} {dl : List Nat} {t : Bool} (hv : st.ev c = .p (.bool t)) (h1 : t = true -> MR P N a.er (st.drop dl) A Post) (h2 : t = false -> MR P N b.er (st.drop dl) A Post) : MR P N (GC.cond c dl a b).er st A Post := by
 refine .cond hv ?_
 cases t with
 | true => exact .weak (weak_drop _ _) (h1 rfl)
 | false => exact .weak (weak_drop _ _) (h2 rfl)
theorem MR.gregD {ops : List Ins} {pre dead : List (List Nat)} {i : Ins} (ho : ops.getLast? = some i) (hl : lastOk pre ops.dropLast.length = true)
  (h : vm P N (fun ex s => ex = .normal -> MOp P N i s A fun s B => Post .normal s B) [.insD ops.dropLast [] pre dead] st) : MR P N (GC.regD ops pre dead).er st A Post := by
 obtain ⟨gs, s1, s2, r1, r2, r3, r4⟩ := vm_ok _ (Nat.le_refl _) h
 have e : ops = ops.dropLast ++ [i] := by
  have hne : ops ≠ [] := by rintro rfl; simp at ho
  rw [List.getLast?_eq_getLast hne] at ho
  rw [<- Option.some.inj ho]; exact (List.dropLast_concat_getLast hne).symm
 show MR P N (.regD ops pre) st A Post
 rw [e]
 exact .regDL r1 (by simpa using r2) hl (.weak r3 (r4 rfl))
theorem MR.greg {ops : List Ins} {dead : List (List Nat)} (h : MIns P N ops st A fun s B => Post .normal s B) : MR P N (GC.reg ops dead).er st A Post := .reg h
theorem mins_vmN (n : Nat) (dead : List (List Nat)) {ops : List Ins} (h : Go.Ab.vm P N (fun ex s => ex = .normal -> MIns P N (ops.drop n) s A PostI) [.ins (ops.take n) dead] st) : MIns P N ops st A PostI := by
 have := MIns.vm h
 rwa [List.take_append_drop] at this
theorem MIns.cons {i : Ins} {is : List Ins} (h : MOp P N i st A fun s B => MIns P N is s B PostI) : MIns P N (i :: is) st A PostI := h
theorem MR.gblk {b : GC} {id : Nat} (h : MR P N b.er st A fun ex s B => Post (exB id ex) s B) : MR P N (GC.blk id b).er st A Post := .blk h
theorem MR.gloop {b : GC} {I : Nat -> St -> Option FA -> Prop} (n : Nat) (hI : I n st A) (step : ∀ n st A, I n st A -> MR P N b.er st A fun ex s B => (ex = .normal -> ∃ m, m < n ∧ I m s B) ∧ (ex ≠ .normal -> Post ex s B)) : MR P N (GC.loop b).er st A Post := .loop n hI step
theorem MR.gext {id : Nat} (h : Post (.exit id) st A) : MR P N (GC.ext id).er st A Post := .ext h
theorem MR.gnop (h : Post .normal st A) : MR P N GC.nop.er st A Post := .nop h
attribute [go_sem] nompL PV.nomp
end
section
variable {κ α : Type} [Enc κ] [Enc α] [DecidableEq κ]
def mget (e : κ) : List (κ × α) -> Option α
 | [] => none
 | (e', c) :: L => if e' = e then some c else mget e L
def mset (e : κ) (c : α) : List (κ × α) -> List (κ × α)
 | [] => [(e, c)]
 | (e', c') :: L => if e' = e then (e', c) :: L else (e', c') :: mset e c L
def mks (L : List (κ × α)) : List PV := L.map fun p => enc p.1
def mvs (L : List (κ × α)) : List PV := L.map fun p => enc p.2
theorem mapFind_mget {kc : κ -> List PV} (hk : ∀ e, enc e = .agg (kc e)) (heq : ∀ e e', eqI (kc e) (kc e') = true ↔ e = e') (e : κ) : ∀ L : List (κ × α), mapFind (kc e) (mks L) (mvs L) = (mget e L).map enc
 | [] => rfl
 | (e', c) :: L => by
  simp only [mks, mvs, List.map_cons, hk, mapFind, heq, mget]
  split
  ·rfl
  ·have := mapFind_mget hk heq e L; simp only [mks, mvs, hk] at this; exact this
theorem mapPut_mset {kc : κ -> List PV} (hk : ∀ e, enc e = .agg (kc e)) (heq : ∀ e e', eqI (kc e) (kc e') = true ↔ e = e') (e : κ) (c : α) : ∀ L : List (κ × α), mapPut (kc e) (enc c) (mks L) (mvs L) = (mks (mset e c L), mvs (mset e c L))
 | [] => by simp [mks, mvs, mapPut, mset, hk]
 | (e', c') :: L => by
  have ih := mapPut_mset hk heq e c L
  simp only [mks, mvs, hk] at ih
  simp only [mks, mvs, List.map_cons, hk, mapPut, heq, mset]
  split
  ·rfl
  ·simp only [ih, List.map_cons, hk]
theorem mget_mset (e : κ) (c : α) (e' : κ) : ∀ L : List (κ × α), mget e' (mset e c L) = if e = e' then some c else mget e' L
 | [] => rfl
 | (e1, c1) :: L => by
  have ih := mget_mset e c e' L
  by_cases h : e1 = e
  ·subst h
   simp only [mset, if_true, mget]
   by_cases h2 : e1 = e'
   ·simp [h2]
   ·simp [h2]
  ·simp only [mset, if_neg h, mget, ih]
   by_cases h2 : e1 = e'
   ·subst h2; simp [Ne.symm h]
   ·simp [h2]
theorem mset_keys (e : κ) (c : α) : ∀ L : List (κ × α), (mset e c L).map (·.1) = if e ∈ L.map (·.1) then L.map (·.1) else L.map (·.1) ++ [e]
 | [] => rfl
 | (e1, c1) :: L => by
  have ih := mset_keys e c L
  simp only [mset]
  split
  ·rename_i h; subst h; simp
  ·rename_i h
   simp only [List.map_cons, ih, List.mem_cons, Ne.symm h, false_or]
   split <;> rfl
theorem mget_mem {e : κ} {c : α} : ∀ {L : List (κ × α)}, mget e L = some c -> (e, c) ∈ L
 | (e1, c1) :: L, h => by
  simp only [mget] at h
  split at h
  ·rename_i h1; subst h1; cases h; simp
  ·exact List.mem_cons_of_mem _ (mget_mem h)
theorem mset_nodup (e : κ) (c : α) {L : List (κ × α)} (h : (L.map (·.1)).Nodup) : ((mset e c L).map (·.1)).Nodup := by
 rw [mset_keys]
 split
 ·exact h
 ·rename_i he
  exact List.nodup_append.2 ⟨h, by simp, fun a ha b hb => by simp at hb; subst hb; rintro rfl; exact he ha⟩
end
end Go.Ab
namespace Go.Ab
open Go.Proofs
def T.bool : TypeId := 4
def T.int : TypeId := 3
def T.ints : TypeId := 22
def T.limbs : TypeId := 42
def T.u32 : TypeId := 145
def T.u64 : TypeId := 45
def T.key : TypeId := 121
def T.rat : TypeId := 44
def T.mono : TypeId := 123
def T.poly : TypeId := 46
def T.weight : TypeId := 48
def T.weights : TypeId := 27
def T.ring : TypeId := 26
def T.arc : TypeId := 83
def T.arcs : TypeId := 36
def T.tarc : TypeId := 70
def T.tarcs : TypeId := 28
def T.auto : TypeId := 38
def T.trans : TypeId := 30
theorem ty.map : P.underlying 237 = some (.map 121 44) := by kernel_rfl
theorem ty.key : P.underlying 121 = some (.array 3 3) := by kernel_rfl
theorem ty.int : P.underlying 3 = some (.int .i64) := by kernel_rfl
theorem ty.bool : P.underlying 4 = some .bool := by kernel_rfl
theorem ty.u32 : P.underlying 145 = some (.int .u32) := by kernel_rfl
theorem ty.u64 : P.underlying 45 = some (.int .u64) := by kernel_rfl
theorem ty.cells : P.cellsOf 121 = 3 := by kernel_rfl
theorem ty.cell : P.cellsOf 3 = 1 := by kernel_rfl
theorem ty.cu32 : P.cellsOf 145 = 1 := by kernel_rfl
theorem ty.size : 0 < P.types.size := of_decide_eq_true (by kernel_rfl)
theorem ty.ints : P.underlying T.ints = some (.slice 3) := by kernel_rfl
theorem ty.limbs : P.underlying T.limbs = some (.slice 145) := by kernel_rfl
theorem ty.poly : P.underlying T.poly = some (.slice T.mono) := by kernel_rfl
theorem ty.cmono : P.cellsOf T.mono = 6 := by kernel_rfl
theorem ty.weights : P.underlying T.weights = some (.slice T.weight) := by kernel_rfl
theorem ty.cweight : P.cellsOf T.weight = 8 := by kernel_rfl
theorem ty.arcs : P.underlying T.arcs = some (.slice T.arc) := by kernel_rfl
theorem ty.carc : P.cellsOf T.arc = 11 := by kernel_rfl
theorem ty.tarcs : P.underlying T.tarcs = some (.slice T.tarc) := by kernel_rfl
theorem ty.ctarc : P.cellsOf T.tarc = 12 := by kernel_rfl
theorem ty.rat : shp P T.rat = some ([(T.bool, 0, 1), (T.limbs, 1, 1), (T.limbs, 2, 1)], 3) := by kernel_rfl
theorem ty.mono : shp P T.mono = some ([(T.key, 0, 3), (T.rat, 3, 3)], 6) := by kernel_rfl
theorem ty.weight : shp P T.weight = some ([(T.rat, 0, 3), (T.int, 3, 1), (T.bool, 4, 1), (T.u64, 5, 1), (T.poly, 6, 1), (T.weights, 7, 1)], 8) := by kernel_rfl
theorem ty.ring : shp P T.ring = some ([(T.int, 0, 1), (T.ints, 1, 1)], 2) := by kernel_rfl
theorem ty.arc : shp P T.arc = some ([(T.int, 0, 1), (T.int, 1, 1), (T.int, 2, 1), (T.weight, 3, 8)], 11) := by kernel_rfl
theorem ty.tarc : shp P T.tarc = some ([(T.int, 0, 1), (T.int, 1, 1), (T.int, 2, 1), (T.int, 3, 1), (T.weight, 4, 8)], 12) := by kernel_rfl
theorem ty.auto : shp P T.auto = some ([(T.ring, 0, 2), (T.int, 2, 1), (T.int, 3, 1), (T.weights, 4, 1), (T.weights, 5, 1), (T.arcs, 6, 1)], 7) := by kernel_rfl
theorem ty.trans : shp P T.trans = some ([(T.ring, 0, 2), (T.int, 2, 1), (T.int, 3, 1), (T.int, 4, 1), (T.weights, 5, 1), (T.weights, 6, 1), (T.tarcs, 7, 1)], 8) := by kernel_rfl
end Go.Ab
