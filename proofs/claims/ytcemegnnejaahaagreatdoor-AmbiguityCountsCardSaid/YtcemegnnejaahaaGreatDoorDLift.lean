/-
The law AmbiguityCounts answers true for every input (the tied card of the given row). No condition beyond the given row's own cells.
-/
import Derived.Test.YtcemegnnejaahaaGreatDoorTie
import Derived.ProofKit
import Derived.OpenShut
import Derived.LaidMore
import Derived.Lay
import Derived.Carry
import Derived.SevenTiedAt
import Derived.Stop.Joined
import Derived.Test.YtcemegnnejaahaaGreatDoorDP33
namespace Go.Proofs.YtcemegnnejaahaaGreatDoor
open Go.ChangeShapes Go.WideShapes Go.ChangeAt Go.RowKit
open Go.Ab (Sp Keep PRep PReps GPlan)
set_option maxRecDepth 100000
set_option maxHeartbeats 4000000
theorem own : ownKnob Tryz.prog.godebug = none := by kernel_rfl
theorem laidOut : laidOutB Tryz.prog = true := by kernel_rfl
theorem recL : Tryz.prog.readableRec 22 = true := by kernel_rfl
theorem kidsL : Kids Tryz.prog (InBook Tryz.prog 22) := kids_book laidOut recL
theorem inL : InBook Tryz.prog 22 22 := ⟨of_decide_eq_true (by kernel_rfl), book_self 22⟩
theorem readL {H : Type} {en : TypeId × Value → H} {w : World} {n : Nat} {cs : List Value} {x : DataW H × List MemPlace} (h : DataW.trod en Tryz.prog w 0 (fun _ => true) true n 22 cs = some x) : ∃ t : List Int, PReps (fun b => w.heap[b]?) [.sl (Go.Ab.ens t)] cs := by
  have k := Go.Ab.rdInts (en := en) (w := w) n
  rw [Go.Ab.P_eq] at k
  obtain ⟨l, ⟨t, rfl⟩, hr⟩ := k n (Nat.le_refl n) cs x h
  exact ⟨t, hr⟩
theorem one_cell {M : Nat → Option Obj} {p : Go.Ab.PV} {v : Value} (h : PReps M [p] [v]) : PRep M p v := by
  cases h with
  | cons _ _ _ _ h _ => exact h
theorem recM : Tryz.prog.readableRec 24 = true := by kernel_rfl
theorem kidsM : Kids Tryz.prog (InBook Tryz.prog 24) := kids_book laidOut recM
theorem inM : InBook Tryz.prog 24 24 := ⟨of_decide_eq_true (by kernel_rfl), book_self 24⟩
theorem readM {H : Type} {en : TypeId × Value → H} {w : World} {n : Nat} {cs : List Value} {x : DataW H × List MemPlace} (h : DataW.trod en Tryz.prog w 0 (fun _ => true) true n 24 cs = some x) : ∃ t : GPlan, PReps (fun b => w.heap[b]?) (Go.Ab.Enc.enc t).cells cs := by
  have k := Go.Ab.rdPlan (en := en) (w := w) n
  rw [Go.Ab.P_eq] at k
  obtain ⟨l, ⟨t, rfl⟩, hr⟩ := k n (Nat.le_refl n) cs x h
  exact ⟨t, hr⟩
theorem repM {M : Nat → Option Obj} {t : GPlan} {c : Array Value} (h : PReps M (Go.Ab.Enc.enc t).cells c.toList) : PRep M (Go.Ab.Enc.enc t) (.agg c) :=
  Go.Ab.prep_agg (cs := (Go.Ab.Enc.enc t).cells) (fun x hx => List.all_eq_true.1 (Go.Ab.gplan_one t) x hx) h
theorem law (x0 : GPlan) (x1 : List Int) : Sp Tryz.prog 7 [Go.Ab.Enc.enc x0, .sl (Go.Ab.ens x1)] (.pure (.bool true)) := by
  have h := Go.Ab.lawCounts_sp x0 x1
  rw [Go.Ab.P_eq] at h
  exact h
theorem lifted (os : Os) (started : os.Started) (H : Type) (enc : TypeId × Value → H) :
    ReturnsInHanded {} Tryz.checked os 7 .any (fun w args => (Rows.ambiguityCountsSpec.pre enc Tryz.prog Tryz.f7 Rows.ambiguityCountsRow.domain false w args ∧ laidMetH Tryz.prog Rows.ambiguityCountsRow.laid w) ∧ sizedMet enc Tryz.prog Tryz.f7 (OpenSpec.ofChange Rows.ambiguityCountsSpec) false w args)
      (Rows.ambiguityCountsSpec.post enc Tryz.prog Tryz.f7 false true false false) := by
  refine returnsInHanded_of_change_and (C := Tryz.checked) (X := fun w _ => laidMetH Tryz.prog Rows.ambiguityCountsRow.laid w) (fun _ _ _ hh h => h.of_heap hh) own started (by kernel_rfl) Tryz.func7
    (ChangeSpec.witness_shaped (enc := enc) (C := Tryz.checked) (os := os) (X := fun w _ => laidMetH Tryz.prog Rows.ambiguityCountsRow.laid w) false (World.laidAll Tryz.prog os Rows.ambiguityCountsRow.laid)
      #[.agg #[.int .i64 0, .int .i64 0, .bool false, .bool false, .slice none 0 0], .slice none 0 0] 8 (World.laidAll_os _ _ _)
      (World.shaped_of_ZipB (by kernel_rfl) (by kernel_rfl)) (by kernel_rfl) (by kernel_rfl) (by kernel_rfl)
      (by rw [MakeChecks.laidMetH_plain _ _ _ (by kernel_rfl)]; exact laidMet_laidAll _ (by kernel_rfl) (by kernel_rfl))) ?_
  intro W base args ds gs before hval0 hW _ _ _ _
  have hval : ∀ (j : Nat) t v, Tryz.f7.params[j]? = some t → args[j]? = some v → Value.okWide Tryz.prog W .any base t v := hval0
  have hW' := hW
  obtain ⟨p, q, hA0, hV, rfl, _, _⟩ := hW
  have hA : DataW.TrodAll enc Tryz.prog W 0 (fun _ => true) true Tryz.f7.params.toList args.toList ds p := hA0
  rw [Tryz.params7] at hA hval
  obtain ⟨v0, v1, d0, d1, p0, p1, rfl, rfl, rfl, h0, h1⟩ := trodAll_two hA
  obtain ⟨rfl, rfl⟩ := trodVars_none hV
  have e0 := hval 0 24 v0 rfl rfl
  simp only [Value.okWide, Tryz.underlying24] at e0
  obtain ⟨c0, rfl, _⟩ := e0
  obtain ⟨a1, l1, q1, rfl⟩ := okWide_slice Tryz.underlying22 (hval 1 22 v1 rfl rfl)
  obtain ⟨n0, h0⟩ := h0
  obtain ⟨x0, r0⟩ := readM h0
  obtain ⟨n1, h1⟩ := h1
  obtain ⟨x1, r1⟩ := readL h1
  have hp : PReps (fun b => W.heap[b]?) [Go.Ab.Enc.enc x0, .sl (Go.Ab.ens x1)] [.agg c0, .slice a1 l1 q1] := .cons _ _ _ _ (repM r0) (.cons _ _ _ _ (one_cell r1) .nil)
  clear hA0 hval0 hA hval
  refine ((law x0 x1).2 W _ _ (fun _ _ h => h) hp).mono fun e W' ⟨x, M', he, _, _, _, hk, hr⟩ => ?_
  cases hr
  exact ⟨_, he, _, _, _, [], _, [], hW', trodAll_mk1 (shut_bool Tryz.underlying4 _), trodAll_mk2 ⟨n0, Go.Ab.keep_trod hk kidsM (book_sized recM) inM h0⟩ ⟨n1, Go.Ab.keep_trod hk kidsL (book_sized recL) inL h1⟩, rfl, Go.Ab.keep_kept hk _, fun h => by cases h⟩
end Go.Proofs.YtcemegnnejaahaaGreatDoor
