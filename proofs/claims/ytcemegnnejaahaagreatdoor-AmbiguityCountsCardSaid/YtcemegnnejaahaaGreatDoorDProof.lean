/-
The law AmbiguityCounts answers true for every input: the tied card of the given row. No condition beyond the given row's own cells.
-/
import Derived.Test.YtcemegnnejaahaaGreatDoorCards
import Derived.Test.YtcemegnnejaahaaGreatDoorDLift
import Derived.Test.YtcemegnnejaahaaGreatDoorDFactsA
import Derived.Test.YtcemegnnejaahaaGreatDoorDFactsB
import Derived.Test.YtcemegnnejaahaaGreatDoorDFactsD
import Derived.Test.YtcemegnnejaahaaGreatDoorDFactsG
namespace Go.Proofs.YtcemegnnejaahaaGreatDoor
open Go.ChangeShapes Go.WideShapes Go.ChangeAt Go.RowKit
set_option maxRecDepth 100000
theorem and_t : ∀ {a b : Bool}, a = true → b = true → (a && b) = true
  | _, _, rfl, rfl => rfl
theorem closed : joinedFacts Tryz.prog 7 Tryz.f7 Rows.ambiguityCountsSpec Rows.ambiguityCountsRow = true := by
  unfold joinedFacts
  rw [k01, k02, k03, k04, k05, k06, k07, k08, k09, k10, k11, k12, k13, k14, k15, k16, k17, k18, k19, k20, k21, k22, k23, k24, k25, k26, k27, k28]
  exact and_t (and_t (and_t (and_t rfl k29) k30) k31) k32
theorem ambiguityCounts_holds : Rows.AmbiguityCountsSaid :=
  OpenClaim.holds_of_wide (p := Tryz.pinned) 7 Tryz.f7 rfl rfl rfl rfl rfl rfl rfl ⟨rfl, rfl, rfl, rfl, rfl⟩ rfl rfl rfl rfl rfl g5 Tryz.func7 closed
    (of_decide_eq_true (by kernel_rfl)) (by unfold Func.isWrapper; first | (rw [if_pos (by decide +kernel)]; kernel_rfl) | (rw [if_neg (by decide +kernel)]; exact ⟨rfl, rfl⟩))
    (fun os started H enc _ => lifted os started H enc)
theorem ambiguityCounts_card : Rows.AmbiguityCountsCardSaid :=
  Claim7.holds_tied_plain_at .later [] [.data, .data, .data, .data, .sentinel, .sentinel, .pinned] true Rows.ambiguityCountsCard.stood.harness true
    ambiguityCounts_holds (fun _ h => by cases h) g2 (fun _ h => by cases h) ambiguityCounts_row_tie rfl ⟨rfl, rfl⟩ g3 rfl
    (fun f fn hf hfn => by
      obtain rfl : f = 7 := Option.some.inj (g5.symm.trans hf) |>.symm
      obtain rfl : fn = Tryz.f7 := (Option.some.inj (Tryz.func7.symm.trans hfn)).symm
      exact ⟨g4, fun j t ht => by
        rw [Tryz.params7] at ht
        have hm : t ∈ (#[24, 22]).toList := by simpa using Array.mem_of_getElem? ht
        have hall : ((#[24, 22]).toList.all fun u => !Tryz.prog.wantsStandIn u) = true := by kernel_rfl
        exact (show Tryz.prog.wantsStandIn t = false by simpa using List.all_eq_true.1 hall t hm)⟩)
    g1
#print axioms ambiguityCounts_card
end Go.Proofs.YtcemegnnejaahaaGreatDoor
