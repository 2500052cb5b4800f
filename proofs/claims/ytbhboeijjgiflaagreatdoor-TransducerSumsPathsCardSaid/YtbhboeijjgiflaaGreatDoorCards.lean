/-
  DERIVED. GIVEN WITH THE SEED: THE CARDS: each row of YtbhboeijjgiflaaGreatDoorRows.lean that lists a variable, with what it lists TIED to the program's text (the seventh form; the later family's looks); each row that meets fmt, with fmt's text TOLD by the authors' own Lean function (tested against real Go, not proved from fmt's source: count such statements apart). THE CARD IS WHAT COUNTS. Prove the row's statement (the work); the ties are given (YtbhboeijjgiflaaGreatDoorTie.lean); close each card by the builder's one call (the guide's Derived/Test/ToyasCard.lean, 'card_holds'). Laid BY PROGRAM, IN A SANDBOX (cutbox-door.mjs). By AI agents, Wed Nov 11 2026. No macro, syntax, notation, axiom, sorry.
-/
import Derived.Test.YtbhboeijjgiflaaGreatDoorRows
import GoSem.ClaimSeven
namespace Go.Proofs.YtbhboeijjgiflaaGreatDoor
namespace Rows

/-- THE TIED CARD OF 'weightedlaw17.TransducerWeighs'. -/
def transducerWeighsCard : Claim7 := { stood := { row := transducerWeighsRow, standIns := [], harness := (true, "4678846557abfe32a5239624c013442377000325d872cec4533b46565f0a64b0"), looks := true }, kinds := [], alts := [], laidByText := true, laidKinds := [.data, .data, .data, .data, .sentinel, .sentinel, .pinned], laidTests := true, laidLooks := .later }
def TransducerWeighsCardSaid : Prop := Claim7.holds Tryz.pinned (.plain (OpenSpec.ofChange transducerWeighsSpec)) transducerWeighsCard

/-- THE TIED CARD OF 'weightedlaw17.TransducerWeighsMadeModels'. -/
def transducerWeighsMadeModelsCard : Claim7 := { stood := { row := transducerWeighsMadeModelsRow, standIns := [], harness := (true, "4678846557abfe32a5239624c013442377000325d872cec4533b46565f0a64b0"), looks := true }, kinds := [], alts := [], laidByText := true, laidKinds := [.data, .data, .data, .data, .sentinel, .sentinel, .pinned], laidTests := true, laidLooks := .later }
def TransducerWeighsMadeModelsCardSaid : Prop := Claim7.holds Tryz.pinned (.plain (OpenSpec.ofChange transducerWeighsMadeModelsSpec)) transducerWeighsMadeModelsCard

/-- THE TIED CARD OF 'weightedlaw17.TransducerSumsPaths'. -/
def transducerSumsPathsCard : Claim7 := { stood := { row := transducerSumsPathsRow, standIns := [], harness := (true, "4678846557abfe32a5239624c013442377000325d872cec4533b46565f0a64b0"), looks := true }, kinds := [], alts := [], laidByText := true, laidKinds := [.data, .data, .data, .data, .sentinel, .sentinel, .pinned], laidTests := true, laidLooks := .later }
def TransducerSumsPathsCardSaid : Prop := Claim7.holds Tryz.pinned (.plain (OpenSpec.ofChange transducerSumsPathsSpec)) transducerSumsPathsCard

/-- THE TIED CARD OF 'weightedlaw17.TransducerHasAForm'. -/
def transducerHasAFormCard : Claim7 := { stood := { row := transducerHasAFormRow, standIns := [], harness := (true, "4678846557abfe32a5239624c013442377000325d872cec4533b46565f0a64b0"), looks := true }, kinds := [], alts := [], laidByText := true, laidKinds := [.data, .data, .data, .data, .sentinel, .sentinel, .pinned], laidTests := true, laidLooks := .later }
def TransducerHasAFormCardSaid : Prop := Claim7.holds Tryz.pinned (.plain (OpenSpec.ofChange transducerHasAFormSpec)) transducerHasAFormCard

/-- THE TIED CARD OF 'weightedlaw17.TransducerNormalKeepsWeights'. -/
def transducerNormalKeepsWeightsCard : Claim7 := { stood := { row := transducerNormalKeepsWeightsRow, standIns := [], harness := (true, "4678846557abfe32a5239624c013442377000325d872cec4533b46565f0a64b0"), looks := true }, kinds := [], alts := [], laidByText := true, laidKinds := [.data, .data, .data, .data, .sentinel, .sentinel, .pinned], laidTests := true, laidLooks := .later }
def TransducerNormalKeepsWeightsCardSaid : Prop := Claim7.holds Tryz.pinned (.plain (OpenSpec.ofChange transducerNormalKeepsWeightsSpec)) transducerNormalKeepsWeightsCard

/-- THE SECOND FORM's CARD OF 'weightedlaw17.TransducerWeighs'. -/
def transducerWeighsUptoCard : Claim7 := { stood := { row := transducerWeighsUptoRow, standIns := [], harness := (true, "4678846557abfe32a5239624c013442377000325d872cec4533b46565f0a64b0"), looks := true }, kinds := [], alts := [], laidByText := true, laidKinds := [.data, .data, .data, .data, .sentinel, .sentinel, .pinned], laidTests := true, laidLooks := .later }
def TransducerWeighsUptoCardSaid : Prop := Claim7.holds Tryz.pinned (.plain (OpenSpec.upto transducerWeighsSpec)) transducerWeighsUptoCard

/-- THE SECOND FORM's CARD OF 'weightedlaw17.TransducerWeighsMadeModels'. -/
def transducerWeighsMadeModelsUptoCard : Claim7 := { stood := { row := transducerWeighsMadeModelsUptoRow, standIns := [], harness := (true, "4678846557abfe32a5239624c013442377000325d872cec4533b46565f0a64b0"), looks := true }, kinds := [], alts := [], laidByText := true, laidKinds := [.data, .data, .data, .data, .sentinel, .sentinel, .pinned], laidTests := true, laidLooks := .later }
def TransducerWeighsMadeModelsUptoCardSaid : Prop := Claim7.holds Tryz.pinned (.plain (OpenSpec.upto transducerWeighsMadeModelsSpec)) transducerWeighsMadeModelsUptoCard

/-- THE SECOND FORM's CARD OF 'weightedlaw17.TransducerSumsPaths'. -/
def transducerSumsPathsUptoCard : Claim7 := { stood := { row := transducerSumsPathsUptoRow, standIns := [], harness := (true, "4678846557abfe32a5239624c013442377000325d872cec4533b46565f0a64b0"), looks := true }, kinds := [], alts := [], laidByText := true, laidKinds := [.data, .data, .data, .data, .sentinel, .sentinel, .pinned], laidTests := true, laidLooks := .later }
def TransducerSumsPathsUptoCardSaid : Prop := Claim7.holds Tryz.pinned (.plain (OpenSpec.upto transducerSumsPathsSpec)) transducerSumsPathsUptoCard

/-- THE SECOND FORM's CARD OF 'weightedlaw17.TransducerHasAForm'. -/
def transducerHasAFormUptoCard : Claim7 := { stood := { row := transducerHasAFormUptoRow, standIns := [], harness := (true, "4678846557abfe32a5239624c013442377000325d872cec4533b46565f0a64b0"), looks := true }, kinds := [], alts := [], laidByText := true, laidKinds := [.data, .data, .data, .data, .sentinel, .sentinel, .pinned], laidTests := true, laidLooks := .later }
def TransducerHasAFormUptoCardSaid : Prop := Claim7.holds Tryz.pinned (.plain (OpenSpec.upto transducerHasAFormSpec)) transducerHasAFormUptoCard

/-- THE SECOND FORM's CARD OF 'weightedlaw17.TransducerNormalKeepsWeights'. -/
def transducerNormalKeepsWeightsUptoCard : Claim7 := { stood := { row := transducerNormalKeepsWeightsUptoRow, standIns := [], harness := (true, "4678846557abfe32a5239624c013442377000325d872cec4533b46565f0a64b0"), looks := true }, kinds := [], alts := [], laidByText := true, laidKinds := [.data, .data, .data, .data, .sentinel, .sentinel, .pinned], laidTests := true, laidLooks := .later }
def TransducerNormalKeepsWeightsUptoCardSaid : Prop := Claim7.holds Tryz.pinned (.plain (OpenSpec.upto transducerNormalKeepsWeightsSpec)) transducerNormalKeepsWeightsUptoCard
end Rows
end Go.Proofs.YtbhboeijjgiflaaGreatDoor
