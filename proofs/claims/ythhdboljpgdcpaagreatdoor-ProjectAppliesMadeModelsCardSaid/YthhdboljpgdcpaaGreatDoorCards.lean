/-
  DERIVED. GIVEN WITH THE SEED: THE CARDS: each row of YthhdboljpgdcpaaGreatDoorRows.lean that lists a variable, with what it lists TIED to the program's text (the seventh form; the later family's looks); each row that meets fmt, with fmt's text TOLD by the authors' own Lean function (tested against real Go, not proved from fmt's source: count such statements apart). THE CARD IS WHAT COUNTS. Prove the row's statement (the work); the ties are given (YthhdboljpgdcpaaGreatDoorTie.lean); close each card by the builder's one call (the guide's Derived/Test/ToyasCard.lean, 'card_holds'). Laid BY PROGRAM, IN A SANDBOX (cutbox-door.mjs). By AI agents, Wed Nov 11 2026. No macro, syntax, notation, axiom, sorry.
-/
import Derived.Test.YthhdboljpgdcpaaGreatDoorRows
import GoSem.ClaimSeven
namespace Go.Proofs.YthhdboljpgdcpaaGreatDoor
namespace Rows

/-- THE TIED CARD OF 'weightedlaw18.ComposeBuilds'. -/
def composeBuildsCard : Claim7 := { stood := { row := composeBuildsRow, standIns := [], harness := (true, "29fb5c8f5ff41f8bbb452b879ed929585f66a1f2bc7d8a74c96877bd4d8509c2"), looks := true }, kinds := [], alts := [], laidByText := true, laidKinds := [.data, .data, .data, .data, .sentinel, .sentinel, .pinned], laidTests := true, laidLooks := .later }
def ComposeBuildsCardSaid : Prop := Claim7.holds Tryz.pinned (.plain (OpenSpec.ofChange composeBuildsSpec)) composeBuildsCard

/-- THE TIED CARD OF 'weightedlaw18.ComposeBuildsMadeModels'. -/
def composeBuildsMadeModelsCard : Claim7 := { stood := { row := composeBuildsMadeModelsRow, standIns := [], harness := (true, "29fb5c8f5ff41f8bbb452b879ed929585f66a1f2bc7d8a74c96877bd4d8509c2"), looks := true }, kinds := [], alts := [], laidByText := true, laidKinds := [.data, .data, .data, .data, .sentinel, .sentinel, .pinned], laidTests := true, laidLooks := .later }
def ComposeBuildsMadeModelsCardSaid : Prop := Claim7.holds Tryz.pinned (.plain (OpenSpec.ofChange composeBuildsMadeModelsSpec)) composeBuildsMadeModelsCard

/-- THE TIED CARD OF 'weightedlaw19.ProjectApplies'. -/
def projectAppliesCard : Claim7 := { stood := { row := projectAppliesRow, standIns := [], harness := (true, "29fb5c8f5ff41f8bbb452b879ed929585f66a1f2bc7d8a74c96877bd4d8509c2"), looks := true }, kinds := [], alts := [], laidByText := true, laidKinds := [.data, .data, .data, .data, .sentinel, .sentinel, .pinned], laidTests := true, laidLooks := .later }
def ProjectAppliesCardSaid : Prop := Claim7.holds Tryz.pinned (.plain (OpenSpec.ofChange projectAppliesSpec)) projectAppliesCard

/-- THE TIED CARD OF 'weightedlaw19.ProjectAppliesMadeModels'. -/
def projectAppliesMadeModelsCard : Claim7 := { stood := { row := projectAppliesMadeModelsRow, standIns := [], harness := (true, "29fb5c8f5ff41f8bbb452b879ed929585f66a1f2bc7d8a74c96877bd4d8509c2"), looks := true }, kinds := [], alts := [], laidByText := true, laidKinds := [.data, .data, .data, .data, .sentinel, .sentinel, .pinned], laidTests := true, laidLooks := .later }
def ProjectAppliesMadeModelsCardSaid : Prop := Claim7.holds Tryz.pinned (.plain (OpenSpec.ofChange projectAppliesMadeModelsSpec)) projectAppliesMadeModelsCard

/-- THE SECOND FORM's CARD OF 'weightedlaw18.ComposeBuilds'. -/
def composeBuildsUptoCard : Claim7 := { stood := { row := composeBuildsUptoRow, standIns := [], harness := (true, "29fb5c8f5ff41f8bbb452b879ed929585f66a1f2bc7d8a74c96877bd4d8509c2"), looks := true }, kinds := [], alts := [], laidByText := true, laidKinds := [.data, .data, .data, .data, .sentinel, .sentinel, .pinned], laidTests := true, laidLooks := .later }
def ComposeBuildsUptoCardSaid : Prop := Claim7.holds Tryz.pinned (.plain (OpenSpec.upto composeBuildsSpec)) composeBuildsUptoCard

/-- THE SECOND FORM's CARD OF 'weightedlaw18.ComposeBuildsMadeModels'. -/
def composeBuildsMadeModelsUptoCard : Claim7 := { stood := { row := composeBuildsMadeModelsUptoRow, standIns := [], harness := (true, "29fb5c8f5ff41f8bbb452b879ed929585f66a1f2bc7d8a74c96877bd4d8509c2"), looks := true }, kinds := [], alts := [], laidByText := true, laidKinds := [.data, .data, .data, .data, .sentinel, .sentinel, .pinned], laidTests := true, laidLooks := .later }
def ComposeBuildsMadeModelsUptoCardSaid : Prop := Claim7.holds Tryz.pinned (.plain (OpenSpec.upto composeBuildsMadeModelsSpec)) composeBuildsMadeModelsUptoCard

/-- THE SECOND FORM's CARD OF 'weightedlaw19.ProjectApplies'. -/
def projectAppliesUptoCard : Claim7 := { stood := { row := projectAppliesUptoRow, standIns := [], harness := (true, "29fb5c8f5ff41f8bbb452b879ed929585f66a1f2bc7d8a74c96877bd4d8509c2"), looks := true }, kinds := [], alts := [], laidByText := true, laidKinds := [.data, .data, .data, .data, .sentinel, .sentinel, .pinned], laidTests := true, laidLooks := .later }
def ProjectAppliesUptoCardSaid : Prop := Claim7.holds Tryz.pinned (.plain (OpenSpec.upto projectAppliesSpec)) projectAppliesUptoCard

/-- THE SECOND FORM's CARD OF 'weightedlaw19.ProjectAppliesMadeModels'. -/
def projectAppliesMadeModelsUptoCard : Claim7 := { stood := { row := projectAppliesMadeModelsUptoRow, standIns := [], harness := (true, "29fb5c8f5ff41f8bbb452b879ed929585f66a1f2bc7d8a74c96877bd4d8509c2"), looks := true }, kinds := [], alts := [], laidByText := true, laidKinds := [.data, .data, .data, .data, .sentinel, .sentinel, .pinned], laidTests := true, laidLooks := .later }
def ProjectAppliesMadeModelsUptoCardSaid : Prop := Claim7.holds Tryz.pinned (.plain (OpenSpec.upto projectAppliesMadeModelsSpec)) projectAppliesMadeModelsUptoCard
end Rows
end Go.Proofs.YthhdboljpgdcpaaGreatDoor
