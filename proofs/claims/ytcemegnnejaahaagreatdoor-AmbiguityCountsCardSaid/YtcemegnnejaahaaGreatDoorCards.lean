/-
  DERIVED. GIVEN WITH THE SEED: THE CARDS: each row of YtcemegnnejaahaaGreatDoorRows.lean that lists a variable, with what it lists TIED to the program's text (the seventh form; the later family's looks); each row that meets fmt, with fmt's text TOLD by the authors' own Lean function (tested against real Go, not proved from fmt's source: count such statements apart). THE CARD IS WHAT COUNTS. Prove the row's statement (the work); the ties are given (YtcemegnnejaahaaGreatDoorTie.lean); close each card by the builder's one call (the guide's Derived/Test/ToyasCard.lean, 'card_holds'). Laid BY PROGRAM, IN A SANDBOX (cutbox-door.mjs). By AI agents, Wed Nov 11 2026. No macro, syntax, notation, axiom, sorry.
-/
import Derived.Test.YtcemegnnejaahaaGreatDoorRows
import GoSem.ClaimSeven
namespace Go.Proofs.YtcemegnnejaahaaGreatDoor
namespace Rows

/-- THE TIED CARD OF 'weightedlaw28.AmbiguityOfDeterministic'. -/
def ambiguityOfDeterministicCard : Claim7 := { stood := { row := ambiguityOfDeterministicRow, standIns := [], harness := (true, "6d4be8c1e318b83a38bff5fe8b7aa8ff5cd9e07c30782f52108f271b7043708f"), looks := true }, kinds := [], alts := [], laidByText := true, laidKinds := [.data, .data, .data, .data, .sentinel, .sentinel, .pinned], laidTests := true, laidLooks := .later }
def AmbiguityOfDeterministicCardSaid : Prop := Claim7.holds Tryz.pinned (.plain (OpenSpec.ofChange ambiguityOfDeterministicSpec)) ambiguityOfDeterministicCard

/-- THE TIED CARD OF 'weightedlaw28.AmbiguityLoops'. -/
def ambiguityLoopsCard : Claim7 := { stood := { row := ambiguityLoopsRow, standIns := [], harness := (true, "6d4be8c1e318b83a38bff5fe8b7aa8ff5cd9e07c30782f52108f271b7043708f"), looks := true }, kinds := [], alts := [], laidByText := true, laidKinds := [.data, .data, .data, .data, .sentinel, .sentinel, .pinned], laidTests := true, laidLooks := .later }
def AmbiguityLoopsCardSaid : Prop := Claim7.holds Tryz.pinned (.plain (OpenSpec.ofChange ambiguityLoopsSpec)) ambiguityLoopsCard

/-- THE TIED CARD OF 'weightedlaw28.AmbiguityPairs'. -/
def ambiguityPairsCard : Claim7 := { stood := { row := ambiguityPairsRow, standIns := [], harness := (true, "6d4be8c1e318b83a38bff5fe8b7aa8ff5cd9e07c30782f52108f271b7043708f"), looks := true }, kinds := [], alts := [], laidByText := true, laidKinds := [.data, .data, .data, .data, .sentinel, .sentinel, .pinned], laidTests := true, laidLooks := .later }
def AmbiguityPairsCardSaid : Prop := Claim7.holds Tryz.pinned (.plain (OpenSpec.ofChange ambiguityPairsSpec)) ambiguityPairsCard

/-- THE TIED CARD OF 'weightedlaw28.AmbiguityActs'. -/
def ambiguityActsCard : Claim7 := { stood := { row := ambiguityActsRow, standIns := [], harness := (true, "6d4be8c1e318b83a38bff5fe8b7aa8ff5cd9e07c30782f52108f271b7043708f"), looks := true }, kinds := [], alts := [], laidByText := true, laidKinds := [.data, .data, .data, .data, .sentinel, .sentinel, .pinned], laidTests := true, laidLooks := .later }
def AmbiguityActsCardSaid : Prop := Claim7.holds Tryz.pinned (.plain (OpenSpec.ofChange ambiguityActsSpec)) ambiguityActsCard

/-- THE TIED CARD OF 'weightedlaw28.AmbiguityCounts'. -/
def ambiguityCountsCard : Claim7 := { stood := { row := ambiguityCountsRow, standIns := [], harness := (true, "6d4be8c1e318b83a38bff5fe8b7aa8ff5cd9e07c30782f52108f271b7043708f"), looks := true }, kinds := [], alts := [], laidByText := true, laidKinds := [.data, .data, .data, .data, .sentinel, .sentinel, .pinned], laidTests := true, laidLooks := .later }
def AmbiguityCountsCardSaid : Prop := Claim7.holds Tryz.pinned (.plain (OpenSpec.ofChange ambiguityCountsSpec)) ambiguityCountsCard

/-- THE SECOND FORM's CARD OF 'weightedlaw28.AmbiguityOfDeterministic'. -/
def ambiguityOfDeterministicUptoCard : Claim7 := { stood := { row := ambiguityOfDeterministicUptoRow, standIns := [], harness := (true, "6d4be8c1e318b83a38bff5fe8b7aa8ff5cd9e07c30782f52108f271b7043708f"), looks := true }, kinds := [], alts := [], laidByText := true, laidKinds := [.data, .data, .data, .data, .sentinel, .sentinel, .pinned], laidTests := true, laidLooks := .later }
def AmbiguityOfDeterministicUptoCardSaid : Prop := Claim7.holds Tryz.pinned (.plain (OpenSpec.upto ambiguityOfDeterministicSpec)) ambiguityOfDeterministicUptoCard

/-- THE SECOND FORM's CARD OF 'weightedlaw28.AmbiguityLoops'. -/
def ambiguityLoopsUptoCard : Claim7 := { stood := { row := ambiguityLoopsUptoRow, standIns := [], harness := (true, "6d4be8c1e318b83a38bff5fe8b7aa8ff5cd9e07c30782f52108f271b7043708f"), looks := true }, kinds := [], alts := [], laidByText := true, laidKinds := [.data, .data, .data, .data, .sentinel, .sentinel, .pinned], laidTests := true, laidLooks := .later }
def AmbiguityLoopsUptoCardSaid : Prop := Claim7.holds Tryz.pinned (.plain (OpenSpec.upto ambiguityLoopsSpec)) ambiguityLoopsUptoCard

/-- THE SECOND FORM's CARD OF 'weightedlaw28.AmbiguityPairs'. -/
def ambiguityPairsUptoCard : Claim7 := { stood := { row := ambiguityPairsUptoRow, standIns := [], harness := (true, "6d4be8c1e318b83a38bff5fe8b7aa8ff5cd9e07c30782f52108f271b7043708f"), looks := true }, kinds := [], alts := [], laidByText := true, laidKinds := [.data, .data, .data, .data, .sentinel, .sentinel, .pinned], laidTests := true, laidLooks := .later }
def AmbiguityPairsUptoCardSaid : Prop := Claim7.holds Tryz.pinned (.plain (OpenSpec.upto ambiguityPairsSpec)) ambiguityPairsUptoCard

/-- THE SECOND FORM's CARD OF 'weightedlaw28.AmbiguityActs'. -/
def ambiguityActsUptoCard : Claim7 := { stood := { row := ambiguityActsUptoRow, standIns := [], harness := (true, "6d4be8c1e318b83a38bff5fe8b7aa8ff5cd9e07c30782f52108f271b7043708f"), looks := true }, kinds := [], alts := [], laidByText := true, laidKinds := [.data, .data, .data, .data, .sentinel, .sentinel, .pinned], laidTests := true, laidLooks := .later }
def AmbiguityActsUptoCardSaid : Prop := Claim7.holds Tryz.pinned (.plain (OpenSpec.upto ambiguityActsSpec)) ambiguityActsUptoCard

/-- THE SECOND FORM's CARD OF 'weightedlaw28.AmbiguityCounts'. -/
def ambiguityCountsUptoCard : Claim7 := { stood := { row := ambiguityCountsUptoRow, standIns := [], harness := (true, "6d4be8c1e318b83a38bff5fe8b7aa8ff5cd9e07c30782f52108f271b7043708f"), looks := true }, kinds := [], alts := [], laidByText := true, laidKinds := [.data, .data, .data, .data, .sentinel, .sentinel, .pinned], laidTests := true, laidLooks := .later }
def AmbiguityCountsUptoCardSaid : Prop := Claim7.holds Tryz.pinned (.plain (OpenSpec.upto ambiguityCountsSpec)) ambiguityCountsUptoCard
end Rows
end Go.Proofs.YtcemegnnejaahaaGreatDoor
