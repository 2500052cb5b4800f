/-
  DERIVED. GIVEN WITH THE SEED: THE CARDS: each row of YtdkocfjbmbenfaaGreatDoorRows.lean that lists a variable, with what it lists TIED to the program's text (the seventh form; the later family's looks); each row that meets fmt, with fmt's text TOLD by the authors' own Lean function (tested against real Go, not proved from fmt's source: count such statements apart). THE CARD IS WHAT COUNTS. Prove the row's statement (the work); the ties are given (YtdkocfjbmbenfaaGreatDoorTie.lean); close each card by the builder's one call (the guide's Derived/Test/ToyasCard.lean, 'card_holds'). Laid BY PROGRAM, IN A SANDBOX (cutbox-door.mjs). By AI agents, Wed Nov 11 2026. No macro, syntax, notation, axiom, sorry.
-/
import Derived.Test.YtdkocfjbmbenfaaGreatDoorRows
import GoSem.ClaimSeven
namespace Go.Proofs.YtdkocfjbmbenfaaGreatDoor
namespace Rows

/-- THE TIED CARD OF 'weightedlaw41.CountRanks'. -/
def countRanksCard : Claim7 := { stood := { row := countRanksRow, standIns := [], harness := (true, "5191f68cd0657427dc54e56376ca1d0bd4dbd858e37a104573c781598d5f3594"), looks := true }, kinds := [], alts := [], laidByText := true, laidKinds := [.data, .data, .data, .data, .sentinel, .sentinel, .pinned], laidTests := true, laidLooks := .later }
def CountRanksCardSaid : Prop := Claim7.holds Tryz.pinned (.plain (OpenSpec.ofChange countRanksSpec)) countRanksCard

/-- THE TIED CARD OF 'weightedlaw41.CountIsExhaustive'. -/
def countIsExhaustiveCard : Claim7 := { stood := { row := countIsExhaustiveRow, standIns := [], harness := (true, "5191f68cd0657427dc54e56376ca1d0bd4dbd858e37a104573c781598d5f3594"), looks := true }, kinds := [], alts := [], laidByText := true, laidKinds := [.data, .data, .data, .data, .sentinel, .sentinel, .pinned], laidTests := true, laidLooks := .later }
def CountIsExhaustiveCardSaid : Prop := Claim7.holds Tryz.pinned (.plain (OpenSpec.ofChange countIsExhaustiveSpec)) countIsExhaustiveCard

/-- THE TIED CARD OF 'weightedlaw41.CountGoesOn'. -/
def countGoesOnCard : Claim7 := { stood := { row := countGoesOnRow, standIns := [], harness := (true, "5191f68cd0657427dc54e56376ca1d0bd4dbd858e37a104573c781598d5f3594"), looks := true }, kinds := [], alts := [], laidByText := true, laidKinds := [.data, .data, .data, .data, .sentinel, .sentinel, .pinned], laidTests := true, laidLooks := .later }
def CountGoesOnCardSaid : Prop := Claim7.holds Tryz.pinned (.plain (OpenSpec.ofChange countGoesOnSpec)) countGoesOnCard

/-- THE TIED CARD OF 'weightedlaw41.CountIsFinite'. -/
def countIsFiniteCard : Claim7 := { stood := { row := countIsFiniteRow, standIns := [], harness := (true, "5191f68cd0657427dc54e56376ca1d0bd4dbd858e37a104573c781598d5f3594"), looks := true }, kinds := [], alts := [], laidByText := true, laidKinds := [.data, .data, .data, .data, .sentinel, .sentinel, .pinned], laidTests := true, laidLooks := .later }
def CountIsFiniteCardSaid : Prop := Claim7.holds Tryz.pinned (.plain (OpenSpec.ofChange countIsFiniteSpec)) countIsFiniteCard

/-- THE TIED CARD OF 'weightedlaw41.CountActs'. -/
def countActsCard : Claim7 := { stood := { row := countActsRow, standIns := [], harness := (true, "5191f68cd0657427dc54e56376ca1d0bd4dbd858e37a104573c781598d5f3594"), looks := true }, kinds := [], alts := [], laidByText := true, laidKinds := [.data, .data, .data, .data, .sentinel, .sentinel, .pinned], laidTests := true, laidLooks := .later }
def CountActsCardSaid : Prop := Claim7.holds Tryz.pinned (.plain (OpenSpec.ofChange countActsSpec)) countActsCard

/-- THE SECOND FORM's CARD OF 'weightedlaw41.CountRanks'. -/
def countRanksUptoCard : Claim7 := { stood := { row := countRanksUptoRow, standIns := [], harness := (true, "5191f68cd0657427dc54e56376ca1d0bd4dbd858e37a104573c781598d5f3594"), looks := true }, kinds := [], alts := [], laidByText := true, laidKinds := [.data, .data, .data, .data, .sentinel, .sentinel, .pinned], laidTests := true, laidLooks := .later }
def CountRanksUptoCardSaid : Prop := Claim7.holds Tryz.pinned (.plain (OpenSpec.upto countRanksSpec)) countRanksUptoCard

/-- THE SECOND FORM's CARD OF 'weightedlaw41.CountIsExhaustive'. -/
def countIsExhaustiveUptoCard : Claim7 := { stood := { row := countIsExhaustiveUptoRow, standIns := [], harness := (true, "5191f68cd0657427dc54e56376ca1d0bd4dbd858e37a104573c781598d5f3594"), looks := true }, kinds := [], alts := [], laidByText := true, laidKinds := [.data, .data, .data, .data, .sentinel, .sentinel, .pinned], laidTests := true, laidLooks := .later }
def CountIsExhaustiveUptoCardSaid : Prop := Claim7.holds Tryz.pinned (.plain (OpenSpec.upto countIsExhaustiveSpec)) countIsExhaustiveUptoCard

/-- THE SECOND FORM's CARD OF 'weightedlaw41.CountGoesOn'. -/
def countGoesOnUptoCard : Claim7 := { stood := { row := countGoesOnUptoRow, standIns := [], harness := (true, "5191f68cd0657427dc54e56376ca1d0bd4dbd858e37a104573c781598d5f3594"), looks := true }, kinds := [], alts := [], laidByText := true, laidKinds := [.data, .data, .data, .data, .sentinel, .sentinel, .pinned], laidTests := true, laidLooks := .later }
def CountGoesOnUptoCardSaid : Prop := Claim7.holds Tryz.pinned (.plain (OpenSpec.upto countGoesOnSpec)) countGoesOnUptoCard

/-- THE SECOND FORM's CARD OF 'weightedlaw41.CountIsFinite'. -/
def countIsFiniteUptoCard : Claim7 := { stood := { row := countIsFiniteUptoRow, standIns := [], harness := (true, "5191f68cd0657427dc54e56376ca1d0bd4dbd858e37a104573c781598d5f3594"), looks := true }, kinds := [], alts := [], laidByText := true, laidKinds := [.data, .data, .data, .data, .sentinel, .sentinel, .pinned], laidTests := true, laidLooks := .later }
def CountIsFiniteUptoCardSaid : Prop := Claim7.holds Tryz.pinned (.plain (OpenSpec.upto countIsFiniteSpec)) countIsFiniteUptoCard

/-- THE SECOND FORM's CARD OF 'weightedlaw41.CountActs'. -/
def countActsUptoCard : Claim7 := { stood := { row := countActsUptoRow, standIns := [], harness := (true, "5191f68cd0657427dc54e56376ca1d0bd4dbd858e37a104573c781598d5f3594"), looks := true }, kinds := [], alts := [], laidByText := true, laidKinds := [.data, .data, .data, .data, .sentinel, .sentinel, .pinned], laidTests := true, laidLooks := .later }
def CountActsUptoCardSaid : Prop := Claim7.holds Tryz.pinned (.plain (OpenSpec.upto countActsSpec)) countActsUptoCard
end Rows
end Go.Proofs.YtdkocfjbmbenfaaGreatDoor
