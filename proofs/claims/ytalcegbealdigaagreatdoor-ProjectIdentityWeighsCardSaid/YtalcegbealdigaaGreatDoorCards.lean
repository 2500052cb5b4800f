/-
  DERIVED. GIVEN WITH THE SEED: THE CARDS: each row of YtalcegbealdigaaGreatDoorRows.lean that lists a variable, with what it lists TIED to the program's text (the seventh form; the later family's looks); each row that meets fmt, with fmt's text TOLD by the authors' own Lean function (tested against real Go, not proved from fmt's source: count such statements apart). THE CARD IS WHAT COUNTS. Prove the row's statement (the work); the ties are given (YtalcegbealdigaaGreatDoorTie.lean); close each card by the builder's one call (the guide's Derived/Test/ToyasCard.lean, 'card_holds'). Laid BY PROGRAM, IN A SANDBOX (cutbox-door.mjs). By AI agents, Wed Nov 11 2026. No macro, syntax, notation, axiom, sorry.
-/
import Derived.Test.YtalcegbealdigaaGreatDoorRows
import GoSem.ClaimSeven
namespace Go.Proofs.YtalcegbealdigaaGreatDoor
namespace Rows

/-- THE TIED CARD OF 'weightedlaw19.ProjectInvertsTwice'. -/
def projectInvertsTwiceCard : Claim7 := { stood := { row := projectInvertsTwiceRow, standIns := [], harness := (true, "17664b24359e6b12987eb1d647e27af23735bdb8377b0eb6b7950e554965a77e"), looks := true }, kinds := [], alts := [], laidByText := true, laidKinds := [.data, .data, .data, .data, .sentinel, .sentinel, .pinned], laidTests := true, laidLooks := .later }
def ProjectInvertsTwiceCardSaid : Prop := Claim7.holds Tryz.pinned (.plain (OpenSpec.ofChange projectInvertsTwiceSpec)) projectInvertsTwiceCard

/-- THE TIED CARD OF 'weightedlaw19.ProjectIdentityWeighs'. -/
def projectIdentityWeighsCard : Claim7 := { stood := { row := projectIdentityWeighsRow, standIns := [], harness := (true, "17664b24359e6b12987eb1d647e27af23735bdb8377b0eb6b7950e554965a77e"), looks := true }, kinds := [], alts := [], laidByText := true, laidKinds := [.data, .data, .data, .data, .sentinel, .sentinel, .pinned], laidTests := true, laidLooks := .later }
def ProjectIdentityWeighsCardSaid : Prop := Claim7.holds Tryz.pinned (.plain (OpenSpec.ofChange projectIdentityWeighsSpec)) projectIdentityWeighsCard

/-- THE TIED CARD OF 'weightedlaw19.ProjectSides'. -/
def projectSidesCard : Claim7 := { stood := { row := projectSidesRow, standIns := [], harness := (true, "17664b24359e6b12987eb1d647e27af23735bdb8377b0eb6b7950e554965a77e"), looks := true }, kinds := [], alts := [], laidByText := true, laidKinds := [.data, .data, .data, .data, .sentinel, .sentinel, .pinned], laidTests := true, laidLooks := .later }
def ProjectSidesCardSaid : Prop := Claim7.holds Tryz.pinned (.plain (OpenSpec.ofChange projectSidesSpec)) projectSidesCard

/-- THE SECOND FORM's CARD OF 'weightedlaw19.ProjectInvertsTwice'. -/
def projectInvertsTwiceUptoCard : Claim7 := { stood := { row := projectInvertsTwiceUptoRow, standIns := [], harness := (true, "17664b24359e6b12987eb1d647e27af23735bdb8377b0eb6b7950e554965a77e"), looks := true }, kinds := [], alts := [], laidByText := true, laidKinds := [.data, .data, .data, .data, .sentinel, .sentinel, .pinned], laidTests := true, laidLooks := .later }
def ProjectInvertsTwiceUptoCardSaid : Prop := Claim7.holds Tryz.pinned (.plain (OpenSpec.upto projectInvertsTwiceSpec)) projectInvertsTwiceUptoCard

/-- THE SECOND FORM's CARD OF 'weightedlaw19.ProjectIdentityWeighs'. -/
def projectIdentityWeighsUptoCard : Claim7 := { stood := { row := projectIdentityWeighsUptoRow, standIns := [], harness := (true, "17664b24359e6b12987eb1d647e27af23735bdb8377b0eb6b7950e554965a77e"), looks := true }, kinds := [], alts := [], laidByText := true, laidKinds := [.data, .data, .data, .data, .sentinel, .sentinel, .pinned], laidTests := true, laidLooks := .later }
def ProjectIdentityWeighsUptoCardSaid : Prop := Claim7.holds Tryz.pinned (.plain (OpenSpec.upto projectIdentityWeighsSpec)) projectIdentityWeighsUptoCard

/-- THE SECOND FORM's CARD OF 'weightedlaw19.ProjectSides'. -/
def projectSidesUptoCard : Claim7 := { stood := { row := projectSidesUptoRow, standIns := [], harness := (true, "17664b24359e6b12987eb1d647e27af23735bdb8377b0eb6b7950e554965a77e"), looks := true }, kinds := [], alts := [], laidByText := true, laidKinds := [.data, .data, .data, .data, .sentinel, .sentinel, .pinned], laidTests := true, laidLooks := .later }
def ProjectSidesUptoCardSaid : Prop := Claim7.holds Tryz.pinned (.plain (OpenSpec.upto projectSidesSpec)) projectSidesUptoCard
end Rows
end Go.Proofs.YtalcegbealdigaaGreatDoor
