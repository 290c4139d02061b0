/-
  DERIVED. GIVEN WITH THE SEED: THE CARDS: each row of YtjpgnkkfkkpheaaDoorRows.lean that lists a variable, with what it lists TIED to the program's text (the seventh form; the later family's looks); each row that meets fmt, with fmt's text TOLD by the authors' own Lean function (tested against real Go, not proved from fmt's source: count such statements apart). THE CARD IS WHAT COUNTS. Prove the row's statement (the work); the ties are given (YtjpgnkkfkkpheaaDoorTie.lean); close each card by the builder's one call (the guide's Derived/Test/ToyasCard.lean, 'card_holds'). Laid BY PROGRAM, IN A SANDBOX (cutbox-door.mjs). By AI agents, Wed Nov 11 2026. No macro, syntax, notation, axiom, sorry.
-/
import Derived.Test.YtjpgnkkfkkpheaaDoorRows
import GoSem.ClaimSeven
namespace Go.Proofs.YtjpgnkkfkkpheaaDoor
namespace Rows

/-- THE TIED CARD OF 'parallaxlaw3.TextTells'. -/
def textTellsCard : Claim7 := { stood := { row := textTellsRow, standIns := [], harness := (true, "7958782995669c7130d7d9e53dca543b59f65321ca67a4ecbde9b3b133ae3cd6"), looks := false }, kinds := [], alts := [], laidByText := true, laidKinds := [.data, .pinned], laidTests := true, laidLooks := .later }
def TextTellsCardSaid : Prop := Claim7.holds Tryd.pinned (.plain (OpenSpec.ofChange textTellsSpec)) textTellsCard

/-- THE TIED CARD OF 'parallaxlaw3.TextFields'. -/
def textFieldsCard : Claim7 := { stood := { row := textFieldsRow, standIns := [], harness := (true, "7958782995669c7130d7d9e53dca543b59f65321ca67a4ecbde9b3b133ae3cd6"), looks := false }, kinds := [], alts := [], laidByText := true, laidKinds := [.data, .pinned], laidTests := true, laidLooks := .later }
def TextFieldsCardSaid : Prop := Claim7.holds Tryd.pinned (.plain (OpenSpec.ofChange textFieldsSpec)) textFieldsCard

/-- THE TIED CARD OF 'parallaxlaw3.TextLower'. -/
def textLowerCard : Claim7 := { stood := { row := textLowerRow, standIns := [], harness := (true, "7958782995669c7130d7d9e53dca543b59f65321ca67a4ecbde9b3b133ae3cd6"), looks := false }, kinds := [], alts := [], laidByText := true, laidKinds := [.data, .pinned], laidTests := true, laidLooks := .later }
def TextLowerCardSaid : Prop := Claim7.holds Tryd.pinned (.plain (OpenSpec.ofChange textLowerSpec)) textLowerCard

/-- THE TIED CARD OF 'parallaxlaw3.TextLists'. -/
def textListsCard : Claim7 := { stood := { row := textListsRow, standIns := [], harness := (true, "7958782995669c7130d7d9e53dca543b59f65321ca67a4ecbde9b3b133ae3cd6"), looks := false }, kinds := [], alts := [], laidByText := true, laidKinds := [.data, .pinned], laidTests := true, laidLooks := .later }
def TextListsCardSaid : Prop := Claim7.holds Tryd.pinned (.plain (OpenSpec.ofChange textListsSpec)) textListsCard

/-- THE SECOND FORM's CARD OF 'parallaxlaw3.TextTells'. -/
def textTellsUptoCard : Claim7 := { stood := { row := textTellsUptoRow, standIns := [], harness := (true, "7958782995669c7130d7d9e53dca543b59f65321ca67a4ecbde9b3b133ae3cd6"), looks := false }, kinds := [], alts := [], laidByText := true, laidKinds := [.data, .pinned], laidTests := true, laidLooks := .later }
def TextTellsUptoCardSaid : Prop := Claim7.holds Tryd.pinned (.plain (OpenSpec.upto textTellsSpec)) textTellsUptoCard

/-- THE SECOND FORM's CARD OF 'parallaxlaw3.TextFields'. -/
def textFieldsUptoCard : Claim7 := { stood := { row := textFieldsUptoRow, standIns := [], harness := (true, "7958782995669c7130d7d9e53dca543b59f65321ca67a4ecbde9b3b133ae3cd6"), looks := false }, kinds := [], alts := [], laidByText := true, laidKinds := [.data, .pinned], laidTests := true, laidLooks := .later }
def TextFieldsUptoCardSaid : Prop := Claim7.holds Tryd.pinned (.plain (OpenSpec.upto textFieldsSpec)) textFieldsUptoCard

/-- THE SECOND FORM's CARD OF 'parallaxlaw3.TextLower'. -/
def textLowerUptoCard : Claim7 := { stood := { row := textLowerUptoRow, standIns := [], harness := (true, "7958782995669c7130d7d9e53dca543b59f65321ca67a4ecbde9b3b133ae3cd6"), looks := false }, kinds := [], alts := [], laidByText := true, laidKinds := [.data, .pinned], laidTests := true, laidLooks := .later }
def TextLowerUptoCardSaid : Prop := Claim7.holds Tryd.pinned (.plain (OpenSpec.upto textLowerSpec)) textLowerUptoCard

/-- THE SECOND FORM's CARD OF 'parallaxlaw3.TextLists'. -/
def textListsUptoCard : Claim7 := { stood := { row := textListsUptoRow, standIns := [], harness := (true, "7958782995669c7130d7d9e53dca543b59f65321ca67a4ecbde9b3b133ae3cd6"), looks := false }, kinds := [], alts := [], laidByText := true, laidKinds := [.data, .pinned], laidTests := true, laidLooks := .later }
def TextListsUptoCardSaid : Prop := Claim7.holds Tryd.pinned (.plain (OpenSpec.upto textListsSpec)) textListsUptoCard
end Rows
end Go.Proofs.YtjpgnkkfkkpheaaDoor
