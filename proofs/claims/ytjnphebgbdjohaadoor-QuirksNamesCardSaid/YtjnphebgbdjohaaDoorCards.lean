/-
  DERIVED. GIVEN WITH THE SEED: THE CARDS: each row of YtjnphebgbdjohaaDoorRows.lean that lists a variable, with what it lists TIED to the program's text (the seventh form; the later family's looks); each row that meets fmt, with fmt's text TOLD by the authors' own Lean function (tested against real Go, not proved from fmt's source: count such statements apart). THE CARD IS WHAT COUNTS. Prove the row's statement (the work); the ties are given (YtjnphebgbdjohaaDoorTie.lean); close each card by the builder's one call (the guide's Derived/Test/ToyasCard.lean, 'card_holds'). Laid BY PROGRAM, IN A SANDBOX (cutbox-door.mjs). By AI agents, Wed Nov 11 2026. No macro, syntax, notation, axiom, sorry.
-/
import Derived.Test.YtjnphebgbdjohaaDoorRows
import GoSem.ClaimSeven
namespace Go.Proofs.YtjnphebgbdjohaaDoor
namespace Rows

/-- THE TIED CARD OF 'parallaxlaw5.QuirksTell'. -/
def quirksTellCard : Claim7 := { stood := { row := quirksTellRow, standIns := [], harness := (true, "f5673e8d8de4a852055e0d151f65857bb67771ab1c11b44169d062ce7080eeaf"), looks := false }, kinds := [], alts := [], laidByText := true, laidKinds := [.listed, .data], laidTests := true, laidLooks := .later }
def QuirksTellCardSaid : Prop := Claim7.holds Tryd.pinned (.plain (OpenSpec.ofChange quirksTellSpec)) quirksTellCard

/-- THE TIED CARD OF 'parallaxlaw5.QuirksNames'. -/
def quirksNamesCard : Claim7 := { stood := { row := quirksNamesRow, standIns := [], harness := (true, "f5673e8d8de4a852055e0d151f65857bb67771ab1c11b44169d062ce7080eeaf"), looks := false }, kinds := [], alts := [], laidByText := true, laidKinds := [.listed, .data], laidTests := true, laidLooks := .later }
def QuirksNamesCardSaid : Prop := Claim7.holds Tryd.pinned (.plain (OpenSpec.ofChange quirksNamesSpec)) quirksNamesCard

/-- THE TIED CARD OF 'parallaxlaw5.QuirksSets'. -/
def quirksSetsCard : Claim7 := { stood := { row := quirksSetsRow, standIns := [], harness := (true, "f5673e8d8de4a852055e0d151f65857bb67771ab1c11b44169d062ce7080eeaf"), looks := false }, kinds := [], alts := [], laidByText := true, laidKinds := [.listed, .data], laidTests := true, laidLooks := .later }
def QuirksSetsCardSaid : Prop := Claim7.holds Tryd.pinned (.plain (OpenSpec.ofChange quirksSetsSpec)) quirksSetsCard

/-- THE TIED CARD OF 'parallaxlaw5.QuirksNeed'. -/
def quirksNeedCard : Claim7 := { stood := { row := quirksNeedRow, standIns := [], harness := (true, "f5673e8d8de4a852055e0d151f65857bb67771ab1c11b44169d062ce7080eeaf"), looks := false }, kinds := [], alts := [], laidByText := true, laidKinds := [.listed, .data], laidTests := true, laidLooks := .later }
def QuirksNeedCardSaid : Prop := Claim7.holds Tryd.pinned (.plain (OpenSpec.ofChange quirksNeedSpec)) quirksNeedCard

/-- THE SECOND FORM's CARD OF 'parallaxlaw5.QuirksTell'. -/
def quirksTellUptoCard : Claim7 := { stood := { row := quirksTellUptoRow, standIns := [], harness := (true, "f5673e8d8de4a852055e0d151f65857bb67771ab1c11b44169d062ce7080eeaf"), looks := false }, kinds := [], alts := [], laidByText := true, laidKinds := [.listed, .data], laidTests := true, laidLooks := .later }
def QuirksTellUptoCardSaid : Prop := Claim7.holds Tryd.pinned (.plain (OpenSpec.upto quirksTellSpec)) quirksTellUptoCard

/-- THE SECOND FORM's CARD OF 'parallaxlaw5.QuirksNames'. -/
def quirksNamesUptoCard : Claim7 := { stood := { row := quirksNamesUptoRow, standIns := [], harness := (true, "f5673e8d8de4a852055e0d151f65857bb67771ab1c11b44169d062ce7080eeaf"), looks := false }, kinds := [], alts := [], laidByText := true, laidKinds := [.listed, .data], laidTests := true, laidLooks := .later }
def QuirksNamesUptoCardSaid : Prop := Claim7.holds Tryd.pinned (.plain (OpenSpec.upto quirksNamesSpec)) quirksNamesUptoCard

/-- THE SECOND FORM's CARD OF 'parallaxlaw5.QuirksSets'. -/
def quirksSetsUptoCard : Claim7 := { stood := { row := quirksSetsUptoRow, standIns := [], harness := (true, "f5673e8d8de4a852055e0d151f65857bb67771ab1c11b44169d062ce7080eeaf"), looks := false }, kinds := [], alts := [], laidByText := true, laidKinds := [.listed, .data], laidTests := true, laidLooks := .later }
def QuirksSetsUptoCardSaid : Prop := Claim7.holds Tryd.pinned (.plain (OpenSpec.upto quirksSetsSpec)) quirksSetsUptoCard

/-- THE SECOND FORM's CARD OF 'parallaxlaw5.QuirksNeed'. -/
def quirksNeedUptoCard : Claim7 := { stood := { row := quirksNeedUptoRow, standIns := [], harness := (true, "f5673e8d8de4a852055e0d151f65857bb67771ab1c11b44169d062ce7080eeaf"), looks := false }, kinds := [], alts := [], laidByText := true, laidKinds := [.listed, .data], laidTests := true, laidLooks := .later }
def QuirksNeedUptoCardSaid : Prop := Claim7.holds Tryd.pinned (.plain (OpenSpec.upto quirksNeedSpec)) quirksNeedUptoCard
end Rows
end Go.Proofs.YtjnphebgbdjohaaDoor
