/-
  DERIVED. GIVEN WITH THE SEED: THE CARDS: each row of YtnckmjdonbnpoaaDoorRows.lean that lists a variable, with what it lists TIED to the program's text (the seventh form; the later family's looks); each row that meets fmt, with fmt's text TOLD by the authors' own Lean function (tested against real Go, not proved from fmt's source: count such statements apart). THE CARD IS WHAT COUNTS. Prove the row's statement (the work); the ties are given (YtnckmjdonbnpoaaDoorTie.lean); close each card by the builder's one call (the guide's Derived/Test/ToyasCard.lean, 'card_holds'). Laid BY PROGRAM, IN A SANDBOX (cutbox-door.mjs). By AI agents, Wed Nov 11 2026. No macro, syntax, notation, axiom, sorry.
-/
import Derived.Test.YtnckmjdonbnpoaaDoorRows
import GoSem.ClaimSeven
namespace Go.Proofs.YtnckmjdonbnpoaaDoor
namespace Rows

/-- THE TIED CARD OF 'parallaxlaw2.NumberTells'. -/
def numberTellsCard : Claim7 := { stood := { row := numberTellsRow, standIns := [], harness := (true, "8519ae9e80fcc25ce4d2673d5f1d282eaf99ba1a86b3b4ed3d23e7860db14bf4"), looks := false }, kinds := [], alts := [], laidByText := true, laidKinds := [.data, .data, .data], laidTests := true, laidLooks := .later }
def NumberTellsCardSaid : Prop := Claim7.holds Tryd.pinned (.plain (OpenSpec.ofChange numberTellsSpec)) numberTellsCard

/-- THE TIED CARD OF 'parallaxlaw2.NumberBack'. -/
def numberBackCard : Claim7 := { stood := { row := numberBackRow, standIns := [], harness := (true, "8519ae9e80fcc25ce4d2673d5f1d282eaf99ba1a86b3b4ed3d23e7860db14bf4"), looks := false }, kinds := [], alts := [], laidByText := true, laidKinds := [.data, .data, .data], laidTests := true, laidLooks := .later }
def NumberBackCardSaid : Prop := Claim7.holds Tryd.pinned (.plain (OpenSpec.ofChange numberBackSpec)) numberBackCard

/-- THE TIED CARD OF 'parallaxlaw2.NumberNoughts'. -/
def numberNoughtsCard : Claim7 := { stood := { row := numberNoughtsRow, standIns := [], harness := (true, "8519ae9e80fcc25ce4d2673d5f1d282eaf99ba1a86b3b4ed3d23e7860db14bf4"), looks := false }, kinds := [], alts := [], laidByText := true, laidKinds := [.data, .data, .data], laidTests := true, laidLooks := .later }
def NumberNoughtsCardSaid : Prop := Claim7.holds Tryd.pinned (.plain (OpenSpec.ofChange numberNoughtsSpec)) numberNoughtsCard

/-- THE TIED CARD OF 'parallaxlaw2.NumberOrder'. -/
def numberOrderCard : Claim7 := { stood := { row := numberOrderRow, standIns := [], harness := (true, "8519ae9e80fcc25ce4d2673d5f1d282eaf99ba1a86b3b4ed3d23e7860db14bf4"), looks := false }, kinds := [], alts := [], laidByText := true, laidKinds := [.data, .data, .data], laidTests := true, laidLooks := .later }
def NumberOrderCardSaid : Prop := Claim7.holds Tryd.pinned (.plain (OpenSpec.ofChange numberOrderSpec)) numberOrderCard

/-- THE SECOND FORM's CARD OF 'parallaxlaw2.NumberTells'. -/
def numberTellsUptoCard : Claim7 := { stood := { row := numberTellsUptoRow, standIns := [], harness := (true, "8519ae9e80fcc25ce4d2673d5f1d282eaf99ba1a86b3b4ed3d23e7860db14bf4"), looks := false }, kinds := [], alts := [], laidByText := true, laidKinds := [.data, .data, .data], laidTests := true, laidLooks := .later }
def NumberTellsUptoCardSaid : Prop := Claim7.holds Tryd.pinned (.plain (OpenSpec.upto numberTellsSpec)) numberTellsUptoCard

/-- THE SECOND FORM's CARD OF 'parallaxlaw2.NumberBack'. -/
def numberBackUptoCard : Claim7 := { stood := { row := numberBackUptoRow, standIns := [], harness := (true, "8519ae9e80fcc25ce4d2673d5f1d282eaf99ba1a86b3b4ed3d23e7860db14bf4"), looks := false }, kinds := [], alts := [], laidByText := true, laidKinds := [.data, .data, .data], laidTests := true, laidLooks := .later }
def NumberBackUptoCardSaid : Prop := Claim7.holds Tryd.pinned (.plain (OpenSpec.upto numberBackSpec)) numberBackUptoCard

/-- THE SECOND FORM's CARD OF 'parallaxlaw2.NumberNoughts'. -/
def numberNoughtsUptoCard : Claim7 := { stood := { row := numberNoughtsUptoRow, standIns := [], harness := (true, "8519ae9e80fcc25ce4d2673d5f1d282eaf99ba1a86b3b4ed3d23e7860db14bf4"), looks := false }, kinds := [], alts := [], laidByText := true, laidKinds := [.data, .data, .data], laidTests := true, laidLooks := .later }
def NumberNoughtsUptoCardSaid : Prop := Claim7.holds Tryd.pinned (.plain (OpenSpec.upto numberNoughtsSpec)) numberNoughtsUptoCard

/-- THE SECOND FORM's CARD OF 'parallaxlaw2.NumberOrder'. -/
def numberOrderUptoCard : Claim7 := { stood := { row := numberOrderUptoRow, standIns := [], harness := (true, "8519ae9e80fcc25ce4d2673d5f1d282eaf99ba1a86b3b4ed3d23e7860db14bf4"), looks := false }, kinds := [], alts := [], laidByText := true, laidKinds := [.data, .data, .data], laidTests := true, laidLooks := .later }
def NumberOrderUptoCardSaid : Prop := Claim7.holds Tryd.pinned (.plain (OpenSpec.upto numberOrderSpec)) numberOrderUptoCard
end Rows
end Go.Proofs.YtnckmjdonbnpoaaDoor
