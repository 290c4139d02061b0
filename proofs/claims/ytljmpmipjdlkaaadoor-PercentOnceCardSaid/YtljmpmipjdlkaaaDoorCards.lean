/-
  DERIVED. GIVEN WITH THE SEED: THE CARDS: each row of YtljmpmipjdlkaaaDoorRows.lean that lists a variable, with what it lists TIED to the program's text (the seventh form; the later family's looks); each row that meets fmt, with fmt's text TOLD by the authors' own Lean function (tested against real Go, not proved from fmt's source: count such statements apart). THE CARD IS WHAT COUNTS. Prove the row's statement (the work); the ties are given (YtljmpmipjdlkaaaDoorTie.lean); close each card by the builder's one call (the guide's Derived/Test/ToyasCard.lean, 'card_holds'). Laid BY PROGRAM, IN A SANDBOX (cutbox-door.mjs). By AI agents, Wed Nov 11 2026. No macro, syntax, notation, axiom, sorry.
-/
import Derived.Test.YtljmpmipjdlkaaaDoorRows
import GoSem.ClaimSeven
namespace Go.Proofs.YtljmpmipjdlkaaaDoor
namespace Rows

/-- THE TIED CARD OF 'parallaxlaw19.PercentTells'. -/
def percentTellsCard : Claim7 := { stood := { row := percentTellsRow, standIns := [], harness := (true, "a277ef2e335f224df5b9848993cb84d60e2990de4dae1b2f1d1d1368f4b5fada"), looks := false }, kinds := [], alts := [], laidByText := true, laidKinds := [.data, .pinned], laidTests := true, laidLooks := .later }
def PercentTellsCardSaid : Prop := Claim7.holds Tryd.pinned (.plain (OpenSpec.ofChange percentTellsSpec)) percentTellsCard

/-- THE TIED CARD OF 'parallaxlaw19.PercentOnce'. -/
def percentOnceCard : Claim7 := { stood := { row := percentOnceRow, standIns := [], harness := (true, "a277ef2e335f224df5b9848993cb84d60e2990de4dae1b2f1d1d1368f4b5fada"), looks := false }, kinds := [], alts := [], laidByText := true, laidKinds := [.data, .pinned], laidTests := true, laidLooks := .later }
def PercentOnceCardSaid : Prop := Claim7.holds Tryd.pinned (.plain (OpenSpec.ofChange percentOnceSpec)) percentOnceCard

/-- THE TIED CARD OF 'parallaxlaw19.PercentSigns'. -/
def percentSignsCard : Claim7 := { stood := { row := percentSignsRow, standIns := [], harness := (true, "a277ef2e335f224df5b9848993cb84d60e2990de4dae1b2f1d1d1368f4b5fada"), looks := false }, kinds := [], alts := [], laidByText := true, laidKinds := [.data, .pinned], laidTests := true, laidLooks := .later }
def PercentSignsCardSaid : Prop := Claim7.holds Tryd.pinned (.plain (OpenSpec.ofChange percentSignsSpec)) percentSignsCard

/-- THE TIED CARD OF 'parallaxlaw19.PercentUps'. -/
def percentUpsCard : Claim7 := { stood := { row := percentUpsRow, standIns := [], harness := (true, "a277ef2e335f224df5b9848993cb84d60e2990de4dae1b2f1d1d1368f4b5fada"), looks := false }, kinds := [], alts := [], laidByText := true, laidKinds := [.data, .pinned], laidTests := true, laidLooks := .later }
def PercentUpsCardSaid : Prop := Claim7.holds Tryd.pinned (.plain (OpenSpec.ofChange percentUpsSpec)) percentUpsCard

/-- THE SECOND FORM's CARD OF 'parallaxlaw19.PercentTells'. -/
def percentTellsUptoCard : Claim7 := { stood := { row := percentTellsUptoRow, standIns := [], harness := (true, "a277ef2e335f224df5b9848993cb84d60e2990de4dae1b2f1d1d1368f4b5fada"), looks := false }, kinds := [], alts := [], laidByText := true, laidKinds := [.data, .pinned], laidTests := true, laidLooks := .later }
def PercentTellsUptoCardSaid : Prop := Claim7.holds Tryd.pinned (.plain (OpenSpec.upto percentTellsSpec)) percentTellsUptoCard

/-- THE SECOND FORM's CARD OF 'parallaxlaw19.PercentOnce'. -/
def percentOnceUptoCard : Claim7 := { stood := { row := percentOnceUptoRow, standIns := [], harness := (true, "a277ef2e335f224df5b9848993cb84d60e2990de4dae1b2f1d1d1368f4b5fada"), looks := false }, kinds := [], alts := [], laidByText := true, laidKinds := [.data, .pinned], laidTests := true, laidLooks := .later }
def PercentOnceUptoCardSaid : Prop := Claim7.holds Tryd.pinned (.plain (OpenSpec.upto percentOnceSpec)) percentOnceUptoCard

/-- THE SECOND FORM's CARD OF 'parallaxlaw19.PercentSigns'. -/
def percentSignsUptoCard : Claim7 := { stood := { row := percentSignsUptoRow, standIns := [], harness := (true, "a277ef2e335f224df5b9848993cb84d60e2990de4dae1b2f1d1d1368f4b5fada"), looks := false }, kinds := [], alts := [], laidByText := true, laidKinds := [.data, .pinned], laidTests := true, laidLooks := .later }
def PercentSignsUptoCardSaid : Prop := Claim7.holds Tryd.pinned (.plain (OpenSpec.upto percentSignsSpec)) percentSignsUptoCard

/-- THE SECOND FORM's CARD OF 'parallaxlaw19.PercentUps'. -/
def percentUpsUptoCard : Claim7 := { stood := { row := percentUpsUptoRow, standIns := [], harness := (true, "a277ef2e335f224df5b9848993cb84d60e2990de4dae1b2f1d1d1368f4b5fada"), looks := false }, kinds := [], alts := [], laidByText := true, laidKinds := [.data, .pinned], laidTests := true, laidLooks := .later }
def PercentUpsUptoCardSaid : Prop := Claim7.holds Tryd.pinned (.plain (OpenSpec.upto percentUpsSpec)) percentUpsUptoCard
end Rows
end Go.Proofs.YtljmpmipjdlkaaaDoor
