/-
  DERIVED. GIVEN WITH THE SEED: THE CARDS: each row of YtomofacchnmepaaDoorRows.lean that lists a variable, with what it lists TIED to the program's text (the seventh form; the later family's looks); each row that meets fmt, with fmt's text TOLD by the authors' own Lean function (tested against real Go, not proved from fmt's source: count such statements apart). THE CARD IS WHAT COUNTS. Prove the row's statement (the work); the ties are given (YtomofacchnmepaaDoorTie.lean); close each card by the builder's one call (the guide's Derived/Test/ToyasCard.lean, 'card_holds'). Laid BY PROGRAM, IN A SANDBOX (cutbox-door.mjs). By AI agents, Wed Nov 11 2026. No macro, syntax, notation, axiom, sorry.
-/
import Derived.Test.YtomofacchnmepaaDoorRows
import GoSem.ClaimSeven
namespace Go.Proofs.YtomofacchnmepaaDoor
namespace Rows

/-- THE TIED CARD OF 'parallaxlaw12.RecordTells'. -/
def recordTellsCard : Claim7 := { stood := { row := recordTellsRow, standIns := [], harness := (true, "b6f6c9380462d05db6f28a5e88b97fc6bdced38fc2b2bb486196c05fae9ccaec"), looks := false }, kinds := [], alts := [], laidByText := true, laidKinds := [.data, .pinned], laidTests := true, laidLooks := .later }
def RecordTellsCardSaid : Prop := Claim7.holds Tryd.pinned (.plain (OpenSpec.ofChange recordTellsSpec)) recordTellsCard

/-- THE TIED CARD OF 'parallaxlaw12.RecordCloses'. -/
def recordClosesCard : Claim7 := { stood := { row := recordClosesRow, standIns := [], harness := (true, "b6f6c9380462d05db6f28a5e88b97fc6bdced38fc2b2bb486196c05fae9ccaec"), looks := false }, kinds := [], alts := [], laidByText := true, laidKinds := [.data, .pinned], laidTests := true, laidLooks := .later }
def RecordClosesCardSaid : Prop := Claim7.holds Tryd.pinned (.plain (OpenSpec.ofChange recordClosesSpec)) recordClosesCard

/-- THE TIED CARD OF 'parallaxlaw12.RecordCopies'. -/
def recordCopiesCard : Claim7 := { stood := { row := recordCopiesRow, standIns := [], harness := (true, "b6f6c9380462d05db6f28a5e88b97fc6bdced38fc2b2bb486196c05fae9ccaec"), looks := false }, kinds := [], alts := [], laidByText := true, laidKinds := [.data, .pinned], laidTests := true, laidLooks := .later }
def RecordCopiesCardSaid : Prop := Claim7.holds Tryd.pinned (.plain (OpenSpec.ofChange recordCopiesSpec)) recordCopiesCard

/-- THE SECOND FORM's CARD OF 'parallaxlaw12.RecordTells'. -/
def recordTellsUptoCard : Claim7 := { stood := { row := recordTellsUptoRow, standIns := [], harness := (true, "b6f6c9380462d05db6f28a5e88b97fc6bdced38fc2b2bb486196c05fae9ccaec"), looks := false }, kinds := [], alts := [], laidByText := true, laidKinds := [.data, .pinned], laidTests := true, laidLooks := .later }
def RecordTellsUptoCardSaid : Prop := Claim7.holds Tryd.pinned (.plain (OpenSpec.upto recordTellsSpec)) recordTellsUptoCard

/-- THE SECOND FORM's CARD OF 'parallaxlaw12.RecordCloses'. -/
def recordClosesUptoCard : Claim7 := { stood := { row := recordClosesUptoRow, standIns := [], harness := (true, "b6f6c9380462d05db6f28a5e88b97fc6bdced38fc2b2bb486196c05fae9ccaec"), looks := false }, kinds := [], alts := [], laidByText := true, laidKinds := [.data, .pinned], laidTests := true, laidLooks := .later }
def RecordClosesUptoCardSaid : Prop := Claim7.holds Tryd.pinned (.plain (OpenSpec.upto recordClosesSpec)) recordClosesUptoCard

/-- THE SECOND FORM's CARD OF 'parallaxlaw12.RecordCopies'. -/
def recordCopiesUptoCard : Claim7 := { stood := { row := recordCopiesUptoRow, standIns := [], harness := (true, "b6f6c9380462d05db6f28a5e88b97fc6bdced38fc2b2bb486196c05fae9ccaec"), looks := false }, kinds := [], alts := [], laidByText := true, laidKinds := [.data, .pinned], laidTests := true, laidLooks := .later }
def RecordCopiesUptoCardSaid : Prop := Claim7.holds Tryd.pinned (.plain (OpenSpec.upto recordCopiesSpec)) recordCopiesUptoCard
end Rows
end Go.Proofs.YtomofacchnmepaaDoor
