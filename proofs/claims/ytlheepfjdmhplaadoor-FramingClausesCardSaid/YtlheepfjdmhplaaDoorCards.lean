/-
  DERIVED. GIVEN WITH THE SEED: THE CARDS: each row of YtlheepfjdmhplaaDoorRows.lean that lists a variable, with what it lists TIED to the program's text (the seventh form; the later family's looks); each row that meets fmt, with fmt's text TOLD by the authors' own Lean function (tested against real Go, not proved from fmt's source: count such statements apart). THE CARD IS WHAT COUNTS. Prove the row's statement (the work); the ties are given (YtlheepfjdmhplaaDoorTie.lean); close each card by the builder's one call (the guide's Derived/Test/ToyasCard.lean, 'card_holds'). Laid BY PROGRAM, IN A SANDBOX (cutbox-door.mjs). By AI agents, Wed Nov 11 2026. No macro, syntax, notation, axiom, sorry.
-/
import Derived.Test.YtlheepfjdmhplaaDoorRows
import GoSem.ClaimSeven
namespace Go.Proofs.YtlheepfjdmhplaaDoor
namespace Rows

/-- THE TIED CARD OF 'parallaxlaw10.FramingTells'. -/
def framingTellsCard : Claim7 := { stood := { row := framingTellsRow, standIns := [], harness := (true, "aaf241f3281a552d4be01a82d487c1e6b6583547a6111422e85f499d4a79cd3e"), looks := false }, kinds := [], alts := [], laidByText := true, laidKinds := [.data, .pinned], laidTests := true, laidLooks := .later }
def FramingTellsCardSaid : Prop := Claim7.holds Tryd.pinned (.plain (OpenSpec.ofChange framingTellsSpec)) framingTellsCard

/-- THE TIED CARD OF 'parallaxlaw10.FramingParts'. -/
def framingPartsCard : Claim7 := { stood := { row := framingPartsRow, standIns := [], harness := (true, "aaf241f3281a552d4be01a82d487c1e6b6583547a6111422e85f499d4a79cd3e"), looks := false }, kinds := [], alts := [], laidByText := true, laidKinds := [.data, .pinned], laidTests := true, laidLooks := .later }
def FramingPartsCardSaid : Prop := Claim7.holds Tryd.pinned (.plain (OpenSpec.ofChange framingPartsSpec)) framingPartsCard

/-- THE TIED CARD OF 'parallaxlaw10.FramingClauses'. -/
def framingClausesCard : Claim7 := { stood := { row := framingClausesRow, standIns := [], harness := (true, "aaf241f3281a552d4be01a82d487c1e6b6583547a6111422e85f499d4a79cd3e"), looks := false }, kinds := [], alts := [], laidByText := true, laidKinds := [.data, .pinned], laidTests := true, laidLooks := .later }
def FramingClausesCardSaid : Prop := Claim7.holds Tryd.pinned (.plain (OpenSpec.ofChange framingClausesSpec)) framingClausesCard

/-- THE TIED CARD OF 'parallaxlaw10.FramingBoth'. -/
def framingBothCard : Claim7 := { stood := { row := framingBothRow, standIns := [], harness := (true, "aaf241f3281a552d4be01a82d487c1e6b6583547a6111422e85f499d4a79cd3e"), looks := false }, kinds := [], alts := [], laidByText := true, laidKinds := [.data, .pinned], laidTests := true, laidLooks := .later }
def FramingBothCardSaid : Prop := Claim7.holds Tryd.pinned (.plain (OpenSpec.ofChange framingBothSpec)) framingBothCard

/-- THE TIED CARD OF 'parallaxlaw10.FramingLengths'. -/
def framingLengthsCard : Claim7 := { stood := { row := framingLengthsRow, standIns := [], harness := (true, "aaf241f3281a552d4be01a82d487c1e6b6583547a6111422e85f499d4a79cd3e"), looks := false }, kinds := [], alts := [], laidByText := true, laidKinds := [.data, .pinned], laidTests := true, laidLooks := .later }
def FramingLengthsCardSaid : Prop := Claim7.holds Tryd.pinned (.plain (OpenSpec.ofChange framingLengthsSpec)) framingLengthsCard

/-- THE SECOND FORM's CARD OF 'parallaxlaw10.FramingTells'. -/
def framingTellsUptoCard : Claim7 := { stood := { row := framingTellsUptoRow, standIns := [], harness := (true, "aaf241f3281a552d4be01a82d487c1e6b6583547a6111422e85f499d4a79cd3e"), looks := false }, kinds := [], alts := [], laidByText := true, laidKinds := [.data, .pinned], laidTests := true, laidLooks := .later }
def FramingTellsUptoCardSaid : Prop := Claim7.holds Tryd.pinned (.plain (OpenSpec.upto framingTellsSpec)) framingTellsUptoCard

/-- THE SECOND FORM's CARD OF 'parallaxlaw10.FramingParts'. -/
def framingPartsUptoCard : Claim7 := { stood := { row := framingPartsUptoRow, standIns := [], harness := (true, "aaf241f3281a552d4be01a82d487c1e6b6583547a6111422e85f499d4a79cd3e"), looks := false }, kinds := [], alts := [], laidByText := true, laidKinds := [.data, .pinned], laidTests := true, laidLooks := .later }
def FramingPartsUptoCardSaid : Prop := Claim7.holds Tryd.pinned (.plain (OpenSpec.upto framingPartsSpec)) framingPartsUptoCard

/-- THE SECOND FORM's CARD OF 'parallaxlaw10.FramingClauses'. -/
def framingClausesUptoCard : Claim7 := { stood := { row := framingClausesUptoRow, standIns := [], harness := (true, "aaf241f3281a552d4be01a82d487c1e6b6583547a6111422e85f499d4a79cd3e"), looks := false }, kinds := [], alts := [], laidByText := true, laidKinds := [.data, .pinned], laidTests := true, laidLooks := .later }
def FramingClausesUptoCardSaid : Prop := Claim7.holds Tryd.pinned (.plain (OpenSpec.upto framingClausesSpec)) framingClausesUptoCard

/-- THE SECOND FORM's CARD OF 'parallaxlaw10.FramingBoth'. -/
def framingBothUptoCard : Claim7 := { stood := { row := framingBothUptoRow, standIns := [], harness := (true, "aaf241f3281a552d4be01a82d487c1e6b6583547a6111422e85f499d4a79cd3e"), looks := false }, kinds := [], alts := [], laidByText := true, laidKinds := [.data, .pinned], laidTests := true, laidLooks := .later }
def FramingBothUptoCardSaid : Prop := Claim7.holds Tryd.pinned (.plain (OpenSpec.upto framingBothSpec)) framingBothUptoCard

/-- THE SECOND FORM's CARD OF 'parallaxlaw10.FramingLengths'. -/
def framingLengthsUptoCard : Claim7 := { stood := { row := framingLengthsUptoRow, standIns := [], harness := (true, "aaf241f3281a552d4be01a82d487c1e6b6583547a6111422e85f499d4a79cd3e"), looks := false }, kinds := [], alts := [], laidByText := true, laidKinds := [.data, .pinned], laidTests := true, laidLooks := .later }
def FramingLengthsUptoCardSaid : Prop := Claim7.holds Tryd.pinned (.plain (OpenSpec.upto framingLengthsSpec)) framingLengthsUptoCard
end Rows
end Go.Proofs.YtlheepfjdmhplaaDoor
