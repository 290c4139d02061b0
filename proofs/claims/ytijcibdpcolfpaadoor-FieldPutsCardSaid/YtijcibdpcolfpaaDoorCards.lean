/-
  DERIVED. GIVEN WITH THE SEED: THE CARDS: each row of YtijcibdpcolfpaaDoorRows.lean that lists a variable, with what it lists TIED to the program's text (the seventh form; the later family's looks); each row that meets fmt, with fmt's text TOLD by the authors' own Lean function (tested against real Go, not proved from fmt's source: count such statements apart). THE CARD IS WHAT COUNTS. Prove the row's statement (the work); the ties are given (YtijcibdpcolfpaaDoorTie.lean); close each card by the builder's one call (the guide's Derived/Test/ToyasCard.lean, 'card_holds'). Laid BY PROGRAM, IN A SANDBOX (cutbox-door.mjs). By AI agents, Wed Nov 11 2026. No macro, syntax, notation, axiom, sorry.
-/
import Derived.Test.YtijcibdpcolfpaaDoorRows
import GoSem.ClaimSeven
namespace Go.Proofs.YtijcibdpcolfpaaDoor
namespace Rows

/-- THE TIED CARD OF 'parallaxlaw9.FieldTells'. -/
def fieldTellsCard : Claim7 := { stood := { row := fieldTellsRow, standIns := [], harness := (true, "c97920813f4f6a538a6333b359eb0a57e880afbb50f7c1ea0e72a3313363a81b"), looks := false }, kinds := [], alts := [], laidByText := true, laidKinds := [.data, .pinned], laidTests := true, laidLooks := .later }
def FieldTellsCardSaid : Prop := Claim7.holds Tryd.pinned (.plain (OpenSpec.ofChange fieldTellsSpec)) fieldTellsCard

/-- THE TIED CARD OF 'parallaxlaw9.FieldExtends'. -/
def fieldExtendsCard : Claim7 := { stood := { row := fieldExtendsRow, standIns := [], harness := (true, "c97920813f4f6a538a6333b359eb0a57e880afbb50f7c1ea0e72a3313363a81b"), looks := false }, kinds := [], alts := [], laidByText := true, laidKinds := [.data, .pinned], laidTests := true, laidLooks := .later }
def FieldExtendsCardSaid : Prop := Claim7.holds Tryd.pinned (.plain (OpenSpec.ofChange fieldExtendsSpec)) fieldExtendsCard

/-- THE TIED CARD OF 'parallaxlaw9.FieldClauses'. -/
def fieldClausesCard : Claim7 := { stood := { row := fieldClausesRow, standIns := [], harness := (true, "c97920813f4f6a538a6333b359eb0a57e880afbb50f7c1ea0e72a3313363a81b"), looks := false }, kinds := [], alts := [], laidByText := true, laidKinds := [.data, .pinned], laidTests := true, laidLooks := .later }
def FieldClausesCardSaid : Prop := Claim7.holds Tryd.pinned (.plain (OpenSpec.ofChange fieldClausesSpec)) fieldClausesCard

/-- THE TIED CARD OF 'parallaxlaw9.FieldPuts'. -/
def fieldPutsCard : Claim7 := { stood := { row := fieldPutsRow, standIns := [], harness := (true, "c97920813f4f6a538a6333b359eb0a57e880afbb50f7c1ea0e72a3313363a81b"), looks := false }, kinds := [], alts := [], laidByText := true, laidKinds := [.data, .pinned], laidTests := true, laidLooks := .later }
def FieldPutsCardSaid : Prop := Claim7.holds Tryd.pinned (.plain (OpenSpec.ofChange fieldPutsSpec)) fieldPutsCard

/-- THE SECOND FORM's CARD OF 'parallaxlaw9.FieldTells'. -/
def fieldTellsUptoCard : Claim7 := { stood := { row := fieldTellsUptoRow, standIns := [], harness := (true, "c97920813f4f6a538a6333b359eb0a57e880afbb50f7c1ea0e72a3313363a81b"), looks := false }, kinds := [], alts := [], laidByText := true, laidKinds := [.data, .pinned], laidTests := true, laidLooks := .later }
def FieldTellsUptoCardSaid : Prop := Claim7.holds Tryd.pinned (.plain (OpenSpec.upto fieldTellsSpec)) fieldTellsUptoCard

/-- THE SECOND FORM's CARD OF 'parallaxlaw9.FieldExtends'. -/
def fieldExtendsUptoCard : Claim7 := { stood := { row := fieldExtendsUptoRow, standIns := [], harness := (true, "c97920813f4f6a538a6333b359eb0a57e880afbb50f7c1ea0e72a3313363a81b"), looks := false }, kinds := [], alts := [], laidByText := true, laidKinds := [.data, .pinned], laidTests := true, laidLooks := .later }
def FieldExtendsUptoCardSaid : Prop := Claim7.holds Tryd.pinned (.plain (OpenSpec.upto fieldExtendsSpec)) fieldExtendsUptoCard

/-- THE SECOND FORM's CARD OF 'parallaxlaw9.FieldClauses'. -/
def fieldClausesUptoCard : Claim7 := { stood := { row := fieldClausesUptoRow, standIns := [], harness := (true, "c97920813f4f6a538a6333b359eb0a57e880afbb50f7c1ea0e72a3313363a81b"), looks := false }, kinds := [], alts := [], laidByText := true, laidKinds := [.data, .pinned], laidTests := true, laidLooks := .later }
def FieldClausesUptoCardSaid : Prop := Claim7.holds Tryd.pinned (.plain (OpenSpec.upto fieldClausesSpec)) fieldClausesUptoCard

/-- THE SECOND FORM's CARD OF 'parallaxlaw9.FieldPuts'. -/
def fieldPutsUptoCard : Claim7 := { stood := { row := fieldPutsUptoRow, standIns := [], harness := (true, "c97920813f4f6a538a6333b359eb0a57e880afbb50f7c1ea0e72a3313363a81b"), looks := false }, kinds := [], alts := [], laidByText := true, laidKinds := [.data, .pinned], laidTests := true, laidLooks := .later }
def FieldPutsUptoCardSaid : Prop := Claim7.holds Tryd.pinned (.plain (OpenSpec.upto fieldPutsSpec)) fieldPutsUptoCard
end Rows
end Go.Proofs.YtijcibdpcolfpaaDoor
