/-
  DERIVED. GIVEN WITH THE SEED: THE CARDS: each row of YtclaaacdmaeblaaDoorRows.lean that lists a variable, with what it lists TIED to the program's text (the seventh form; the later family's looks); each row that meets fmt, with fmt's text TOLD by the authors' own Lean function (tested against real Go, not proved from fmt's source: count such statements apart). THE CARD IS WHAT COUNTS. Prove the row's statement (the work); the ties are given (YtclaaacdmaeblaaDoorTie.lean); close each card by the builder's one call (the guide's Derived/Test/ToyasCard.lean, 'card_holds'). Laid BY PROGRAM, IN A SANDBOX (cutbox-door.mjs). By AI agents, Wed Nov 11 2026. No macro, syntax, notation, axiom, sorry.
-/
import Derived.Test.YtclaaacdmaeblaaDoorRows
import GoSem.ClaimSeven
namespace Go.Proofs.YtclaaacdmaeblaaDoor
namespace Rows

/-- THE TIED CARD OF 'parallaxlaw8.RequestTells'. -/
def requestTellsCard : Claim7 := { stood := { row := requestTellsRow, standIns := [], harness := (true, "2c2ce1afcc936d45c8daa5d8c3d01fce97b1cf40a73a0ffa610b181d9f3a48c6"), looks := false }, kinds := [], alts := [], laidByText := true, laidKinds := [.data, .pinned], laidTests := true, laidLooks := .later }
def RequestTellsCardSaid : Prop := Claim7.holds Tryd.pinned (.plain (OpenSpec.ofChange requestTellsSpec)) requestTellsCard

/-- THE TIED CARD OF 'parallaxlaw8.RequestExtends'. -/
def requestExtendsCard : Claim7 := { stood := { row := requestExtendsRow, standIns := [], harness := (true, "2c2ce1afcc936d45c8daa5d8c3d01fce97b1cf40a73a0ffa610b181d9f3a48c6"), looks := false }, kinds := [], alts := [], laidByText := true, laidKinds := [.data, .pinned], laidTests := true, laidLooks := .later }
def RequestExtendsCardSaid : Prop := Claim7.holds Tryd.pinned (.plain (OpenSpec.ofChange requestExtendsSpec)) requestExtendsCard

/-- THE TIED CARD OF 'parallaxlaw8.RequestClauses'. -/
def requestClausesCard : Claim7 := { stood := { row := requestClausesRow, standIns := [], harness := (true, "2c2ce1afcc936d45c8daa5d8c3d01fce97b1cf40a73a0ffa610b181d9f3a48c6"), looks := false }, kinds := [], alts := [], laidByText := true, laidKinds := [.data, .pinned], laidTests := true, laidLooks := .later }
def RequestClausesCardSaid : Prop := Claim7.holds Tryd.pinned (.plain (OpenSpec.ofChange requestClausesSpec)) requestClausesCard

/-- THE TIED CARD OF 'parallaxlaw8.RequestMethods'. -/
def requestMethodsCard : Claim7 := { stood := { row := requestMethodsRow, standIns := [], harness := (true, "2c2ce1afcc936d45c8daa5d8c3d01fce97b1cf40a73a0ffa610b181d9f3a48c6"), looks := false }, kinds := [], alts := [], laidByText := true, laidKinds := [.data, .pinned], laidTests := true, laidLooks := .later }
def RequestMethodsCardSaid : Prop := Claim7.holds Tryd.pinned (.plain (OpenSpec.ofChange requestMethodsSpec)) requestMethodsCard

/-- THE SECOND FORM's CARD OF 'parallaxlaw8.RequestTells'. -/
def requestTellsUptoCard : Claim7 := { stood := { row := requestTellsUptoRow, standIns := [], harness := (true, "2c2ce1afcc936d45c8daa5d8c3d01fce97b1cf40a73a0ffa610b181d9f3a48c6"), looks := false }, kinds := [], alts := [], laidByText := true, laidKinds := [.data, .pinned], laidTests := true, laidLooks := .later }
def RequestTellsUptoCardSaid : Prop := Claim7.holds Tryd.pinned (.plain (OpenSpec.upto requestTellsSpec)) requestTellsUptoCard

/-- THE SECOND FORM's CARD OF 'parallaxlaw8.RequestExtends'. -/
def requestExtendsUptoCard : Claim7 := { stood := { row := requestExtendsUptoRow, standIns := [], harness := (true, "2c2ce1afcc936d45c8daa5d8c3d01fce97b1cf40a73a0ffa610b181d9f3a48c6"), looks := false }, kinds := [], alts := [], laidByText := true, laidKinds := [.data, .pinned], laidTests := true, laidLooks := .later }
def RequestExtendsUptoCardSaid : Prop := Claim7.holds Tryd.pinned (.plain (OpenSpec.upto requestExtendsSpec)) requestExtendsUptoCard

/-- THE SECOND FORM's CARD OF 'parallaxlaw8.RequestClauses'. -/
def requestClausesUptoCard : Claim7 := { stood := { row := requestClausesUptoRow, standIns := [], harness := (true, "2c2ce1afcc936d45c8daa5d8c3d01fce97b1cf40a73a0ffa610b181d9f3a48c6"), looks := false }, kinds := [], alts := [], laidByText := true, laidKinds := [.data, .pinned], laidTests := true, laidLooks := .later }
def RequestClausesUptoCardSaid : Prop := Claim7.holds Tryd.pinned (.plain (OpenSpec.upto requestClausesSpec)) requestClausesUptoCard

/-- THE SECOND FORM's CARD OF 'parallaxlaw8.RequestMethods'. -/
def requestMethodsUptoCard : Claim7 := { stood := { row := requestMethodsUptoRow, standIns := [], harness := (true, "2c2ce1afcc936d45c8daa5d8c3d01fce97b1cf40a73a0ffa610b181d9f3a48c6"), looks := false }, kinds := [], alts := [], laidByText := true, laidKinds := [.data, .pinned], laidTests := true, laidLooks := .later }
def RequestMethodsUptoCardSaid : Prop := Claim7.holds Tryd.pinned (.plain (OpenSpec.upto requestMethodsSpec)) requestMethodsUptoCard
end Rows
end Go.Proofs.YtclaaacdmaeblaaDoor
