/-
  DERIVED. GIVEN WITH THE SEED: THE CARDS: each row of YtpdkflpkcabhpaaDoorRows.lean that lists a variable, with what it lists TIED to the program's text (the seventh form; the later family's looks); each row that meets fmt, with fmt's text TOLD by the authors' own Lean function (tested against real Go, not proved from fmt's source: count such statements apart). THE CARD IS WHAT COUNTS. Prove the row's statement (the work); the ties are given (YtpdkflpkcabhpaaDoorTie.lean); close each card by the builder's one call (the guide's Derived/Test/ToyasCard.lean, 'card_holds'). Laid BY PROGRAM, IN A SANDBOX (cutbox-door.mjs). By AI agents, Wed Nov 11 2026. No macro, syntax, notation, axiom, sorry.
-/
import Derived.Test.YtpdkflpkcabhpaaDoorRows
import GoSem.ClaimSeven
namespace Go.Proofs.YtpdkflpkcabhpaaDoor
namespace Rows

/-- THE TIED CARD OF 'parallaxlaw22.Base64Tells'. -/
def base64TellsCard : Claim7 := { stood := { row := base64TellsRow, standIns := [], harness := (true, "1cf2e2d3d660108b2c3a81af2cda4dd978abc33f3bbbb52c2c021c2b5b18bcc4"), looks := false }, kinds := [], alts := [], laidByText := true, laidKinds := [.data, .pinned], laidTests := true, laidLooks := .later }
def Base64TellsCardSaid : Prop := Claim7.holds Tryd.pinned (.plain (OpenSpec.ofChange base64TellsSpec)) base64TellsCard

/-- THE TIED CARD OF 'parallaxlaw22.Base64Joins'. -/
def base64JoinsCard : Claim7 := { stood := { row := base64JoinsRow, standIns := [], harness := (true, "1cf2e2d3d660108b2c3a81af2cda4dd978abc33f3bbbb52c2c021c2b5b18bcc4"), looks := false }, kinds := [], alts := [], laidByText := true, laidKinds := [.data, .pinned], laidTests := true, laidLooks := .later }
def Base64JoinsCardSaid : Prop := Claim7.holds Tryd.pinned (.plain (OpenSpec.ofChange base64JoinsSpec)) base64JoinsCard

/-- THE SECOND FORM's CARD OF 'parallaxlaw22.Base64Tells'. -/
def base64TellsUptoCard : Claim7 := { stood := { row := base64TellsUptoRow, standIns := [], harness := (true, "1cf2e2d3d660108b2c3a81af2cda4dd978abc33f3bbbb52c2c021c2b5b18bcc4"), looks := false }, kinds := [], alts := [], laidByText := true, laidKinds := [.data, .pinned], laidTests := true, laidLooks := .later }
def Base64TellsUptoCardSaid : Prop := Claim7.holds Tryd.pinned (.plain (OpenSpec.upto base64TellsSpec)) base64TellsUptoCard

/-- THE SECOND FORM's CARD OF 'parallaxlaw22.Base64Joins'. -/
def base64JoinsUptoCard : Claim7 := { stood := { row := base64JoinsUptoRow, standIns := [], harness := (true, "1cf2e2d3d660108b2c3a81af2cda4dd978abc33f3bbbb52c2c021c2b5b18bcc4"), looks := false }, kinds := [], alts := [], laidByText := true, laidKinds := [.data, .pinned], laidTests := true, laidLooks := .later }
def Base64JoinsUptoCardSaid : Prop := Claim7.holds Tryd.pinned (.plain (OpenSpec.upto base64JoinsSpec)) base64JoinsUptoCard
end Rows
end Go.Proofs.YtpdkflpkcabhpaaDoor
