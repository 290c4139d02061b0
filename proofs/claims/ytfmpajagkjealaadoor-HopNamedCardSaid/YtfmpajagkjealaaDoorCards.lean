/-
  DERIVED. GIVEN WITH THE SEED: THE CARDS: each row of YtfmpajagkjealaaDoorRows.lean that lists a variable, with what it lists TIED to the program's text (the seventh form; the later family's looks); each row that meets fmt, with fmt's text TOLD by the authors' own Lean function (tested against real Go, not proved from fmt's source: count such statements apart). THE CARD IS WHAT COUNTS. Prove the row's statement (the work); the ties are given (YtfmpajagkjealaaDoorTie.lean); close each card by the builder's one call (the guide's Derived/Test/ToyasCard.lean, 'card_holds'). Laid BY PROGRAM, IN A SANDBOX (cutbox-door.mjs). By AI agents, Wed Nov 11 2026. No macro, syntax, notation, axiom, sorry.
-/
import Derived.Test.YtfmpajagkjealaaDoorRows
import GoSem.ClaimSeven
namespace Go.Proofs.YtfmpajagkjealaaDoor
namespace Rows

/-- THE TIED CARD OF 'parallaxlaw18.HopTells'. -/
def hopTellsCard : Claim7 := { stood := { row := hopTellsRow, standIns := [], harness := (true, "8a0f7d31770fbbd0154dd32498323ec351cfe29f2358135e24cdfc3826a75dfc"), looks := false }, kinds := [], alts := [], laidByText := true, laidKinds := [.data, .listed, .data, .pinned], laidTests := true, laidLooks := .later }
def HopTellsCardSaid : Prop := Claim7.holds Tryd.pinned (.plain (OpenSpec.ofChange hopTellsSpec)) hopTellsCard

/-- THE TIED CARD OF 'parallaxlaw18.HopNamed'. -/
def hopNamedCard : Claim7 := { stood := { row := hopNamedRow, standIns := [], harness := (true, "8a0f7d31770fbbd0154dd32498323ec351cfe29f2358135e24cdfc3826a75dfc"), looks := false }, kinds := [], alts := [], laidByText := true, laidKinds := [.data, .listed, .data, .pinned], laidTests := true, laidLooks := .later }
def HopNamedCardSaid : Prop := Claim7.holds Tryd.pinned (.plain (OpenSpec.ofChange hopNamedSpec)) hopNamedCard

/-- THE TIED CARD OF 'parallaxlaw18.HopAdds'. -/
def hopAddsCard : Claim7 := { stood := { row := hopAddsRow, standIns := [], harness := (true, "8a0f7d31770fbbd0154dd32498323ec351cfe29f2358135e24cdfc3826a75dfc"), looks := false }, kinds := [], alts := [], laidByText := true, laidKinds := [.data, .listed, .data, .pinned], laidTests := true, laidLooks := .later }
def HopAddsCardSaid : Prop := Claim7.holds Tryd.pinned (.plain (OpenSpec.ofChange hopAddsSpec)) hopAddsCard

/-- THE SECOND FORM's CARD OF 'parallaxlaw18.HopTells'. -/
def hopTellsUptoCard : Claim7 := { stood := { row := hopTellsUptoRow, standIns := [], harness := (true, "8a0f7d31770fbbd0154dd32498323ec351cfe29f2358135e24cdfc3826a75dfc"), looks := false }, kinds := [], alts := [], laidByText := true, laidKinds := [.data, .listed, .data, .pinned], laidTests := true, laidLooks := .later }
def HopTellsUptoCardSaid : Prop := Claim7.holds Tryd.pinned (.plain (OpenSpec.upto hopTellsSpec)) hopTellsUptoCard

/-- THE SECOND FORM's CARD OF 'parallaxlaw18.HopNamed'. -/
def hopNamedUptoCard : Claim7 := { stood := { row := hopNamedUptoRow, standIns := [], harness := (true, "8a0f7d31770fbbd0154dd32498323ec351cfe29f2358135e24cdfc3826a75dfc"), looks := false }, kinds := [], alts := [], laidByText := true, laidKinds := [.data, .listed, .data, .pinned], laidTests := true, laidLooks := .later }
def HopNamedUptoCardSaid : Prop := Claim7.holds Tryd.pinned (.plain (OpenSpec.upto hopNamedSpec)) hopNamedUptoCard

/-- THE SECOND FORM's CARD OF 'parallaxlaw18.HopAdds'. -/
def hopAddsUptoCard : Claim7 := { stood := { row := hopAddsUptoRow, standIns := [], harness := (true, "8a0f7d31770fbbd0154dd32498323ec351cfe29f2358135e24cdfc3826a75dfc"), looks := false }, kinds := [], alts := [], laidByText := true, laidKinds := [.data, .listed, .data, .pinned], laidTests := true, laidLooks := .later }
def HopAddsUptoCardSaid : Prop := Claim7.holds Tryd.pinned (.plain (OpenSpec.upto hopAddsSpec)) hopAddsUptoCard
end Rows
end Go.Proofs.YtfmpajagkjealaaDoor
