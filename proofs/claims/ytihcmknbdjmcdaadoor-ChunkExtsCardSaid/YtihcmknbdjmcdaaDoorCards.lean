/-
  DERIVED. GIVEN WITH THE SEED: THE CARDS: each row of YtihcmknbdjmcdaaDoorRows.lean that lists a variable, with what it lists TIED to the program's text (the seventh form; the later family's looks); each row that meets fmt, with fmt's text TOLD by the authors' own Lean function (tested against real Go, not proved from fmt's source: count such statements apart). THE CARD IS WHAT COUNTS. Prove the row's statement (the work); the ties are given (YtihcmknbdjmcdaaDoorTie.lean); close each card by the builder's one call (the guide's Derived/Test/ToyasCard.lean, 'card_holds'). Laid BY PROGRAM, IN A SANDBOX (cutbox-door.mjs). By AI agents, Wed Nov 11 2026. No macro, syntax, notation, axiom, sorry.
-/
import Derived.Test.YtihcmknbdjmcdaaDoorRows
import GoSem.ClaimSeven
namespace Go.Proofs.YtihcmknbdjmcdaaDoor
namespace Rows

/-- THE TIED CARD OF 'parallaxlaw11.ChunkTells'. -/
def chunkTellsCard : Claim7 := { stood := { row := chunkTellsRow, standIns := [], harness := (true, "9e3c242375416afd4eb6d2a2496dda4b697ec6c1f4b1c5f3c2ed50daeea8c6d9"), looks := false }, kinds := [], alts := [], laidByText := true, laidKinds := [.data, .data, .data], laidTests := true, laidLooks := .later }
def ChunkTellsCardSaid : Prop := Claim7.holds Tryd.pinned (.plain (OpenSpec.ofChange chunkTellsSpec)) chunkTellsCard

/-- THE TIED CARD OF 'parallaxlaw11.ChunkWrites'. -/
def chunkWritesCard : Claim7 := { stood := { row := chunkWritesRow, standIns := [], harness := (true, "9e3c242375416afd4eb6d2a2496dda4b697ec6c1f4b1c5f3c2ed50daeea8c6d9"), looks := false }, kinds := [], alts := [], laidByText := true, laidKinds := [.data, .data, .data], laidTests := true, laidLooks := .later }
def ChunkWritesCardSaid : Prop := Claim7.holds Tryd.pinned (.plain (OpenSpec.ofChange chunkWritesSpec)) chunkWritesCard

/-- THE TIED CARD OF 'parallaxlaw11.ChunkClauses'. -/
def chunkClausesCard : Claim7 := { stood := { row := chunkClausesRow, standIns := [], harness := (true, "9e3c242375416afd4eb6d2a2496dda4b697ec6c1f4b1c5f3c2ed50daeea8c6d9"), looks := false }, kinds := [], alts := [], laidByText := true, laidKinds := [.data, .data, .data], laidTests := true, laidLooks := .later }
def ChunkClausesCardSaid : Prop := Claim7.holds Tryd.pinned (.plain (OpenSpec.ofChange chunkClausesSpec)) chunkClausesCard

/-- THE TIED CARD OF 'parallaxlaw11.ChunkExts'. -/
def chunkExtsCard : Claim7 := { stood := { row := chunkExtsRow, standIns := [], harness := (true, "9e3c242375416afd4eb6d2a2496dda4b697ec6c1f4b1c5f3c2ed50daeea8c6d9"), looks := false }, kinds := [], alts := [], laidByText := true, laidKinds := [.data, .data, .data], laidTests := true, laidLooks := .later }
def ChunkExtsCardSaid : Prop := Claim7.holds Tryd.pinned (.plain (OpenSpec.ofChange chunkExtsSpec)) chunkExtsCard

/-- THE SECOND FORM's CARD OF 'parallaxlaw11.ChunkTells'. -/
def chunkTellsUptoCard : Claim7 := { stood := { row := chunkTellsUptoRow, standIns := [], harness := (true, "9e3c242375416afd4eb6d2a2496dda4b697ec6c1f4b1c5f3c2ed50daeea8c6d9"), looks := false }, kinds := [], alts := [], laidByText := true, laidKinds := [.data, .data, .data], laidTests := true, laidLooks := .later }
def ChunkTellsUptoCardSaid : Prop := Claim7.holds Tryd.pinned (.plain (OpenSpec.upto chunkTellsSpec)) chunkTellsUptoCard

/-- THE SECOND FORM's CARD OF 'parallaxlaw11.ChunkWrites'. -/
def chunkWritesUptoCard : Claim7 := { stood := { row := chunkWritesUptoRow, standIns := [], harness := (true, "9e3c242375416afd4eb6d2a2496dda4b697ec6c1f4b1c5f3c2ed50daeea8c6d9"), looks := false }, kinds := [], alts := [], laidByText := true, laidKinds := [.data, .data, .data], laidTests := true, laidLooks := .later }
def ChunkWritesUptoCardSaid : Prop := Claim7.holds Tryd.pinned (.plain (OpenSpec.upto chunkWritesSpec)) chunkWritesUptoCard

/-- THE SECOND FORM's CARD OF 'parallaxlaw11.ChunkClauses'. -/
def chunkClausesUptoCard : Claim7 := { stood := { row := chunkClausesUptoRow, standIns := [], harness := (true, "9e3c242375416afd4eb6d2a2496dda4b697ec6c1f4b1c5f3c2ed50daeea8c6d9"), looks := false }, kinds := [], alts := [], laidByText := true, laidKinds := [.data, .data, .data], laidTests := true, laidLooks := .later }
def ChunkClausesUptoCardSaid : Prop := Claim7.holds Tryd.pinned (.plain (OpenSpec.upto chunkClausesSpec)) chunkClausesUptoCard

/-- THE SECOND FORM's CARD OF 'parallaxlaw11.ChunkExts'. -/
def chunkExtsUptoCard : Claim7 := { stood := { row := chunkExtsUptoRow, standIns := [], harness := (true, "9e3c242375416afd4eb6d2a2496dda4b697ec6c1f4b1c5f3c2ed50daeea8c6d9"), looks := false }, kinds := [], alts := [], laidByText := true, laidKinds := [.data, .data, .data], laidTests := true, laidLooks := .later }
def ChunkExtsUptoCardSaid : Prop := Claim7.holds Tryd.pinned (.plain (OpenSpec.upto chunkExtsSpec)) chunkExtsUptoCard
end Rows
end Go.Proofs.YtihcmknbdjmcdaaDoor
