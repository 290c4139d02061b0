/- What the tables that the rows list say of the memory: it holds as long as nothing that lay there has changed. -/
import Derived.Test.YtihcmknbdjmcdaaDoorShelf
import Derived.Test.YtihcmknbdjmcdaaDoorRows
import Derived.Below
import Derived.LaidSub
import Derived.LaidMore
import Derived.Lib.LaidTab
import Derived.MakeChecks
import Derived.Sort.Grow
import Derived.Test.YtihcmknbdjmcdaaDoorWMore
namespace Go.Proofs.YtihcmknbdjmcdaaDoor.Laid
open Go.RowKit Go.Proofs.YtihcmknbdjmcdaaDoorW.PrintWords Go.Proofs.YtihcmknbdjmcdaaDoorW.PrintLast Go.Proofs.YtihcmknbdjmcdaaDoorW.PrintMore
theorem grow_below (w : World) (k : Nat) (os : Array Obj) : Below w.heap.size w (Go.Sort.grow (w.drewN k) os) := by
  refine ⟨rfl, rfl, rfl, ?_, ?_⟩
  · simp [Go.Sort.grow, World.drewN]
  · intro j hj
    simp only [Go.Sort.grow]
    exact Array.getElem?_append_left hj
theorem fields_row (e : TypeId) (w : World) (L : List (List UInt8)) (hm : L.length ≤ 9223372036854775807) : ∃ v0_ : Value, Ending.returned (.slice (some ⟨w.heap.size, 0, none⟩) L.length L.length) = Ending.returned v0_ ∧ Kd.R Kd.string e (w.alloc (.cells (L.map fun l => Value.string ⟨l.toArray⟩).toArray e)) w.heap.size (fun _ => True) v0_ (L.map fun l => (⟨l.toArray⟩ : ByteArray)) ∧ Below w.heap.size w (w.alloc (.cells (L.map fun l => Value.string ⟨l.toArray⟩).toArray e)) := by
  refine ⟨_, rfl, ?_, below_alloc (Below.refl _ _) _⟩
  have h := own_lit_of (enc := Value.string) w w.heap.size e (L.map fun l => (⟨l.toArray⟩ : ByteArray)) (Nat.le_refl _) (by simpa using hm)
  simp only [encs, List.map_map, List.length_map] at h
  exact Kd.R_of_own (by simpa [encs, List.map_map, Function.comp_def] using h) (fun _ _ => trivial)
theorem tab_below {P : Program} {w w' : World} {name : String} {k : IntKind} {zs : List Int} {g : Nat} (hg : P.globalNamed name = some g) (h : Lib.TabIs P w name k zs) (hb : Below w.heap.size w w') : Lib.TabIs P w' name k zs := by
  unfold Lib.TabIs World.var? at h ⊢
  rw [hg] at h ⊢
  simp only [Option.bind_some] at h ⊢
  have hlt : g < w.heap.size := by
    rcases Nat.lt_or_ge g w.heap.size with h' | h'
    · exact h'
    · rw [Array.getElem?_eq_none h'] at h; cases h
  rw [hb.block g hlt]; exact h
def deBruijn64 : List Int := [0, 1, 56, 2, 57, 49, 28, 3, 61, 58, 42, 50, 38, 29, 17, 4, 62, 47, 59, 36, 45, 43, 51, 22, 53, 39, 33, 30, 24, 18, 12, 5, 63, 55, 48, 27, 60, 41, 37, 16, 46, 35, 44, 21, 52, 32, 23, 11, 54, 26, 40, 15, 34, 20, 31, 10, 25, 14, 19, 9, 13, 8, 7, 6]
def LaidX (w : World) : Prop := Lib.TabIs Tryd.prog w "internal/strconv.uint64pow10" .u64 Lib.pow10Tab ∧ Lib.TabIs Tryd.prog w "math/bits.deBruijn64tab" .u8 deBruijn64
theorem below {w w' : World} (h : LaidX w) (hb : Below w.heap.size w w') : LaidX w' := ⟨tab_below (g := 1) (by kernel_rfl) h.1 hb, tab_below (g := 3) (by kernel_rfl) h.2 hb⟩
theorem uint64pow10 {w : World} (h : LaidX w) : Lib.TabIs Tryd.prog w "internal/strconv.uint64pow10" .u64 Lib.pow10Tab := h.1
theorem met_uint64pow10 {l : List (String × DataW Unit)} {w : World} (e1 : l.filter (fun x => x.1 == "internal/strconv.uint64pow10") = [("internal/strconv.uint64pow10", Lib.tabData .u64 Lib.pow10Tab)]) (h : laidMetH Tryd.prog l w) : Lib.TabIs Tryd.prog w "internal/strconv.uint64pow10" .u64 Lib.pow10Tab := by
  have h1 := h.filter (fun x => x.1 == "internal/strconv.uint64pow10")
  rw [e1, MakeChecks.laidMetH_plain _ _ _ (by kernel_rfl)] at h1
  exact Lib.tabIs_of_head (g := 1) (t := 82) (e := 74) (n := 20) (by kernel_rfl) (by kernel_rfl) Tryd.underlying82 Tryd.underlying74 (by kernel_rfl) (by kernel_rfl) h1
theorem deBruijn64tab {w : World} (h : LaidX w) : Lib.TabIs Tryd.prog w "math/bits.deBruijn64tab" .u8 deBruijn64 := h.2
theorem met_deBruijn64tab {l : List (String × DataW Unit)} {w : World} (e1 : l.filter (fun x => x.1 == "math/bits.deBruijn64tab") = [("math/bits.deBruijn64tab", Lib.tabData .u8 deBruijn64)]) (h : laidMetH Tryd.prog l w) : Lib.TabIs Tryd.prog w "math/bits.deBruijn64tab" .u8 deBruijn64 := by
  have h1 := h.filter (fun x => x.1 == "math/bits.deBruijn64tab")
  rw [e1, MakeChecks.laidMetH_plain _ _ _ (by kernel_rfl)] at h1
  exact Lib.tabIs_of_head (g := 3) (t := 87) (e := 5) (n := 64) (by kernel_rfl) (by kernel_rfl) Tryd.underlying87 Tryd.underlying5 (by kernel_rfl) (by kernel_rfl) h1
theorem of_met {l : List (String × DataW Unit)} {w : World} (e0 : l.filter (fun x => x.1 == "internal/strconv.uint64pow10") = [("internal/strconv.uint64pow10", Lib.tabData .u64 Lib.pow10Tab)]) (e1 : l.filter (fun x => x.1 == "math/bits.deBruijn64tab") = [("math/bits.deBruijn64tab", Lib.tabData .u8 deBruijn64)]) (h : laidMetH Tryd.prog l w) : LaidX w := ⟨met_uint64pow10 e0 h, met_deBruijn64tab e1 h⟩
theorem cell16 {w : World} (h : LaidX w) : w.cell? ⟨3, 15, none⟩ = some (.int .u8 4) := Lib.TabIs.cell (deBruijn64tab h) (by kernel_rfl) 15 (by decide)
end Go.Proofs.YtihcmknbdjmcdaaDoor.Laid
