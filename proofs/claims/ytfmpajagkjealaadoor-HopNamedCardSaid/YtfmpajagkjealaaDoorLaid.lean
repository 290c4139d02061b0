/- What the tables that the rows list say of the memory: it holds as long as nothing that lay there has changed. -/
import Derived.Test.YtfmpajagkjealaaDoorShelf
import Derived.Test.YtfmpajagkjealaaDoorRows
import Derived.Below
import Derived.LaidSub
import Derived.LaidMore
import Derived.Lib.LaidTab
import Derived.MakeChecks
import Derived.Sort.Grow
import Derived.Test.YtfmpajagkjealaaDoorWMore
namespace Go.Proofs.YtfmpajagkjealaaDoor.Laid
open Go.RowKit Go.Proofs.YtfmpajagkjealaaDoorW.PrintWords Go.Proofs.YtfmpajagkjealaaDoorW.PrintLast Go.Proofs.YtfmpajagkjealaaDoorW.PrintMore
theorem grow_below (w : World) (k : Nat) (os : Array Obj) : Below w.heap.size w (Go.Sort.grow (w.drewN k) os) := by
  refine ⟨rfl, rfl, rfl, ?_, ?_⟩
  · simp [Go.Sort.grow, World.drewN]
  · intro j hj
    simp only [Go.Sort.grow]
    exact Array.getElem?_append_left hj
theorem fields_row (e : TypeId) (w : World) (L : List (List UInt8)) (hm : L.length ≤ 9223372036854775807) : ∃ v0_ : Value, Ending.returned (.slice (some ⟨w.heap.size, 0, none⟩) L.length L.length) = Ending.returned v0_ ∧ Kd.R Kd.string e (w.alloc (.cells (L.map fun l => Value.string ⟨l.toArray⟩).toArray e)) w.heap.size (fun _ => True) v0_ (L.map fun l => (⟨l.toArray⟩ : ByteArray)) ∧ Below w.heap.size w (w.alloc (.cells (L.map fun l => Value.string ⟨l.toArray⟩).toArray e)) := by
  refine ⟨_, rfl, ?_, below_alloc (Below.refl _ _) _⟩
  have h := own_lit_of (enc := Value.string) w w.heap.size e (L.map fun l => (⟨l.toArray⟩ : ByteArray)) (Nat.le_refl _) (by simpa using hm)
  simp only [encs, List.map_map, List.length_map] at h
  exact Kd.R_of_own (by simpa [encs, List.map_map, Function.comp_def] using h) (fun _ _ => trivial)
theorem tab_below {P : Program} {w w' : World} {name : String} {k : IntKind} {zs : List Int} {g : Nat} (hg : P.globalNamed name = some g) (h : Lib.TabIs P w name k zs) (hb : Below w.heap.size w w') : Lib.TabIs P w' name k zs := by
  unfold Lib.TabIs World.var? at h ⊢
  rw [hg] at h ⊢
  simp only [Option.bind_some] at h ⊢
  have hlt : g < w.heap.size := by
    rcases Nat.lt_or_ge g w.heap.size with h' | h'
    · exact h'
    · rw [Array.getElem?_eq_none h'] at h; cases h
  rw [hb.block g hlt]; exact h
def LaidX (w : World) : Prop := Lib.TabIs Tryd.prog w "strings.asciiSpace" .u8 Lib.asciiSpaceTab
theorem below {w w' : World} (h : LaidX w) (hb : Below w.heap.size w w') : LaidX w' := tab_below (g := 0) (by kernel_rfl) h hb
theorem asciiSpace {w : World} (h : LaidX w) : Lib.TabIs Tryd.prog w "strings.asciiSpace" .u8 Lib.asciiSpaceTab := h
theorem met_asciiSpace {l : List (String × DataW Unit)} {w : World} (e1 : l.filter (fun x => x.1 == "strings.asciiSpace") = [("strings.asciiSpace", Lib.tabData .u8 Lib.asciiSpaceTab)]) (h : laidMetH Tryd.prog l w) : Lib.TabIs Tryd.prog w "strings.asciiSpace" .u8 Lib.asciiSpaceTab := by
  have h1 := h.filter (fun x => x.1 == "strings.asciiSpace")
  rw [e1, MakeChecks.laidMetH_plain _ _ _ (by kernel_rfl)] at h1
  exact Lib.tabIs_of_head (g := 0) (t := 54) (e := 5) (n := 256) (by kernel_rfl) (by kernel_rfl) Tryd.underlying54 Tryd.underlying5 (by kernel_rfl) (by kernel_rfl) h1
theorem of_met {l : List (String × DataW Unit)} {w : World} (e0 : l.filter (fun x => x.1 == "strings.asciiSpace") = [("strings.asciiSpace", Lib.tabData .u8 Lib.asciiSpaceTab)]) (h : laidMetH Tryd.prog l w) : LaidX w := met_asciiSpace e0 h
end Go.Proofs.YtfmpajagkjealaaDoor.Laid
