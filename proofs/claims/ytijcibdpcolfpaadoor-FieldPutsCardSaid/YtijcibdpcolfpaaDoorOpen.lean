/- A law's arguments, read as the printed functions read them: slices of any elements, structs. -/
import Derived.Test.YtijcibdpcolfpaaDoorWMore
import Derived.ChangeArms
import Derived.DataReads
import Derived.SizedLaws
import Derived.OpenShut
namespace Go.Proofs.YtijcibdpcolfpaaDoor.Open
open Go.RowKit Go.Proofs.YtijcibdpcolfpaaDoorW.PrintWords Go.Proofs.YtijcibdpcolfpaaDoorW.PrintLast Go.Proofs.YtijcibdpcolfpaaDoorW.PrintMore

/-- a value of type t, read as data, is one of this kind, and in form -/
def Opens {α : Type} (P : Program) (w : World) (t : TypeId) (d : Kd α) (wf : α → Prop) : Prop :=
  ∀ (H : Type) (enc : TypeId × Value → H) (base : Nat) (spare : Nat → Bool) (held : Bool) (fuel : Nat) (cs : List Value) (x : DataW H × List MemPlace), DataW.trod enc P w base spare held fuel t cs = some x → (∀ n ∈ x.1.weights P t, n ≤ reachBytes) → ∃ a, d.K w a cs ∧ wf a
theorem int {P : Program} {w : World} {t : TypeId} {k : IntKind} (ht : P.underlying t = some (.int k)) : Opens P w t (Kd.int k) (fun n => (Lit.int k n).wf = true) := by
  intro H enc base spare held fuel cs x h hz
  obtain ⟨n, rfl, _, hw⟩ := DataW.trod_int ht h
  exact ⟨n, rfl, hw⟩
theorem bool {P : Program} {w : World} {t : TypeId} (ht : P.underlying t = some .bool) : Opens P w t Kd.bool (fun _ => True) := by
  intro H enc base spare held fuel cs x h hz
  obtain ⟨n, rfl, _⟩ := DataW.trod_bool ht h
  exact ⟨n, rfl, trivial⟩
theorem string {P : Program} {w : World} {t : TypeId} (ht : P.underlying t = some .string) : Opens P w t Kd.string (fun s => s.size ≤ 140737488351232) := by
  intro H enc base spare held fuel cs x h hz
  obtain ⟨n, rfl, rfl, hw⟩ := DataW.trod_string ht h
  have := hz n.data.toList.length (by simp [DataW.weights])
  exact ⟨n, rfl, by have e : reachBytes = 140737488351232 := by decide
                    rw [e] at this; simpa using this⟩
theorem all_of {H : Type} {P : Program} {e : TypeId} {l : List (DataW H)} {y : DataW H} (hy : y ∈ l) {q : Nat} (hq : q ∈ y.weights P e) : q ∈ DataW.weightsAll P e l := by
  induction l with
  | nil => cases hy
  | cons d r ih =>
    rw [DataW.weightsAll, List.mem_append]
    rcases List.mem_cons.mp hy with rfl | h
    · exact .inl hq
    · exact .inr (ih h)
theorem each_of {H : Type} {P : Program} {fs : List Field} {l : List (DataW H × List MemPlace)} {i : Nat} {f : Field} {y : DataW H × List MemPlace} (hf : fs[i]? = some f) (hy : l[i]? = some y) {q : Nat} (hq : q ∈ y.1.weights P f.type) : q ∈ DataW.weightsEach P (fs.map (·.type)) (l.map (·.1)) :=
  DataW.weights_mem_each (j := i) (by rw [List.getElem?_map, hf]; rfl) (by rw [List.getElem?_map, hy]; rfl) q hq
theorem slice {α : Type} {P : Program} {w : World} {t e : TypeId} {d : Kd α} {wf : α → Prop} (ht : P.underlying t = some (.slice e)) (hc : P.cellsOf e = d.sz) (he : Opens P w e d wf) :
    Opens P w t (Kd.slice e d) (fun l => l.length ≤ 9223372036854775807 ∧ ∀ x ∈ l, wf x) := by
  intro H enc base spare held fuel cs x h hz
  rcases DataW.trod_slice ht h with ⟨rfl, _⟩ | ⟨a, len, cap, elems, rest, n, _, rfl, hxe, hb, hl, hm, hlen, hel, _, _⟩
  · exact ⟨[], ⟨none, 0, rfl, Nat.le_refl _, rfl, Nat.zero_le _, fun h => absurd h (Nat.lt_irrefl 0)⟩, Nat.zero_le _, fun x hx => by cases hx⟩
  · have each : ∀ i, i < len → ∃ (v : α) (c : List Value), c.length = d.sz ∧ d.K w v c ∧ wf v ∧ ∀ j u, c[j]? = some u → w.cell? (a.add (i * d.sz + j)) = some u := by
      intro i hi
      have h1 := hel i hi
      rw [List.getElem?_eq_getElem (by omega), Option.bind_eq_some_iff] at h1
      obtain ⟨c, hc1, hy⟩ := h1
      obtain ⟨v, hK, hw⟩ := he H enc base spare held n c _ hy (fun q hq => hz q (by
        rw [hxe]
        simp only [DataW.weights, ht, List.mem_cons, List.mem_append]
        exact .inr (.inl (all_of (List.mem_map.mpr ⟨_, List.getElem_mem _, rfl⟩) hq))))
      obtain ⟨_, hcl, hcc⟩ := World.cells?_some hc1
      rw [hc] at hcc hcl
      refine ⟨v, c, hcl, hK, hw, fun j u hj => ?_⟩
      have hjl : j < d.sz := by rw [← hcl]; exact (List.getElem?_eq_some_iff.1 hj).1
      have h2 := hcc j hjl
      rw [hj] at h2
      rw [← h2]
      congr 1
      by_cases h1 : i * d.sz = 0 <;> by_cases h2 : j = 0 <;> simp [Addr.add, h1, h2, Nat.add_assoc]
    have pick : ∀ n, n ≤ len → ∃ l : List α, l.length = n ∧ ∀ i p, l[i]? = some p → ∃ c : List Value, c.length = d.sz ∧ d.K w p c ∧ wf p ∧ ∀ j u, c[j]? = some u → w.cell? (a.add (i * d.sz + j)) = some u := by
      intro n
      induction n with
      | zero => intro _; exact ⟨[], rfl, fun i p h => by simp at h⟩
      | succ n ih =>
        intro hn
        obtain ⟨l, hll, hl2⟩ := ih (by omega)
        obtain ⟨v, c, h1, h2, h3, h4⟩ := each n (by omega)
        refine ⟨l ++ [v], by simp [hll], fun i p hp => ?_⟩
        rcases Nat.lt_or_ge i l.length with hi | hi
        · rw [List.getElem?_append_left hi] at hp; exact hl2 i p hp
        · rw [List.getElem?_append_right hi] at hp
          have : i = n := by
            have := (List.getElem?_eq_some_iff.1 hp).1
            simp at this; omega
          subst this
          rw [hll, Nat.sub_self] at hp
          obtain rfl : v = p := by simpa using hp
          exact ⟨c, h1, h2, h3, h4⟩
    obtain ⟨l, hll, hl2⟩ := pick len (Nat.le_refl _)
    have hm' : cap ≤ 9223372036854775807 := hm
    refine ⟨l, ⟨some a, cap, by rw [hll], by omega, rfl, by omega, fun _ => ⟨a, rfl, fun j p hp => ?_⟩⟩, by omega, fun p hp => ?_⟩
    · obtain ⟨c, h1, h2, _, h4⟩ := hl2 j p hp
      exact ⟨c, h1, h2, fun i u hu => h4 i u hu⟩
    · obtain ⟨i, hi⟩ := List.getElem?_of_mem hp
      obtain ⟨c, _, _, h3, _⟩ := hl2 i p hi
      exact h3
/-- the fields of a struct from one on, whose cells begin at off -/
def OpensF {α : Type} (P : Program) (w : World) (fs : List Field) (off : Nat) (d : Kd α) (wf : α → Prop) : Prop :=
  ∀ (H : Type) (enc : TypeId × Value → H) (base : Nat) (spare : Nat → Bool) (held : Bool) (n : Nat) (cs : List Value), cs.length = off + d.sz → (∀ f ∈ fs, ∃ y, DataW.trod enc P w base spare held n f.type ((cs.drop f.offset).take (P.cellsOf f.type)) = some y ∧ ∀ q ∈ y.1.weights P f.type, q ≤ reachBytes) → ∃ a, d.K w a (cs.drop off) ∧ wf a
theorem one {α : Type} {P : Program} {w : World} {f : Field} {d : Kd α} {wf : α → Prop} {off : Nat} (ho : f.offset = off) (hc : P.cellsOf f.type = d.sz) (h : Opens P w f.type d wf) : OpensF P w [f] off d wf := by
  intro H enc base spare held n cs hl hf
  obtain ⟨y, hy, hz⟩ := hf f (by simp)
  rw [ho, hc, List.take_of_length_le (by rw [List.length_drop]; omega)] at hy
  exact h H enc base spare held n _ y hy hz
theorem more {α β : Type} {P : Program} {w : World} {f : Field} {fs : List Field} {d : Kd α} {wf : α → Prop} {d2 : Kd β} {wf2 : β → Prop} {off : Nat} (ho : f.offset = off) (hc : P.cellsOf f.type = d.sz) (h : Opens P w f.type d wf) (h2 : OpensF P w fs (off + d.sz) d2 wf2) :
    OpensF P w (f :: fs) off (Kd.pair d d2) (fun p => wf p.1 ∧ wf2 p.2) := by
  intro H enc base spare held n cs hl hf
  have hsz : (Kd.pair d d2).sz = d.sz + d2.sz := rfl
  rw [hsz] at hl
  obtain ⟨y, hy, hz⟩ := hf f (by simp)
  rw [ho, hc] at hy
  obtain ⟨a, hK, hw⟩ := h H enc base spare held n _ y hy hz
  obtain ⟨b, hK2, hw2⟩ := h2 H enc base spare held n cs (by omega) (fun g hg => hf g (by simp [hg]))
  refine ⟨(a, b), ⟨_, _, ?_, hK, hK2⟩, hw, hw2⟩
  rw [← List.drop_drop, List.take_append_drop]
theorem struct {α : Type} {P : Program} {w : World} {t : TypeId} {fs : Array Field} {d : Kd α} {wf : α → Prop} (ht : P.underlying t = some (.struct fs)) (hc : P.cellsOf t = d.sz) (h : OpensF P w fs.toList 0 d wf) : Opens P w t d wf := by
  intro H enc base spare held fuel cs x hx hz
  obtain ⟨xs, n, _, hxe, hl, hxl, hf⟩ := DataW.trod_struct ht hx
  have := h H enc base spare held n cs (by omega) (fun f hm => by
    obtain ⟨i, hi⟩ := List.getElem?_of_mem hm
    rw [Array.getElem?_toList] at hi
    have h1 := hf i f hi
    have hlt : i < xs.length := by
      have := (Array.getElem?_eq_some_iff.1 hi).1
      omega
    rw [List.getElem?_eq_getElem hlt] at h1
    refine ⟨_, h1, fun q hq => hz q ?_⟩
    rw [hxe]
    simp only [DataW.weights, ht]
    exact each_of (i := i) (f := f) (by rw [Array.getElem?_toList]; exact hi) (List.getElem?_eq_getElem hlt) hq)
  rwa [List.drop_zero] at this
theorem iso {α β : Type} {P : Program} {w : World} {t : TypeId} {d : Kd α} {wf : α → Prop} (f : β → α) (g : α → β) (hfg : ∀ a, f (g a) = a) (h : Opens P w t d wf) : Opens P w t (Kd.iso d f) (fun b => wf (f b)) := by
  intro H enc base spare held fuel cs x hx hz
  obtain ⟨a, hK, hw⟩ := h H enc base spare held fuel cs x hx hz
  exact ⟨g a, show d.K w (f (g a)) cs by rw [hfg]; exact hK, show wf (f (g a)) by rw [hfg]; exact hw⟩
/-- an array of two elements -/
theorem array2 {α : Type} {P : Program} {w : World} {t e : TypeId} {d : Kd α} {wf : α → Prop} (ht : P.underlying t = some (.array 2 e)) (hc : P.cellsOf e = d.sz) (hct : P.cellsOf t = d.sz + d.sz) (he : Opens P w e d wf) : Opens P w t (Kd.pair d d) (fun p => wf p.1 ∧ wf p.2) := by
  intro H enc base spare held fuel cs x h hz
  obtain ⟨xs, m, _, hxe, hl, hxl, hel⟩ := DataW.trod_array ht h
  have h0 := hel 0 (by omega)
  have h1 := hel 1 (by omega)
  rw [List.getElem?_eq_getElem (by omega), hc, Nat.zero_mul, List.drop_zero] at h0
  rw [List.getElem?_eq_getElem (by omega), hc, Nat.one_mul] at h1
  have hw : ∀ (i : Nat) (hi : i < xs.length), ∀ q ∈ (xs[i]).1.weights P e, q ≤ reachBytes := fun i hi q hq => hz q (by
    rw [hxe]
    simp only [DataW.weights, ht]
    exact all_of (List.mem_map.mpr ⟨_, List.getElem_mem hi, rfl⟩) hq)
  obtain ⟨a, ha, wa⟩ := he H enc base spare held m _ _ h0 (hw 0 (by omega))
  obtain ⟨b, hb, wb⟩ := he H enc base spare held m _ _ h1 (hw 1 (by omega))
  refine ⟨(a, b), ⟨_, _, ?_, ha, hb⟩, wa, wb⟩
  rw [List.take_of_length_le (l := cs.drop d.sz) (by rw [List.length_drop]; omega), List.take_append_drop]
theorem weaken {α : Type} {P : Program} {w : World} {t : TypeId} {d : Kd α} {wf wf' : α → Prop} (h : Opens P w t d wf) (hw : ∀ a, wf a → wf' a) : Opens P w t d wf' := by
  intro H enc base spare held fuel cs x hx hz
  obtain ⟨a, hK, h1⟩ := h H enc base spare held fuel cs x hx hz
  exact ⟨a, hK, hw a h1⟩
end Go.Proofs.YtijcibdpcolfpaaDoor.Open
