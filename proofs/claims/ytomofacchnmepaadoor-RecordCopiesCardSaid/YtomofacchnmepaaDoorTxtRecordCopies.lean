/- What the printed functions of the text layer come to. -/
import Derived.Test.YtomofacchnmepaaDoorPRecordCopiesx
import Derived.Test.YtomofacchnmepaaDoorParts
import Derived.Test.YtomofacchnmepaaDoorLowP
import Derived.Test.YtomofacchnmepaaDoorTrimP
import Derived.Test.YtomofacchnmepaaDoorHex
namespace Go.Proofs.YtomofacchnmepaaDoor.PRecordCopies
open Go.RowKit Go.Proofs.YtomofacchnmepaaDoorW.PrintWords Go.Proofs.YtomofacchnmepaaDoorW.PrintLast Go.Proofs.YtomofacchnmepaaDoorW.PrintMore Go.Proofs.YtomofacchnmepaaDoor.Aid Go.Proofs.YtomofacchnmepaaDoor.Parts
set_option linter.unusedVariables false
set_option linter.unusedSimpArgs false
theorem rdT_mem (l : List S31) (j : Nat) (h : j < l.length) : rd_T31 l (j : Int) ∈ l := by
  unfold rd_T31; simp [List.getD_eq_getElem?_getD, h]
theorem drop_rdT (l : List S31) (i : Nat) (h : i < l.length) : l.drop i = rd_T31 l (i : Int) :: l.drop (i + 1) := by
  unfold rd_T31; rw [List.drop_eq_getElem_cons h]; simp [List.getD_eq_getElem?_getD, h]
def fieldB (a b : S31) : Bool := (a.f0.toList == b.f0.toList) && (a.f1.toList == b.f1.toList)
def fieldsB : List S31 → List S31 → Bool
  | [], [] => true
  | a :: l, b :: m => fieldB a b && fieldsB l m
  | _, _ => false
theorem fieldB_iff (a b : S31) : fieldB a b = true ↔ a = b := by
  unfold fieldB
  rw [Bool.and_eq_true, beq_iff_eq, beq_iff_eq, ByteArray.toList_eq, ByteArray.toList_eq, ByteArray.toList_eq, ByteArray.toList_eq]
  constructor
  · rintro ⟨h1, h2⟩
    cases a; cases b; simp only at h1 h2; rw [ba_inj h1, ba_inj h2]
  · rintro rfl; exact ⟨rfl, rfl⟩
theorem fieldsB_iff (a b : List S31) : fieldsB a b = true ↔ a = b := by
  induction a generalizing b with
  | nil => cases b <;> simp [fieldsB]
  | cons x l ih => cases b with
    | nil => simp [fieldsB]
    | cons y m => simp [fieldsB, fieldB_iff, ih]
theorem fieldsB_len {a b : List S31} (h : a.length ≠ b.length) : fieldsB a b = false := by
  rw [Bool.eq_false_iff]; intro e; exact h (congrArg _ ((fieldsB_iff a b).mp e))
theorem fieldB_cond (a b : S31) : (!((a.f0.toList == b.f0.toList)) || !((a.f1.toList == b.f1.toList))) = !(fieldB a b) := by
  unfold fieldB; rw [Bool.not_and]
theorem fields_loop (l m : List S31) (he : l.length = m.length) (hlen : l.length < 9223372036854775807) (d : Nat) : ∀ i : Nat, i + d = l.length → Ev (fun k => api_Field_40.l0 k l m (l.length : Int) (i : Int)) (fieldsB (l.drop i) (m.drop i)) := by
  induction d with
  | zero =>
    intro i hi
    refine Ev.step (fun _ => api_Field_40.l0.eq_2 ..) (Ev.neg (by omega) ((Ev.now _).to ?_))
    rw [List.drop_of_length_le (by omega), List.drop_of_length_le (by omega)]; rfl
  | succ d ih =>
    intro i hi
    have h9 : i < 9223372036854775807 := by omega
    rw [drop_rdT l i (by omega), drop_rdT m i (by omega)]
    refine Ev.step (fun _ => api_Field_40.l0.eq_2 ..) (Ev.pos (by omega) (Ev.pos (by omega) (Ev.pos (by omega) (Ev.pos (by omega) ?_))))
    rw [wrap_nat h9, fieldB_cond]
    by_cases h : fieldB (rd_T31 l (i : Int)) (rd_T31 m (i : Int)) = true
    · exact Ev.neg (by rw [h]; simp) ((ih (i + 1) (by omega)).to (by simp [fieldsB, h]))
    · exact Ev.pos (by simpa using h) ((Ev.now _).to (by simp [fieldsB, h]))
theorem fields_ev (l m : List S31) (hlen : l.length < 9223372036854775807) : Ev (fun k => text_Fields.f k l m) (fieldsB l m) := by
  unfold text_Fields.f api_Field_40.f
  refine Ev.bind (a := fieldsB l m) ?_ (Ev.now _)
  by_cases h : l.length = m.length
  · exact Ev.pos (by omega) ((fields_loop l m h hlen l.length 0 (by omega)))
  · exact Ev.neg (by omega) ((Ev.now _).to (fieldsB_len h).symm)
def sumB : List S31 → Nat
  | [] => 0
  | x :: l => x.f0.size + x.f1.size + sumB l
theorem sumB_le (l : List S31) (h : ∀ x ∈ l, x.f0.size ≤ 1000000 ∧ x.f1.size ≤ 1000000) : sumB l ≤ 2000000 * l.length := by
  induction l with
  | nil => simp [sumB]
  | cons x l ih =>
    have h1 := h x (by simp)
    have h2 := ih (fun y hy => h y (by simp [hy]))
    simp only [sumB, List.length_cons]; omega
theorem rsize_loop (l : List S31) (hl : l.length ≤ 1000000) (hz : ∀ x ∈ l, x.f0.size ≤ 1000000 ∧ x.f1.size ≤ 1000000) (d : Nat) : ∀ i a : Nat, i + d = l.length → a ≤ 2000000 * i → Ev (fun k => record_size.l0 k (a : Int) l (l.length : Int) (i : Int)) ((a + sumB (l.drop i) : Nat) : Int) := by
  induction d with
  | zero =>
    intro i a hi ha
    refine Ev.step (fun _ => record_size.l0.eq_2 ..) (Ev.neg (by omega) ((Ev.now _).to ?_))
    rw [List.drop_of_length_le (by omega)]; simp [sumB]
  | succ d ih =>
    intro i a hi ha
    have hm := hz _ (rdT_mem l i (by omega))
    rw [drop_rdT l i (by omega)]
    refine Ev.step (fun _ => record_size.l0.eq_2 ..) (Ev.pos (by omega) (Ev.pos (by omega) (Ev.pos (by omega) ?_)))
    rw [wrap_nat (by omega), wrap_in (i := ((rd_T31 l (i : Int)).f0.size : Int) + ((rd_T31 l (i : Int)).f1.size : Int)) (by omega) (by omega), wrap_in (by omega) (by omega)]
    have := ih (i + 1) (a + ((rd_T31 l (i : Int)).f0.size + (rd_T31 l (i : Int)).f1.size)) (by omega) (by omega)
    rw [show ((a + ((rd_T31 l (i : Int)).f0.size + (rd_T31 l (i : Int)).f1.size) : Nat) : Int) = (a : Int) + (((rd_T31 l (i : Int)).f0.size : Int) + ((rd_T31 l (i : Int)).f1.size : Int)) by omega] at this
    refine this.to ?_
    simp only [sumB]; omega
theorem rsize_ev (l : List S31) (hl : l.length ≤ 1000000) (hz : ∀ x ∈ l, x.f0.size ≤ 1000000 ∧ x.f1.size ≤ 1000000) : Ev (fun k => record_size.f k l) ((sumB l : Nat) : Int) := by
  have := rsize_loop l hl hz l.length 0 0 (by omega) (by omega)
  unfold record_size.f
  exact this.to (by rw [List.drop_zero]; simp)
def recZ (m t : ByteArray) (l : List S31) (b : List Int) (g : List S31) : Nat := m.size + t.size + sumB l + sumB g + b.length
theorem recZ_ev (m t : ByteArray) (q : Int) (l : List S31) (d : Bool) (b : List Int) (g : List S31) (hm : m.size ≤ 1000000) (ht : t.size ≤ 1000000) (hb : b.length ≤ 1000000) (hl : l.length ≤ 1000000) (hg : g.length ≤ 1000000) (hz : ∀ x ∈ l, x.f0.size ≤ 1000000 ∧ x.f1.size ≤ 1000000) (hy : ∀ x ∈ g, x.f0.size ≤ 1000000 ∧ x.f1.size ≤ 1000000) : Ev (fun k => record_Size.f k m t q l d b g) ((recZ m t l b g : Nat) : Int) := by
  have s1 := sumB_le l hz
  have s2 := sumB_le g hy
  unfold record_Size.f recZ
  refine Ev.bind (rsize_ev l hl hz) (Ev.bind (rsize_ev g hg hy) ((Ev.now _).to ?_))
  rw [wrap_in (i := (m.size : Int) + (t.size : Int)) (by omega) (by omega), wrap_in (i := (m.size : Int) + (t.size : Int) + ((sumB l : Nat) : Int)) (by omega) (by omega), wrap_in (i := (m.size : Int) + (t.size : Int) + ((sumB l : Nat) : Int) + ((sumB g : Nat) : Int)) (by omega) (by omega), wrap_in (by omega) (by omega)]
  omega
def sameR (m t : ByteArray) (q : Int) (l : List S31) (d : Bool) (b : List Int) (g : List S31) (m' t' : ByteArray) (q' : Int) (l' : List S31) (d' : Bool) (b' : List Int) (g' : List S31) : Bool :=
  fieldsB l l' && (fieldsB g g' && (((strOfNums b).toList == (strOfNums b').toList) && (decide (m.toList = m'.toList) && (decide (t.toList = t'.toList) && (decide (q = q') && (d == d'))))))
theorem sameR_ev (m t : ByteArray) (q : Int) (l : List S31) (d : Bool) (b : List Int) (g : List S31) (m' t' : ByteArray) (q' : Int) (l' : List S31) (d' : Bool) (b' : List Int) (g' : List S31) (hl : l.length < 9223372036854775807) (hg : g.length < 9223372036854775807) :
    Ev (fun k => record_Same.f k m t q l d b g m' t' q' l' d' b' g') (sameR m t q l d b g m' t' q' l' d' b' g') := by
  unfold record_Same.f sameR
  refine Ev.bind (fields_ev l l' hl) ?_
  cases fieldsB l l' with
  | false => exact Ev.neg (by simp) (Ev.now _)
  | true =>
    refine Ev.pos rfl (Ev.bind (fields_ev g g' hg) ?_)
    cases fieldsB g g' with
    | false => exact Ev.neg (by simp) (Ev.now _)
    | true =>
      refine Ev.pos rfl (Ev.val rfl ?_)
      cases ((strOfNums b).toList == (strOfNums b').toList) with
      | false => exact Ev.neg (by simp) (Ev.now _)
      | true =>
        refine Ev.pos rfl ?_
        by_cases h1 : m.toList = m'.toList
        · rw [decide_eq_true h1]
          refine Ev.pos h1 ?_
          by_cases h2 : t.toList = t'.toList
          · rw [decide_eq_true h2]
            refine Ev.pos h2 ?_
            by_cases h3 : q = q'
            · rw [decide_eq_true h3]
              exact Ev.pos h3 ((Ev.now _).to (by simp))
            · rw [decide_eq_false h3]; exact Ev.neg h3 ((Ev.now _).to (by simp))
          · rw [decide_eq_false h2]; exact Ev.neg h2 ((Ev.now _).to (by simp))
        · rw [decide_eq_false h1]; exact Ev.neg h1 ((Ev.now _).to (by simp))
theorem sameR_refl (m t : ByteArray) (q : Int) (l : List S31) (d : Bool) (b : List Int) (g : List S31) : sameR m t q l d b g m t q l d b g = true := by
  unfold sameR; rw [(fieldsB_iff l l).mpr rfl, (fieldsB_iff g g).mpr rfl]; simp
theorem copy_some (m t : ByteArray) (q : Int) (l : List S31) (d : Bool) (b : List Int) (g : List S31) (hl : l.length < 4398046511104) (hb : b.length < 140737488355328) (hg : g.length < 4398046511104) : record_Copy.f m t q l d b g = some (m, t, q, l, d, b, g) := by
  unfold record_Copy.f api_Field_33.f slices_Clone_byte_byte.f
  rw [if_pos hl, if_pos hb, if_pos hg]; rfl
theorem at_some (a : Int) (l : List Int) (ha : 0 ≤ a ∧ a ≤ 1000) (hl : l.length ≤ 1000000) (hw : ∀ x ∈ l, 0 ≤ x ∧ x < 256) : ∃ v : Nat, v < 256 ∧ parallaxseat_Neat_1.f a l = some (v : Int) := by
  unfold parallaxseat_Neat_1.f
  rw [if_pos ⟨ha.1, ha.2, hl, by rw [List.all_eq_true]; intro x hx; exact decide_eq_true (hw x hx)⟩]
  by_cases h : l.length = 0
  · rw [if_pos h]; exact ⟨(a % 256).toNat, by omega, by rw [Int.toNat_of_nonneg (Int.emod_nonneg _ (by decide))]⟩
  · rw [if_neg h]
    have := Int.emod_nonneg (rd l (a % (l.length : Int)) + a / (l.length : Int) * 41 % 256) (by decide : (256 : Int) ≠ 0)
    have := Int.emod_lt_of_pos (rd l (a % (l.length : Int)) + a / (l.length : Int) * 41 % 256) (by decide : (0 : Int) < 256)
    exact ⟨((rd l (a % (l.length : Int)) + a / (l.length : Int) * 41 % 256) % 256).toNat, by omega, by rw [Int.toNat_of_nonneg (by omega)]⟩
theorem tmod_at (v n : Nat) : Int.tmod (v : Int) (n : Int) = ((v % n : Nat) : Int) := by rw [Int.tmod_eq_emod_of_nonneg (by omega)]; exact (Int.natCast_emod v n).symm
theorem known_ev : Ev (fun k => parallaxlaw12_known.f k) true := Ev.of (fun k => parallaxlaw12_known.mono k) (k := 40) (by decide +kernel)
end Go.Proofs.YtomofacchnmepaaDoor.PRecordCopies
