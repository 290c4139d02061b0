/- It is proved that TextFields answers true for all lists of fields: the text layer and its slow mirror agree. -/
import Derived.Test.YtjpgnkkfkkpheaaDoorPTextFieldsx5
import Derived.Test.YtjpgnkkfkkpheaaDoorTxtTextFields
namespace Go.Proofs.YtjpgnkkfkkpheaaDoor.Pure
open Go.RowKit Go.Proofs.YtjpgnkkfkkpheaaDoor.PTextFields Go.Proofs.YtjpgnkkfkkpheaaDoorW.PrintWords Go.Proofs.YtjpgnkkfkkpheaaDoorW.PrintLast Go.Proofs.YtjpgnkkfkkpheaaDoor.Aid Go.Proofs.YtjpgnkkfkkpheaaDoor.Parts

theorem fields_l1 (l : List S35) (names : List ByteArray) (hn : names.length ≤ 12) (hs : ∀ x ∈ names, x.size ≤ 9223372036854775807) (x : List S35) (hx : x.length ≤ 40) (hz : ∀ y ∈ x, y.f0.size ≤ 9223372036854775807)
    (y : List ByteArray) (hy : y.length ≤ 3) (hys : ∀ v ∈ y, v.size ≤ 100) (d : Nat) : ∀ i : Nat, i + d = y.length → Ev (fun k => parallaxlaw3_TextFields.l1 k l names x y (y.length : Int) (i : Int)) true := by
  induction d with
  | zero =>
    intro i hi
    refine Ev.step (fun _ => parallaxlaw3_TextFields.l1.eq_2 ..) (Ev.neg (by omega) ?_)
    have hw := withoutB_len x names
    refine Ev.bind (without_ev names (by omega) hs x hz (by omega)) (Ev.bind (rwithout_ev names (by omega) hs x hz (by omega)) (Ev.bind (rfields_refl _ (by omega)) (Ev.pos rfl ?_)))
    exact Ev.bind (fields_ev x l (by omega)) (Ev.bind (rfields_ev x l (by omega)) (Ev.pos (by simp) (Ev.bind (fields_ev x x (by omega)) ((Ev.now _).to ((fieldsB_iff x x).mpr rfl)))))
  | succ d ih =>
    intro i hi
    have h9 : i < 9223372036854775807 := by omega
    have hm := hys _ (rdOf_mem y i (by omega))
    refine Ev.step (fun _ => parallaxlaw3_TextFields.l1.eq_2 ..) (Ev.pos (by omega) (Ev.pos (by omega) (Ev.pos (by omega) ?_)))
    rw [wrap_nat h9]
    have ih' := ih (i + 1) (by omega)
    generalize rdOf ByteArray.empty y (i : Int) = n at hm ⊢
    have hf := findB_len x n
    have hw := withoutB_len x [n]
    have hsum := parts_sum x n
    have h1 : ∀ v ∈ [n], v.size ≤ 9223372036854775807 := by simp; omega
    refine Ev.bind (find_ev n (by omega) x hz (by omega)) (Ev.bind (rfind_ev n (by omega) x hz (by omega)) (Ev.bind (rstrings_refl _ (by omega)) (Ev.pos rfl ?_)))
    refine Ev.bind (without_ev [n] (by simp) h1 x hz (by omega)) (Ev.bind (rwithout_ev [n] (by simp) h1 x hz (by omega)) (Ev.bind (rfields_refl _ (by omega)) (Ev.pos rfl ?_)))
    refine Ev.bind (find_ev n (by omega) x hz (by omega)) (Ev.bind (without_ev [n] (by simp) h1 x hz (by omega)) (Ev.pos ?_ ih'))
    rw [wrap_in (i := ((findB x n).length : Int) + ((withoutB x [n]).length : Int)) (by omega) (by omega)]; omega

theorem fields_l0 (l : List S35) (ks : List Int) (hk : ks.length ≤ 12) (hk2 : ∀ c ∈ ks, 0 ≤ c ∧ c < 256) (names : List ByteArray) (name : ByteArray) (hname : name.size ≤ 40) (hn : names.length ≤ 12) (hs : ∀ x ∈ names, x.size ≤ 9223372036854775807) (d : Nat) : ∀ (i : Nat) (x : List S35), i + d = ks.length → x.length ≤ 20 + i → (∀ y ∈ x, y.f0.size ≤ 9223372036854775807) →
    Ev (fun k => parallaxlaw3_TextFields.l0 k l ks names name x (i : Int)) true := by
  induction d with
  | zero =>
    intro i x hi hx hz
    refine Ev.step (fun _ => parallaxlaw3_TextFields.l0.eq_2 ..) (Ev.neg (by omega) (Ev.val rfl ?_))
    refine fields_l1 l names hn hs x (by omega) hz _ (by simp) ?_ 3 0 rfl
    intro v hv
    simp only [List.mem_cons, List.not_mem_nil, or_false] at hv
    rcases hv with e | e | e <;> rw [e]
    · omega
    · decide
    · decide
  | succ d ih =>
    intro i x hi hx hz
    have h9 : i < 9223372036854775807 := by omega
    have hm : rd ks (i : Int) ∈ ks := by rw [rd_nat]; simp [List.getD_eq_getElem?_getD, show i < ks.length by omega]
    have hc := hk2 _ hm
    have ht : Int.tmod (rd ks (i : Int)) 5 = (((rd ks (i : Int)).toNat % 5 : Nat) : Int) := by rw [Int.tmod_eq_emod_of_nonneg hc.1]; omega
    refine Ev.step (fun _ => parallaxlaw3_TextFields.l0.eq_2 ..) (Ev.pos (by omega) (Ev.val rfl (Ev.pos (by omega) ?_)))
    rw [wrap_nat h9, ht]
    refine Ev.pos (by omega) (Ev.pos (by simp; omega) (Ev.pos (by omega) ?_))
    refine ih (i + 1) _ (by omega) (by simp; omega) ?_
    intro y hy
    rcases List.mem_append.mp hy with e | e
    · exact hz y e
    · rw [List.mem_singleton.mp e]
      have := rdOf_mem [(⟨#[72, 111, 115, 116]⟩ : ByteArray), (⟨#[104, 111, 115, 116]⟩ : ByteArray), (⟨#[65]⟩ : ByteArray), (⟨#[88]⟩ : ByteArray), name] ((rd ks (i : Int)).toNat % 5) (by simp; omega)
      simp only [List.mem_cons, List.not_mem_nil, or_false] at this
      rcases this with e | e | e | e | e <;> simp only [e]
      · decide
      · decide
      · decide
      · decide
      · omega

theorem TextFields : parallaxlaw3_TextFields.Pure := by
  intro l0 l1 l2 a3 hl0 _ _ hl1 hl2 _
  refine Ev.rounds (g := fun k => parallaxlaw3_TextFields.f k l0 l1 l2 a3) ?_
  unfold parallaxlaw3_TextFields.f
  refine Ev.bind known_ev (Ev.pos rfl ?_)
  obtain ⟨b, hb, hp⟩ := hfields_ev l0
  refine Ev.bind hb ?_
  cases b with
  | false => exact Ev.neg (by simp) (Ev.now _)
  | true =>
    have hp := hp rfl
    refine Ev.pos rfl ?_
    by_cases h1 : (l1.length : Int) > 12
    · exact Ev.pos h1 (Ev.now _)
    obtain ⟨b, hb, hq⟩ := small_ev l2
    refine Ev.neg h1 (Ev.bind hb ?_)
    cases b with
    | false => exact Ev.neg (by simp) (Ev.now _)
    | true =>
      obtain ⟨q1, q2⟩ := hq rfl
      refine Ev.pos rfl ?_
      by_cases h3 : (a3.size : Int) > 40
      · exact Ev.pos h3 (Ev.now _)
      refine Ev.neg h3 (Ev.pos (by simp; omega) ?_)
      exact fields_l0 l0 l1 (by omega) (fun c hc => u8_wf (hl1 c hc)) l2 a3 (by omega) q1 (fun x hx => by have := q2 x hx; omega) l1.length 0 _ (by omega) (by simp; omega) (fun y hy => (hl0.2 y (by simpa using hy)).1)

end Go.Proofs.YtjpgnkkfkkpheaaDoor.Pure
