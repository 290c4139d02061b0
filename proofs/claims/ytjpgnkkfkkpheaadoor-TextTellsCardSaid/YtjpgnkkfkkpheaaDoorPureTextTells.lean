/- It is proved that TextTells answers true for all texts: the text layer and its slow mirror agree. -/
import Derived.Test.YtjpgnkkfkkpheaaDoorPTextTellsx5
import Derived.Test.YtjpgnkkfkkpheaaDoorTxtTextTells
namespace Go.Proofs.YtjpgnkkfkkpheaaDoor.Pure
open Go.RowKit Go.Proofs.YtjpgnkkfkkpheaaDoor.PTextTells Go.Proofs.YtjpgnkkfkkpheaaDoorW.PrintWords Go.Proofs.YtjpgnkkfkkpheaaDoorW.PrintLast Go.Proofs.YtjpgnkkfkkpheaaDoor.Aid Go.Proofs.YtjpgnkkfkkpheaaDoor.Parts

/-- the two lists of a list agree -/
theorem both (l : List ByteArray) (hl : l.length ≤ 13) (hs : ∀ x ∈ l, x.size ≤ 200) : Ev (fun k => text_List.f k l) (listB l) ∧ Ev (fun k => parallaxref1_List.f k l) (listB l) ∧ Ev (fun k => parallaxref1_Strings.f k (listB l) (listB l)) true := by
  have hb := listB_len l 200 hs
  have : (listB l).length ≤ 13 * 201 := Nat.le_trans hb (Nat.mul_le_mul_right _ hl)
  exact ⟨list_ev l (fun x hx => by have := hs x hx; omega) (by omega) (by omega), rlist_ev l (fun x hx => by have := hs x hx; omega) (by omega) (by omega), rstrings_refl _ (by omega)⟩

theorem loop (s set : ByteArray) (l : List ByteArray) (hs : s.size ≤ 80) (ht : set.size ≤ 20) (hl : l.length ≤ 12) (hx : ∀ x ∈ l, x.size ≤ 60) (y : List ByteArray) (hy : y.length ≤ 5) (hz : ∀ x ∈ y, x.size ≤ 200) (d : Nat) : ∀ i : Nat, i + d = y.length →
    Ev (fun k => parallaxlaw3_TextTells.l0 k s set l y (y.length : Int) (i : Int)) true := by
  induction d with
  | zero =>
    intro i hi
    obtain ⟨h1, h2, h3⟩ := both l (by omega) (fun x h => by have := hx x h; omega)
    obtain ⟨g1, g2, g3⟩ := both ([s] ++ l) (by simp; omega) (fun x h => by
      rcases List.mem_append.mp h with e | e
      · rw [List.mem_singleton.mp e]; omega
      · have := hx x e; omega)
    refine Ev.step (fun _ => parallaxlaw3_TextTells.l0.eq_2 ..) (Ev.neg (by omega) ?_)
    refine Ev.bind h1 (Ev.bind h2 (Ev.bind h3 (Ev.pos rfl ?_)))
    refine Ev.val rfl (Ev.pos (by simp; omega) (Ev.bind g1 (Ev.val rfl (Ev.pos (by simp; omega) (Ev.bind g2 (Ev.bind g3 (Ev.now _)))))))
  | succ d ih =>
    intro i hi
    have h9 : i < 9223372036854775807 := by omega
    have hm := hz _ (rdOf_mem y i (by omega))
    refine Ev.step (fun _ => parallaxlaw3_TextTells.l0.eq_2 ..) (Ev.pos (by omega) (Ev.pos (by omega) (Ev.pos (by omega) ?_)))
    rw [wrap_nat h9]
    have ih' := ih (i + 1) (by omega)
    generalize rdOf ByteArray.empty y (i : Int) = x at hm ⊢
    have hsl := LowP.size_lower x
    obtain ⟨g1, g2, g3⟩ := both [x] (by simp) (by simp; omega)
    refine Ev.val (lower_some (by omega)) (Ev.val (rlower_some (by omega)) (Ev.pos rfl ?_))
    refine Ev.val (same_some (by omega) (by omega)) (Ev.val (rsame_some (by omega) (by omega)) (Ev.neg (by simp) ?_))
    refine Ev.val (lower_some (by omega)) (Ev.val (same_some (by omega) (by omega)) (Ev.pos ?_ ?_))
    · rw [LowP.same_iff, LowP.bytes_lower, List.map_map]
      exact List.map_congr_left (fun c _ => (LowP.lo_lo c).symm)
    refine Ev.val (trim_some (by omega)) (Ev.bind (rtrim_ev x (by omega)) (Ev.pos rfl ?_))
    refine Ev.val (trimOf_some (by omega)) (Ev.bind (rtrimOf_ev x set (by omega) (by omega)) (Ev.pos rfl ?_))
    refine Ev.val (trimOf_some (by omega)) (Ev.bind (rtrimOf_ev x _ (by omega) (by decide)) (Ev.pos rfl ?_))
    exact Ev.bind g1 (Ev.bind g2 (Ev.bind g3 (Ev.pos rfl ih')))

theorem TextTells : parallaxlaw3_TextTells.Pure := by
  intro a0 a1 a2 l3 _ _ _ _
  refine Ev.rounds (g := fun k => parallaxlaw3_TextTells.f k a0 a1 a2 l3) ?_
  unfold parallaxlaw3_TextTells.f
  refine Ev.bind known_ev (Ev.pos rfl ?_)
  by_cases h0 : (a0.size : Int) > 80
  · exact Ev.pos h0 (Ev.now _)
  by_cases h1 : (a1.size : Int) > 80
  · exact Ev.neg h0 (Ev.pos h1 (Ev.now _))
  by_cases h2 : (a2.size : Int) > 20
  · exact Ev.neg h0 (Ev.neg h1 (Ev.pos h2 (Ev.now _)))
  obtain ⟨b, hb, hp⟩ := small_ev l3
  refine Ev.neg h0 (Ev.neg h1 (Ev.neg h2 (Ev.bind hb ?_)))
  cases b with
  | false => exact Ev.neg (by simp) (Ev.now _)
  | true =>
    obtain ⟨p1, p2⟩ := hp rfl
    have z1 : ((⟨#[32]⟩ : ByteArray) ++ a0).size = 1 + a0.size := by rw [ByteArray.size_append]; rfl
    have z2 : (a0 ++ (⟨#[44]⟩ : ByteArray)).size = a0.size + 1 := by rw [ByteArray.size_append]; rfl
    have z3 : ((⟨#[11]⟩ : ByteArray) ++ a0).size = 1 + a0.size := by rw [ByteArray.size_append]; rfl
    have z4 : (((⟨#[32]⟩ : ByteArray) ++ a0) ++ (⟨#[9]⟩ : ByteArray)).size = 1 + a0.size + 1 := by rw [ByteArray.size_append, z1]; rfl
    have z5 : ((a0 ++ (⟨#[44]⟩ : ByteArray)) ++ a1).size = a0.size + 1 + a1.size := by rw [ByteArray.size_append, z2]
    have z6 : (((⟨#[11]⟩ : ByteArray) ++ a0) ++ (⟨#[12, 32]⟩ : ByteArray)).size = 1 + a0.size + 2 := by rw [ByteArray.size_append, z3]; rfl
    refine Ev.pos rfl (Ev.pos (by omega) (Ev.pos (by omega) (Ev.pos (by omega) (Ev.pos (by omega) (Ev.pos (by omega) (Ev.val rfl ?_))))))
    refine loop a0 a2 l3 (by omega) (by omega) p1 p2 _ (by simp) ?_ 5 0 rfl
    intro x hx
    simp only [List.mem_cons, List.not_mem_nil, or_false] at hx
    rcases hx with e | e | e | e | e <;> rw [e] <;> omega

end Go.Proofs.YtjpgnkkfkkpheaaDoor.Pure
