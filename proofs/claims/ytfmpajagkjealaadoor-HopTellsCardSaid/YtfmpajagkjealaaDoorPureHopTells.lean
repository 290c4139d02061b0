/- It is proved that HopTells answers true at every input: what goes on to the next one of any fields is what the document says. -/
import Derived.Test.YtfmpajagkjealaaDoorPHopTellsx6
import Derived.Test.YtfmpajagkjealaaDoorTxtHopTells
namespace Go.Proofs.YtfmpajagkjealaaDoor.Pure
open Go.RowKit Go.Proofs.YtfmpajagkjealaaDoor.PHopTells Go.Proofs.YtfmpajagkjealaaDoorW.PrintWords Go.Proofs.YtfmpajagkjealaaDoorW.PrintLast Go.Proofs.YtfmpajagkjealaaDoor.Aid Go.Proofs.YtfmpajagkjealaaDoor.Parts

theorem with_some (l : List S28) (hl : l.length ≤ 100) (a b : ByteArray) : hop_with.f l a b = some (l ++ [(⟨a, b⟩ : S28)]) := by
  unfold hop_with.f api_Field.f
  rw [if_pos (by omega), Option.bind_some, if_pos (by omega)]
theorem rwith_some (l : List S28) (hl : l.length ≤ 100) (a b : ByteArray) : parallaxref17_with.f l a b = some (l ++ [(⟨a, b⟩ : S28)]) := by
  unfold parallaxref17_with.f
  rw [if_pos (by simp; omega), Option.bind_some, if_pos (by simp; omega)]; rfl
theorem via_some (l : List S28) (hl : l.length ≤ 100) (a : ByteArray) (ha : a.size ≤ 40) : hop_Via.f l a = parallaxref17_Via.f l a ∧ ∃ r, parallaxref17_Via.f l a = some r ∧ r.length ≤ 101 := by
  unfold hop_Via.f parallaxref17_Via.f
  rw [if_pos (by omega), if_pos (by omega), with_some l hl, rwith_some l hl]
  exact ⟨rfl, _, rfl, by simp; omega⟩
theorem from_some (l : List S28) (hl : l.length ≤ 100) (a : ByteArray) : hop_From.f l a = parallaxref17_From.f l a ∧ ∃ r, parallaxref17_From.f l a = some r ∧ r.length ≤ 101 := by
  unfold hop_From.f parallaxref17_From.f
  rw [with_some l hl, rwith_some l hl]
  exact ⟨rfl, _, rfl, by simp; omega⟩
theorem tells_end (x : List S28) (hl : x.length ≤ 100) (hz : ∀ y ∈ x, y.f0.size ≤ 200 ∧ y.f1.size ≤ 200) (a2 a3 : ByteArray) (h2 : a2.size ≤ 40) (l1 : List Int) (i : Nat) (hi : i = l1.length) : Ev (fun k => parallaxlaw18_HopTells.l0 k l1 a2 a3 x (i : Int)) true := by
  refine Ev.step (fun _ => parallaxlaw18_HopTells.l0.eq_2 ..) (Ev.neg (by omega) ?_)
  have hsl := strip_len x
  refine Ev.bind (strip_ev x hl hz) (Ev.bind (rstrip_ev x hl hz) (Ev.bind (rfields_refl _ (by omega)) (Ev.pos rfl ?_)))
  obtain ⟨e1, v, e2, hv⟩ := via_some x hl a2 h2
  obtain ⟨e3, f, e4, hf⟩ := from_some x hl a3
  refine Ev.val (e1.trans e2) (Ev.val e2 (Ev.bind (rfields_refl _ (by omega)) (Ev.pos rfl ?_)))
  refine Ev.val (e3.trans e4) (Ev.val e4 (Ev.bind (rfields_refl _ (by omega)) (Ev.pos rfl ?_)))
  refine Ev.val names_some (Ev.val rnames_some (Ev.bind (rstrings_refl _ (by decide)) (Ev.pos rfl ?_)))
  refine Ev.bind (strip_ev (stripB x) (by omega) (fun y hy => hz y (strip_sub x y hy))) ?_
  rw [strip_again]
  exact Ev.bind (rfields_refl _ (by omega)) (Ev.now _)
theorem tells_loop (l1 : List Int) (hl1 : l1.length ≤ 16) (hw : ∀ x ∈ l1, 0 ≤ x ∧ x < 256) (a2 a3 : ByteArray) (h2 : a2.size ≤ 40) (d : Nat) : ∀ (i : Nat) (x : List S28), i + d = l1.length → x.length ≤ 20 + i → (∀ y ∈ x, y.f0.size ≤ 200 ∧ y.f1.size ≤ 200) →
    Ev (fun k => parallaxlaw18_HopTells.l0 k l1 a2 a3 x (i : Int)) true := by
  induction d with
  | zero => intro i x hi hx hz; exact tells_end x (by omega) hz a2 a3 h2 l1 i (by omega)
  | succ d ih =>
    intro i x hi hx hz
    have h9 : i < 9223372036854775807 := by omega
    have hm : rd l1 (i : Int) ∈ l1 := by rw [rd_nat]; simp [List.getD_eq_getElem?_getD, show i < l1.length by omega]
    have hc := hw _ hm
    have ht : Int.tmod (rd l1 (i : Int)) 9 = (((rd l1 (i : Int)).toNat % 9 : Nat) : Int) := by rw [Int.tmod_eq_emod_of_nonneg hc.1]; omega
    have hu : (Int.tdiv (rd l1 (i : Int)) 9 % 256) % 6 = (((rd l1 (i : Int)).toNat / 9 % 6 : Nat) : Int) := by rw [Int.tdiv_eq_ediv_of_nonneg hc.1]; omega
    refine Ev.step (fun _ => parallaxlaw18_HopTells.l0.eq_2 ..) (Ev.pos (by omega) (Ev.val rfl (Ev.pos (by omega) ?_)))
    rw [wrap_nat h9, ht, hu]
    refine Ev.pos (by omega) (Ev.pos (by simp; omega) (Ev.val rfl (Ev.pos (by omega) (Ev.pos (by simp; omega) (Ev.pos (by omega) ?_)))))
    refine ih (i + 1) _ (by omega) (by simp; omega) ?_
    intro y hy
    rcases List.mem_append.mp hy with e | e
    · exact hz y e
    · rw [List.mem_singleton.mp e]
      have m1 := rdOf_mem [(⟨#[67, 111, 110, 110, 101, 99, 116, 105, 111, 110]⟩ : ByteArray), (⟨#[88]⟩ : ByteArray), (⟨#[72, 111, 115, 116]⟩ : ByteArray), (⟨#[85, 112, 103, 114, 97, 100, 101]⟩ : ByteArray), (⟨#[107, 101, 101, 112, 45, 97, 108, 105, 118, 101]⟩ : ByteArray), (⟨#[65]⟩ : ByteArray), (⟨#[67, 111, 110, 116, 101, 110, 116, 45, 76, 101, 110, 103, 116, 104]⟩ : ByteArray), (⟨#[84, 114, 97, 105, 108, 101, 114]⟩ : ByteArray), a2] ((rd l1 (i : Int)).toNat % 9) (by simp; omega)
      have m2 := rdOf_mem [(⟨#[120]⟩ : ByteArray), (⟨#[97, 44, 32, 99, 108, 111, 115, 101]⟩ : ByteArray), (⟨#[99, 111, 110, 116, 101, 110, 116, 45, 108, 101, 110, 103, 116, 104, 44, 32, 72, 79, 83, 84]⟩ : ByteArray), (⟨#[49]⟩ : ByteArray), (⟨#[]⟩ : ByteArray), a2] ((rd l1 (i : Int)).toNat / 9 % 6) (by simp; omega)
      simp only [List.mem_cons, List.not_mem_nil, or_false] at m1 m2
      constructor
      · rcases m1 with e | e | e | e | e | e | e | e | e <;> simp only [e] <;> first | decide | omega
      · rcases m2 with e | e | e | e | e | e <;> simp only [e] <;> first | decide | omega
theorem HopTells : parallaxlaw18_HopTells.Pure := by
  intro l0 l1 a2 a3 hl0 _ _ hw h2 h3
  refine Ev.rounds (g := fun k => parallaxlaw18_HopTells.f k l0 l1 a2 a3) ?_
  unfold parallaxlaw18_HopTells.f
  refine Ev.bind known_ev (Ev.pos rfl ?_)
  obtain ⟨b, hb, hp⟩ := hfields2_ev l0 hl0.2
  refine Ev.bind hb ?_
  cases b with
  | false => exact Ev.neg (by simp) (Ev.now _)
  | true =>
    obtain ⟨p1, p2⟩ := hp rfl
    refine Ev.pos rfl ?_
    by_cases c1 : (l1.length : Int) > 16
    · exact Ev.pos c1 (Ev.now _)
    by_cases c2 : (a2.size : Int) > 40
    · exact Ev.neg c1 (Ev.pos c2 (Ev.now _))
    by_cases c3 : (a3.size : Int) > 40
    · exact Ev.neg c1 (Ev.neg c2 (Ev.pos c3 (Ev.now _)))
    refine Ev.neg c1 (Ev.neg c2 (Ev.neg c3 (Ev.pos (by simp; omega) ?_)))
    exact tells_loop l1 (by omega) (fun x hx => u8_wf (hw x hx)) a2 a3 (by omega) l1.length 0 _ (by omega) (by simp; omega) (fun y hy => by have := p2 y (by simpa using hy); omega)
end Go.Proofs.YtfmpajagkjealaaDoor.Pure
