/- It is proved that FieldTells answers true at every input: the reader of a field's line and the reader of the same rules, written anew, tell the same under every profile, and what they write is the same. -/
import Derived.Test.YtijcibdpcolfpaaDoorPFieldTellsx11
import Derived.Test.YtijcibdpcolfpaaDoorTxtFieldTells
namespace Go.Proofs.YtijcibdpcolfpaaDoor.Pure
open Go.RowKit Go.Proofs.YtijcibdpcolfpaaDoor.PFieldTells Go.Proofs.YtijcibdpcolfpaaDoorW.PrintWords Go.Proofs.YtijcibdpcolfpaaDoorW.PrintLast Go.Proofs.YtijcibdpcolfpaaDoorW.PrintMore Go.Proofs.YtijcibdpcolfpaaDoor.Aid Go.Proofs.YtijcibdpcolfpaaDoor.Parts

theorem puts_same (n v : ByteArray) (hs : n.size + v.size ≤ 120) : Ev (fun k => (field_Right.f k n v).bind fun t313 => ((parallaxref9_Right.f k n v).bind fun t314 => (if (t313 == t314) = true then ((field_Put.f (([(⟨n, v⟩ : S25), (⟨n, v⟩ : S25)] : List (S25)))).bind fun t318 => ((parallaxref9_Put.f k (([(⟨n, v⟩ : S25), (⟨n, v⟩ : S25)] : List (S25)))).bind fun t322 => (some (t318.toList == t322.toList)))) else (some false)))) true := by
  have hz : ∀ x ∈ [(⟨n, v⟩ : S25), (⟨n, v⟩ : S25)], x.f0.size ≤ 1000000000 ∧ x.f1.size ≤ 1000000000 := by
    intro x hx
    simp only [List.mem_cons, List.not_mem_nil, or_false, or_self] at hx
    subst hx
    exact ⟨by show n.size ≤ _; omega, by show v.size ≤ _; omega⟩
  exact Ev.bind (fright_eq n v (by omega)) (Ev.bind (rright_ev n v (by omega)) (Ev.pos (by simp) (Ev.val (fput_some _ (by simp) hz) (Ev.bind (rfput_ev _ (by simp) hz) ((Ev.now _).to (by simp))))))
theorem tells_l1 (n v z : ByteArray) (a p0 : Int) (hv : v.size ≤ 120) (hz : z.size ≤ 100000) (T : List ByteArray) (X i0 : Int) (q : List Int) (hl : q.length ≤ 10) (hq : ∀ i : Nat, i < q.length → ∃ p : Nat, p < 4294967296 ∧ rd q (i : Int) = (p : Int)) (hk : Ev (fun k => parallaxlaw9_FieldTells.l0 k a p0 T X (wrap64 (i0 + 1)) n v) true) (d : Nat) : ∀ i : Nat, i + d = q.length → Ev (fun k => parallaxlaw9_FieldTells.l1 k a p0 z T X i0 q (q.length : Int) (i : Int) n v) true := by
  induction d with
  | zero =>
    intro i hi
    obtain ⟨r, j1, j2⟩ := join_ev n v z (by omega) (by omega)
    exact Ev.step (fun _ => parallaxlaw9_FieldTells.l1.eq_2 ..) (Ev.neg (by omega) (Ev.val j1 (Ev.bind j2 (Ev.neg (by simp) hk))))
  | succ d ih =>
    intro i hi
    have h9 : i < 9223372036854775807 := by omega
    obtain ⟨p, hp, e⟩ := hq i (by omega)
    refine Ev.step (fun _ => parallaxlaw9_FieldTells.l1.eq_2 ..) (Ev.pos (by omega) (Ev.pos (by omega) (Ev.pos (by omega) ?_)))
    rw [wrap_nat h9, e]
    exact Ev.bind (fparse_ev z (by omega) p hp) (Ev.bind (rparse_ev z (by omega) p hp) (Ev.neg (by simp) (Ev.neg (by simp) (Ev.pos rfl (Ev.val (fgoes_some z p hp) (Ev.val (rgoes_some z p hp) (Ev.neg (by simp) (ih (i + 1) (by omega)))))))))
theorem tells_l0 (n v : ByteArray) (hs : n.size + v.size ≤ 120) (a p : Nat) (ha : a < 4294967296) (hp : p < 1073741824) (T : List ByteArray) (hT : T.length ≤ 3) (hz : ∀ x ∈ T, x.size ≤ 100000) (d : Nat) : ∀ i : Nat, i + d = T.length → Ev (fun k => parallaxlaw9_FieldTells.l0 k (a : Int) (p : Int) T (T.length : Int) (i : Int) n v) true := by
  induction d with
  | zero =>
    intro i hi
    exact Ev.step (fun _ => parallaxlaw9_FieldTells.l0.eq_2 ..) (Ev.neg (by omega) (puts_same n v hs))
  | succ d ih =>
    intro i hi
    have h9 : i < 9223372036854775807 := by omega
    have hm := hz _ (rdOf_mem T i (by omega))
    have hk := ih (i + 1) (by omega)
    refine Ev.step (fun _ => parallaxlaw9_FieldTells.l0.eq_2 ..) (Ev.pos (by omega) (Ev.pos (by omega) (Ev.pos (by omega) ?_)))
    refine Ev.bind (rof_ev [9, 12] (by decide)) (Ev.bind (rof_ev [10] (by decide)) (Ev.val rfl ?_))
    rw [bits_mask32 a ha]
    have b1 := profB_lt [9, 12] 0 (by decide)
    have b2 := profB_lt [10] 0 (by decide)
    generalize profB [9, 12] 0 = r1 at b1 ⊢
    generalize profB [10] 0 = r2 at b2 ⊢
    refine tells_l1 n v _ _ _ (by omega) hm T _ _ _ (by simp) ?_ (by rw [wrap_nat h9]; exact hk) 5 0 rfl
    intro j hj
    match j, hj with
    | 0, _ => exact ⟨0, by decide, rfl⟩
    | 1, _ => exact ⟨p, by omega, rfl⟩
    | 2, _ => exact ⟨a % 1073741824, by omega, rfl⟩
    | 3, _ => exact ⟨r1, by omega, rfl⟩
    | 4, _ => exact ⟨r2, by omega, rfl⟩
theorem FieldTells : parallaxlaw9_FieldTells.Pure := by
  intro a0 l1 a2 a3 a4 a5 n v h0 _ _ hw h2 h3 h4 h5 h6
  refine Ev.rounds (g := fun k => parallaxlaw9_FieldTells.f k a0 l1 a2 a3 a4 a5 n v) ?_
  obtain ⟨a, rfl⟩ : ∃ m : Nat, a2 = (m : Int) := ⟨a2.toNat, by have := u32_wf h2; omega⟩
  obtain ⟨b, rfl⟩ : ∃ m : Nat, a3 = (m : Int) := ⟨a3.toNat, by have := u8_wf h3; omega⟩
  have ha : a < 4294967296 := by have := u32_wf h2; omega
  unfold parallaxlaw9_FieldTells.f
  refine Ev.bind known_ev (Ev.pos rfl ?_)
  by_cases c1 : (a0.size : Int) > 80
  · exact Ev.pos c1 (Ev.now _)
  by_cases c2 : (l1.length : Int) > 12
  · exact Ev.neg c1 (Ev.pos c2 (Ev.now _))
  obtain ⟨r, e, hr⟩ := hfields2_ev [(⟨n, v⟩ : S25)] (by
    intro x hx
    simp only [List.mem_cons, List.not_mem_nil, or_false] at hx
    subst hx
    exact h6)
  refine Ev.neg c1 (Ev.neg c2 (Ev.bind e ?_))
  by_cases c3 : r = true
  · have hs := (hr c3).2 _ (List.mem_cons_self ..)
    obtain ⟨p, hp, ep⟩ := profile_ev a b ha
    obtain ⟨t, ht, hte⟩ := seat_field a4 a5 (u8_wf h5)
    have hss := some_size l1
    refine Ev.pos c3 (Ev.bind ep (Ev.bind (some_ev l1 (by omega) (fun x hx => u8_wf (hw x hx))) (Ev.val hte (Ev.val rfl ?_))))
    refine tells_l0 n v hs a p ha hp _ (by simp) ?_ 3 0 rfl
    intro x hx
    simp only [List.mem_cons, List.not_mem_nil, or_false] at hx
    rcases hx with e | e | e <;> rw [e] <;> omega
  · exact Ev.neg c3 (Ev.now _)
end Go.Proofs.YtijcibdpcolfpaaDoor.Pure
