/- It is proved that QuirksTell answers true at every input: a profile's clauses, their names, and which can take effect. -/
import Derived.Test.YtjnphebgbdjohaaDoorPQuirksTellx5
import Derived.Test.YtjnphebgbdjohaaDoorTxtQuirksTell
namespace Go.Proofs.YtjnphebgbdjohaaDoor.Pure
open Go.RowKit Go.Proofs.YtjnphebgbdjohaaDoor.PQuirksTell Go.Proofs.YtjnphebgbdjohaaDoorW.PrintWords Go.Proofs.YtjnphebgbdjohaaDoorW.PrintLast Go.Proofs.YtjnphebgbdjohaaDoorW.PrintMore Go.Proofs.YtjnphebgbdjohaaDoor.Aid

def namesT : List ByteArray := [(⟨#[101, 109, 112, 116, 121]⟩ : ByteArray), (⟨#[98, 97, 114, 101, 108, 102]⟩ : ByteArray), (⟨#[98, 97, 114, 101, 99, 114]⟩ : ByteArray), (⟨#[98, 108, 97, 110, 107, 115]⟩ : ByteArray), (⟨#[109, 105, 110, 111, 114]⟩ : ByteArray), (⟨#[97, 110, 121, 99, 97, 115, 101]⟩ : ByteArray), (⟨#[110, 111, 118, 101, 114, 115, 105, 111, 110]⟩ : ByteArray), (⟨#[115, 112, 97, 99, 101, 115]⟩ : ByteArray), (⟨#[99, 111, 110, 116, 114, 111, 108, 115]⟩ : ByteArray), (⟨#[99, 111, 108, 111, 110, 115, 112, 97, 99, 101]⟩ : ByteArray), (⟨#[110, 97, 109, 101, 98, 121, 116, 101, 115]⟩ : ByteArray), (⟨#[110, 111, 99, 111, 108, 111, 110]⟩ : ByteArray), (⟨#[110, 111, 110, 97, 109, 101]⟩ : ByteArray), (⟨#[102, 111, 108, 100]⟩ : ByteArray), (⟨#[118, 97, 108, 117, 101, 98, 121, 116, 101, 115]⟩ : ByteArray), (⟨#[110, 111, 104, 111, 115, 116]⟩ : ByteArray), (⟨#[109, 97, 110, 121, 104, 111, 115, 116, 115]⟩ : ByteArray), (⟨#[116, 101, 98, 108, 97, 110, 107, 115]⟩ : ByteArray), (⟨#[116, 101, 108, 105, 115, 116]⟩ : ByteArray), (⟨#[116, 101, 105, 103, 110, 111, 114, 101]⟩ : ByteArray), (⟨#[116, 101, 111, 108, 100]⟩ : ByteArray), (⟨#[116, 101, 119, 105, 110, 115]⟩ : ByteArray), (⟨#[99, 108, 119, 105, 110, 115]⟩ : ByteArray), (⟨#[99, 108, 112, 108, 117, 115]⟩ : ByteArray), (⟨#[99, 108, 99, 111, 109, 109, 97]⟩ : ByteArray), (⟨#[99, 108, 102, 105, 114, 115, 116]⟩ : ByteArray), (⟨#[99, 108, 108, 97, 115, 116]⟩ : ByteArray), (⟨#[99, 104, 117, 110, 107, 104, 101, 120]⟩ : ByteArray), (⟨#[99, 104, 117, 110, 107, 98, 108, 97, 110, 107, 115]⟩ : ByteArray), (⟨#[99, 104, 117, 110, 107, 101, 110, 100]⟩ : ByteArray)]
theorem nlen : namesT.length = 30 := rfl
theorem qnames : quirks_names.f = some namesT := by kernel_rfl
theorem rnames : parallaxref4_names.f = some namesT := rfl
/-- a clause's name -/
def nameB (c : Int) : ByteArray := if 0 ≤ c ∧ c < 30 then rdOf ByteArray.empty namesT c else (⟨#[]⟩ : ByteArray)
theorem qname (c : Int) : quirks_Name.f c = some (nameB c) := by
  unfold quirks_Name.f nameB
  rw [qknown, Option.bind_some]
  by_cases h : 0 ≤ c ∧ c < 30
  · rw [if_pos (decide_eq_true h), qnames, Option.bind_some, if_pos h.1, if_pos (show c < (namesT.length : Int) by rw [nlen]; omega), if_pos h]
  · rw [if_neg (by simpa using h), if_neg h]
theorem rname (c : Int) : parallaxref4_Name.f c = some (nameB c) := by
  unfold parallaxref4_Name.f nameB
  by_cases h0 : c < 0
  · rw [if_pos h0, if_neg (by omega)]
  · by_cases h1 : c ≥ 30
    · rw [if_neg h0, if_pos h1, if_neg (by omega)]
    · rw [if_neg h0, if_neg h1, rnames, Option.bind_some, if_pos (by omega), if_pos (show c < (namesT.length : Int) by rw [nlen]; omega), if_pos (by omega)]
/-- what Find tells -/
def findI (s : ByteArray) : Int × Bool := (mx (idxL namesT s) 0, decide (idxL namesT s ≥ 0))
theorem qfind (s : ByteArray) : Ev (fun k => quirks_Find.f k s) (findI s) := by
  unfold quirks_Find.f
  exact Ev.val qnames (Ev.bind (idx_ev namesT s (by decide)) (Ev.now _))
theorem rfind_loop (l : List ByteArray) (s : ByteArray) (hl : l.length < 9223372036854775807) (d : Nat) : ∀ i : Nat, i + d = l.length → Ev (fun k => parallaxref4_Find.l0 k s l (i : Int)) (if idxL (l.drop i) s < 0 then (0, false) else ((i : Int) + idxL (l.drop i) s, true)) := by
  induction d with
  | zero =>
    intro i hi
    refine Ev.step (fun _ => parallaxref4_Find.l0.eq_2 ..) (Ev.neg (by omega) ((Ev.now _).to ?_))
    rw [List.drop_of_length_le (by omega)]; rfl
  | succ d ih =>
    intro i hi
    have hg := idxL_ge (l.drop (i + 1)) s
    rw [drop_rdOf ByteArray.empty l i (by omega)]
    refine Ev.step (fun _ => parallaxref4_Find.l0.eq_2 ..) (Ev.pos (by omega) (Ev.pos (by omega) ?_))
    by_cases he : s.toList = (rdOf ByteArray.empty l (i : Int)).toList
    · refine Ev.pos he.symm ((Ev.now _).to ?_)
      unfold idxL; rw [if_pos he]; simp
    · refine Ev.neg (fun h => he h.symm) ?_
      rw [wrap_nat (by omega)]
      refine (ih (i + 1) (by omega)).to ?_
      conv => rhs; unfold idxL
      rw [if_neg he]
      by_cases h0 : idxL (l.drop (i + 1)) s < 0
      · rw [if_pos h0, if_pos h0]; rfl
      · rw [if_neg h0, if_neg h0, if_neg (by omega), show ((i + 1 : Nat) : Int) + idxL (l.drop (i + 1)) s = (i : Int) + (idxL (l.drop (i + 1)) s + 1) by omega]
theorem rfind (s : ByteArray) : Ev (fun k => parallaxref4_Find.f k s) (findI s) := by
  unfold parallaxref4_Find.f
  refine Ev.val rnames ((rfind_loop namesT s (by decide) 30 0 (by decide)).to ?_)
  rw [List.drop_zero]
  unfold findI mx
  have := idxL_ge namesT s
  by_cases h : idxL namesT s < 0
  · rw [if_pos h, if_pos h, decide_eq_false (by omega)]
  · rw [if_neg h, if_neg h, decide_eq_true (by omega)]; simp
theorem find_tab : ∀ j : Fin 30, findI (nameB (j.val : Int)) = ((j.val : Int), true) := by decide +kernel
theorem find_nil : findI (⟨#[]⟩ : ByteArray) = (0, false) := by decide +kernel
theorem find_name (c : Int) : findI (nameB c) = if 0 ≤ c ∧ c < 30 then (c, true) else (0, false) := by
  by_cases h : 0 ≤ c ∧ c < 30
  · rw [if_pos h]
    obtain ⟨m, rfl⟩ : ∃ m : Nat, c = (m : Int) := ⟨c.toNat, by omega⟩
    exact find_tab ⟨m, by omega⟩
  · rw [if_neg h]
    unfold nameB; rw [if_neg h]; exact find_nil
theorem tell_loop (a b p : Nat) (ha : a < 4294967296) (hb : b < 256) (hp : p < 1073741824) (l3 : List Int) (hl3 : l3.length ≤ 40) (s : ByteArray) (u0 u1 u2 u3 u4 u5 u6 u7 : Int) (u8 u9 : Bool) (l : List Int) (hl : l.length ≤ 3) (d : Nat) : ∀ i : Nat, i + d = l.length →
    Ev (fun k => parallaxlaw5_QuirksTell.l0 k (a : Int) (b : Int) l3 s (p : Int) l (l.length : Int) (i : Int) u0 u1 u2 u3 u4 u5 u6 u7 u8 u9) true := by
  have hpl := clausesB_len p
  induction d with
  | zero =>
    intro i hi
    refine Ev.step (fun _ => parallaxlaw5_QuirksTell.l0.eq_2 ..) (Ev.neg (by omega) (Ev.bind (qfind s) (Ev.bind (rfind s) (Ev.pos rfl (Ev.pos (by simp) ?_)))))
    refine Ev.val (right_some a) (Ev.val rfl (Ev.pos ?_ ?_))
    · rw [beq_iff_eq]; exact decide_eq_decide.mpr (by omega)
    refine Ev.bind (of_ev l3 (by omega)) (Ev.bind (rof_ev l3 (by omega)) (Ev.pos rfl ?_))
    refine Ev.bind (qlist_ev p (by omega)) (Ev.bind (rlist_ev p (by omega)) (Ev.bind (rints_refl _ (by omega)) (Ev.pos rfl ?_)))
    refine Ev.bind (qlist_ev p (by omega)) (Ev.bind (of_ev _ (by omega)) ((Ev.now _).to ?_))
    rw [prof_list p hp]; simp
  | succ d ih =>
    intro i hi
    obtain ⟨bd, _, hbd⟩ := bounds_ev (n := (b : Int)) (by omega) (by omega)
    have hn := ih (i + 1) (by omega)
    have hf := find_name (rd l (i : Int))
    refine Ev.step (fun _ => parallaxlaw5_QuirksTell.l0.eq_2 ..) (Ev.pos (by omega) (Ev.pos (by omega) (Ev.pos (by omega) ?_)))
    rw [wrap_nat (by omega)]
    generalize rd l (i : Int) = x at hf ⊢
    refine Ev.val (qhas_some p (by omega) x) (Ev.val (rhas_some p (by omega) x) (Ev.neg (by simp) (Ev.val (qhas_some a ha x) (Ev.val (rhas_some a ha x) (Ev.neg (by simp) (Ev.val (qname x) (Ev.val (rname x) (Ev.pos rfl ?_))))))))
    refine Ev.bind (needs_ev x p (by omega) u0 u1 u2 u3 u4 u5 u6 u7 u8 u9) (Ev.bind (rneeds_ev x p (by omega) u0 u1 u2 u3 u4 u5 u6 u7 u8 u9) (Ev.neg (by simp) (Ev.bind hbd (Ev.bind (needs_ev x p (by omega) _ _ _ _ _ _ _ _ _ _) (Ev.bind hbd (Ev.bind (rneeds_ev x p (by omega) _ _ _ _ _ _ _ _ _ _) (Ev.neg (by simp) (Ev.val (qname x) (Ev.bind (qfind (nameB x)) ?_)))))))))
    rw [hf]
    by_cases h0 : x ≥ 0
    · refine Ev.pos h0 ?_
      by_cases h1 : x < 30
      · rw [if_pos ⟨h0, h1⟩]
        exact Ev.neg (by simp [h1]) (Ev.pos rfl (Ev.pos rfl hn))
      · rw [if_neg (by omega)]
        exact Ev.neg (by simp; omega) (Ev.neg (by simp) hn)
    · rw [if_neg (by omega)]
      exact Ev.neg h0 (Ev.neg (by simp) (Ev.neg (by simp) hn))
theorem QuirksTell : parallaxlaw5_QuirksTell.Pure := by
  intro a0 a1 a2 l3 a4 u0 u1 u2 u3 u4 u5 u6 u7 u8 u9 h0 h1 _ _ _ _ _ _
  refine Ev.rounds (g := fun k => parallaxlaw5_QuirksTell.f k a0 a1 a2 l3 a4 u0 u1 u2 u3 u4 u5 u6 u7 u8 u9) ?_
  have r0 := u32_wf h0
  have r1 := u8_wf h1
  obtain ⟨a, rfl⟩ : ∃ n : Nat, a0 = (n : Int) := ⟨a0.toNat, by omega⟩
  obtain ⟨b, rfl⟩ : ∃ n : Nat, a1 = (n : Int) := ⟨a1.toNat, by omega⟩
  unfold parallaxlaw5_QuirksTell.f
  refine Ev.bind known_ev (Ev.pos rfl ?_)
  by_cases c1 : (l3.length : Int) > 40
  · exact Ev.pos c1 (Ev.now _)
  refine Ev.neg c1 ?_
  by_cases c2 : (a4.size : Int) > 20
  · exact Ev.pos c2 (Ev.now _)
  refine Ev.neg c2 ?_
  obtain ⟨p, hp, hP⟩ := profile_ev a b (by omega)
  exact Ev.bind hP (Ev.val rfl (tell_loop a b p (by omega) (by omega) hp l3 (by omega) a4 u0 u1 u2 u3 u4 u5 u6 u7 u8 u9 _ (Nat.le_refl _) 3 0 rfl))
end Go.Proofs.YtjnphebgbdjohaaDoor.Pure
