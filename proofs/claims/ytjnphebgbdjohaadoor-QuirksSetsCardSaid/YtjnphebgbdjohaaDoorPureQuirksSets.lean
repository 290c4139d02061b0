/- It is proved that QuirksSets answers true for every two profiles and every clause: profiles are sets of clauses. -/
import Derived.Test.YtjnphebgbdjohaaDoorPQuirksSetsx2
import Derived.Test.YtjnphebgbdjohaaDoorTxtQuirksSets
namespace Go.Proofs.YtjnphebgbdjohaaDoor.Pure
open Go.RowKit Go.Proofs.YtjnphebgbdjohaaDoor.PQuirksSets Go.Proofs.YtjnphebgbdjohaaDoorW.PrintWords Go.Proofs.YtjnphebgbdjohaaDoorW.PrintLast Go.Proofs.YtjnphebgbdjohaaDoorW.PrintMore Go.Proofs.YtjnphebgbdjohaaDoor.Aid

theorem sets_at (k : Nat) (p q c : Nat) (hp : p < 1073741824) (hq : q < 1073741824) (hc : c < 30) (a0 a1 a2 : Int) (e0 : Go.bits .and .u32 a0 1073741823 = (p : Int)) (e1 : Go.bits .and .u32 a1 1073741823 = (q : Int)) (e2 : wrap64 (Int.tmod a2 30) = (c : Int))
    (H0 : parallaxlaw5_known.f k = some true) (H1 : quirks_List.f k (p : Int) = some (clausesB p)) (H2 : quirks_List.f k (q : Int) = some (clausesB q)) (H3 : quirks_Of.f k (clausesB p ++ clausesB q) = some ((p ||| q : Nat) : Int)) (H4 : quirks_Of.f k [] = some 0) (H5 : quirks_List.f k 0 = some []) : parallaxlaw5_QuirksSets.f k a0 a1 a2 = some true := by
  have hor := or_lt hp hq
  have hand : p &&& q < 1073741824 := Nat.and_lt_two_pow (n := 30) p hq
  have g1 := qhas_some (p ||| q) (by omega) (c : Int)
  have g2 := qhas_some p (by omega) (c : Int)
  have g3 := qhas_some q (by omega) (c : Int)
  have g4 := qhas_some (p &&& q) (by omega) (c : Int)
  have g5 := qhas_some p (by omega) 30
  have g6 := qhas_some p (by omega) (-1)
  rw [hasB_nat _ _ hc] at g1 g2 g3 g4
  rw [Nat.testBit_or] at g1
  rw [Nat.testBit_and] at g4
  rw [hasB_far (by omega)] at g5 g6
  have g7 := right_some p
  rw [decide_eq_true hp] at g7
  have l1 := clausesB_len p
  have l2 := clausesB_len q
  have m1 := bits_or32 p q (by omega) (by omega)
  have m2 := bits_and32 p q (by omega) (by omega)
  have hlen : (clausesB p).length + (clausesB q).length < 17592186044416 := by omega
  unfold parallaxlaw5_QuirksSets.f
  simp only [e0, e1, e2, m1, m2, H0, H1, H2, H3, H4, H5, g1, g2, g3, g4, g5, g6, g7, Option.bind_some, if_true, if_pos hlen]
  generalize p.testBit c = x
  generalize q.testBit c = y
  cases x <;> cases y <;> simp

theorem QuirksSets : parallaxlaw5_QuirksSets.Pure := by
  intro a0 a1 a2 h0 h1 h2
  have r0 := u32_wf h0
  have r1 := u32_wf h1
  have r2 := u8_wf h2
  obtain ⟨a, rfl⟩ : ∃ n : Nat, a0 = (n : Int) := ⟨a0.toNat, by omega⟩
  obtain ⟨b, rfl⟩ : ∃ n : Nat, a1 = (n : Int) := ⟨a1.toNat, by omega⟩
  obtain ⟨c, rfl⟩ : ∃ n : Nat, a2 = (n : Int) := ⟨a2.toNat, by omega⟩
  have hp : a % 1073741824 < 1073741824 := Nat.mod_lt _ (by decide)
  have hq : b % 1073741824 < 1073741824 := Nat.mod_lt _ (by decide)
  have hc : c % 30 < 30 := Nat.mod_lt _ (by decide)
  have l1 := clausesB_len (a % 1073741824)
  have l2 := clausesB_len (b % 1073741824)
  obtain ⟨k0, H0⟩ := known_ev
  obtain ⟨k1, H1⟩ := qlist_ev (a % 1073741824) (by omega)
  obtain ⟨k2, H2⟩ := qlist_ev (b % 1073741824) (by omega)
  obtain ⟨k3, H3⟩ := of_ev (clausesB (a % 1073741824) ++ clausesB (b % 1073741824)) (by rw [List.length_append]; omega)
  obtain ⟨k4, H4⟩ := of_ev [] (by decide)
  obtain ⟨k5, H5⟩ := qlist_ev 0 (by decide)
  rw [prof_lists _ _ hp hq] at H3
  refine ⟨k0 + k1 + k2 + k3 + k4 + k5, sets_at _ (a % 1073741824) (b % 1073741824) (c % 30) hp hq hc _ _ _ (bits_mask32 a (by omega)) (bits_mask32 b (by omega)) ?_ (H0 _ (by omega)) (H1 _ (by omega)) (H2 _ (by omega)) (H3 _ (by omega)) (H4 _ (by omega)) ?_⟩
  · rw [Int.tmod_eq_emod_of_nonneg (by omega)]; exact wrap_in (by omega) (by omega)
  · have := H5 (k0 + k1 + k2 + k3 + k4 + k5) (by omega)
    rw [show clausesB 0 = [] by decide] at this
    exact this

end Go.Proofs.YtjnphebgbdjohaaDoor.Pure
