/- It is proved that QuirksNeed answers true for every clause, every profile and every bounds of these two kinds: what each clause needs. -/
import Derived.Test.YtjnphebgbdjohaaDoorPQuirksNeedx3
import Derived.Test.YtjnphebgbdjohaaDoorTxtQuirksNeed
namespace Go.Proofs.YtjnphebgbdjohaaDoor.Pure
open Go.RowKit Go.Proofs.YtjnphebgbdjohaaDoor.PQuirksNeed Go.Proofs.YtjnphebgbdjohaaDoorW.PrintWords Go.Proofs.YtjnphebgbdjohaaDoorW.PrintLast Go.Proofs.YtjnphebgbdjohaaDoorW.PrintMore Go.Proofs.YtjnphebgbdjohaaDoor.Aid

/-- what the law asks at the end -/
theorem ends (c p : Nat) (hp : p < 1073741824) (ch old w : Bool) (h : needsB (c : Int) p ch old = w) :
    Ev (fun k => (quirks_Needs.f k (c : Int) (p : Int) 0 0 0 0 0 0 0 0 ch old).bind fun t => if (t == w) = true then ((quirks_Needs.f k (-1) (p : Int) 0 0 0 0 0 0 0 0 ch old).bind fun t => if t = true then some false else ((quirks_Needs.f k 30 (p : Int) 0 0 0 0 0 0 0 0 ch old).bind fun t => some (!t))) else some false) true := by
  have n1 : needsB (-1) p ch old = false := by unfold needsB; simp
  have n2 : needsB 30 p ch old = false := by unfold needsB; simp
  refine Ev.bind (needs_ev (c : Int) p (by omega) 0 0 0 0 0 0 0 0 ch old) (Ev.pos (by rw [h]; exact beq_self_eq_true _) ?_)
  refine Ev.bind ((needs_ev (-1) p (by omega) 0 0 0 0 0 0 0 0 ch old).to n1) (Ev.neg (by simp) ?_)
  exact Ev.bind ((needs_ev 30 p (by omega) 0 0 0 0 0 0 0 0 ch old).to n2) (Ev.now _)
theorem bit_of (p m c : Nat) (hp : p < 1073741824) (hc : c < 30) (hm : m = 2 ^ c) : Go.bits .and .u32 ((p : Int) / (m : Int)) 1 = (if hasB p (c : Int) = true then 1 else 0) := by
  have h := bit_at p c (by omega) (by omega)
  rw [← hasB_nat p c hc] at h
  unfold shr at h
  rw [Int.toNat_natCast, show min c IntKind.u32.bits = c from Nat.min_eq_left (by show c ≤ 32; omega), show ((2 : Int) ^ c) = ((m : Nat) : Int) by rw [hm]; simp] at h
  have h01 : Go.bits .and .u32 ((p : Int) / (m : Int)) 1 = 0 ∨ Go.bits .and .u32 ((p : Int) / (m : Int)) 1 = 1 := by
    have hd : p / m ≤ p := Nat.div_le_self _ _
    rw [← Int.natCast_ediv, show (1 : Int) = ((1 : Nat) : Int) from rfl, bits_and32 _ _ (by omega) (by omega), Nat.and_one_is_mod]
    omega
  rw [← h]
  rcases h01 with e | e <;> rw [e] <;> rfl
theorem j_ev (c p : Nat) (hp : p < 1073741824) (ch old b : Bool) (h6 : c ≠ 6) (h17 : c ≠ 17) (hc30 : c < 30) (hb : b = decide ((c : Int) = 18 ∨ (c : Int) = 21 ∨ (c : Int) = 27 ∨ (c : Int) = 28 ∨ (c : Int) = 29)) :
    Ev (fun k => parallaxlaw5_QuirksNeed.j0 k ch old (c : Int) (p : Int) true (c : Int) b 0 0 0 0 0 0 0 0 ch old) true := by
  have b19 := bit_of p 524288 19 hp (by decide) (by decide)
  have b22 := bit_of p 4194304 22 hp (by decide) (by decide)
  have b21 := bit_of p 2097152 21 hp (by decide) (by decide)
  have b25 := bit_of p 33554432 25 hp (by decide) (by decide)
  have E := fun w h => ends c p hp ch old w h
  unfold needsB at E
  rw [if_neg (by omega : ¬ (c : Int) = 6), if_neg (by omega : ¬ (c : Int) = 17)] at E
  refine Ev.step (fun _ => parallaxlaw5_QuirksNeed.j0.eq_2 ..) ?_
  by_cases h : (c : Int) = 18 ∨ (c : Int) = 21 ∨ (c : Int) = 27 ∨ (c : Int) = 28 ∨ (c : Int) = 29
  · exact Ev.pos (by rw [hb]; exact decide_eq_true h) (E ch (if_pos h))
  refine Ev.neg (by rw [hb]; simpa using h) ?_
  rw [if_neg h] at E
  by_cases h20 : (c : Int) = 20
  · rw [if_pos h20] at E
    refine Ev.pos h20 ?_
    cases old with
    | false => exact Ev.neg (by simp) (E false rfl)
    | true =>
      refine Ev.pos rfl ?_
      cases ch with
      | true => exact Ev.pos rfl (E true rfl)
      | false =>
        refine Ev.neg (by simp) ?_
        rw [show ((524288 : Nat) : Int) = 524288 from rfl, show ((19 : Nat) : Int) = 19 from rfl] at b19
        rw [show ((4194304 : Nat) : Int) = 4194304 from rfl, show ((22 : Nat) : Int) = 22 from rfl] at b22
        rw [show ((2097152 : Nat) : Int) = 2097152 from rfl, show ((21 : Nat) : Int) = 21 from rfl] at b21
        rw [b19, b22, b21]
        cases h19 : hasB p 19 with
        | true => exact Ev.pos (by simp) (E true (by simp [h19]))
        | false =>
          refine Ev.neg (by simp) ?_
          cases h22 : hasB p 22 with
          | true =>
            refine Ev.pos (by simp) (E _ ?_)
            rw [h19, h22]
            cases hasB p 21 <;> rfl
          | false => exact Ev.neg (by simp) (E false (by simp [h19, h22]))
  refine Ev.neg h20 ?_
  rw [if_neg h20] at E
  by_cases h22 : (c : Int) = 22
  · have h26 : ¬ (c : Int) = 26 := by omega
    rw [if_neg h26, if_pos h22] at E
    rw [show ((2097152 : Nat) : Int) = 2097152 from rfl, show ((21 : Nat) : Int) = 21 from rfl] at b21
    rw [b21]
    exact Ev.pos h22 (E _ (by cases hasB p 21 <;> rfl))
  refine Ev.neg h22 ?_
  by_cases h26 : (c : Int) = 26
  · rw [if_pos h26] at E
    rw [show ((33554432 : Nat) : Int) = 33554432 from rfl, show ((25 : Nat) : Int) = 25 from rfl] at b25
    rw [b25]
    exact Ev.pos h26 (E _ (by cases hasB p 25 <;> rfl))
  rw [if_neg h26, if_neg h22] at E
  exact Ev.neg h26 (E true (decide_eq_true (by omega)))

theorem QuirksNeed : parallaxlaw5_QuirksNeed.Pure := by
  intro a0 a1 a2 a3 h0 h1
  refine Ev.rounds (g := fun k => parallaxlaw5_QuirksNeed.f k a0 a1 a2 a3) ?_
  unfold parallaxlaw5_QuirksNeed.f
  have r0 := u8_wf h0
  have r1 := u32_wf h1
  obtain ⟨a, rfl⟩ : ∃ n : Nat, a0 = (n : Int) := ⟨a0.toNat, by omega⟩
  obtain ⟨b, rfl⟩ : ∃ n : Nat, a1 = (n : Int) := ⟨a1.toNat, by omega⟩
  have e : wrap64 (Int.tmod (a : Int) 30) = ((a % 30 : Nat) : Int) := by
    rw [Int.tmod_eq_emod_of_nonneg (by omega)]; exact wrap_in (by omega) (by omega)
  rw [e, bits_mask32 b (by omega)]
  have hc : a % 30 < 30 := Nat.mod_lt _ (by decide)
  have hp : b % 1073741824 < 1073741824 := Nat.mod_lt _ (by decide)
  clear e
  generalize a % 30 = c at hc ⊢
  generalize b % 1073741824 = p at hp ⊢
  refine Ev.bind known_ev (Ev.pos rfl ?_)
  by_cases h6 : (c : Int) = 6
  · exact Ev.pos h6 (ends c p hp a2 a3 a3 (by unfold needsB; rw [if_pos h6]))
  refine Ev.neg h6 ?_
  by_cases h17 : (c : Int) = 17
  · have b14 := bit_of p 16384 14 hp (by decide) (by decide)
    rw [show ((16384 : Nat) : Int) = 16384 from rfl, show ((14 : Nat) : Int) = 14 from rfl] at b14
    rw [b14]
    exact Ev.pos h17 (ends c p hp a2 a3 _ (by unfold needsB; rw [if_neg h6, if_pos h17]; cases hasB p 14 <;> rfl))
  refine Ev.neg h17 ?_
  have J := fun b hb => j_ev c p hp a2 a3 b (by omega) (by omega) hc hb
  by_cases h18 : (c : Int) = 18
  · exact Ev.pos h18 (J _ (by simp [h18]))
  refine Ev.neg h18 ?_
  by_cases h21 : (c : Int) = 21
  · exact Ev.pos h21 (J _ (by simp [h21]))
  refine Ev.neg h21 ?_
  by_cases h27 : (c : Int) = 27
  · exact Ev.pos h27 (J _ (by simp [h27]))
  refine Ev.neg h27 ?_
  by_cases h28 : (c : Int) = 28
  · exact Ev.pos h28 (J _ (by simp [h28]))
  exact Ev.neg h28 (J _ (by rw [Bool.eq_iff_iff]; simp; omega))

end Go.Proofs.YtjnphebgbdjohaaDoor.Pure
