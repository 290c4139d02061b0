/- It is proved that FramingLengths answers true at every input: which of several lengths counts, if any may. -/
import Derived.Test.YtlheepfjdmhplaaDoorPFramingLengthsx8
import Derived.Test.YtlheepfjdmhplaaDoorTxtFramingLengths
namespace Go.Proofs.YtlheepfjdmhplaaDoor.Pure
open Go.RowKit Go.Proofs.YtlheepfjdmhplaaDoor.PFramingLengths Go.Proofs.YtlheepfjdmhplaaDoorW.PrintWords Go.Proofs.YtlheepfjdmhplaaDoorW.PrintLast Go.Proofs.YtlheepfjdmhplaaDoorW.PrintMore Go.Proofs.YtlheepfjdmhplaaDoor.Aid Go.Proofs.YtlheepfjdmhplaaDoor.Parts

/-- a digit's text -/
def dS (i : Nat) : ByteArray := strOfNums [(48 + (i : Int)) % 256]
/-- three digits in one value -/
def cS (i j k : Nat) : ByteArray := ((((dS i ++ (⟨#[32, 44, 9]⟩ : ByteArray)) ++ dS j) ++ (⟨#[44, 32]⟩ : ByteArray)) ++ dS k)
theorem tab_list : ∀ i j k : Fin 3, (listB [cS i.val j.val k.val]).map (·.data.toList) = [dS i.val, dS j.val, dS k.val].map (·.data.toList) ∧ (listB [dS i.val, dS j.val, dS k.val]).map (·.data.toList) = [dS i.val, dS j.val, dS k.val].map (·.data.toList) ∧ (cS i.val j.val k.val).size ≤ 20 ∧ (dS i.val).size ≤ 20 := by decide +kernel
theorem data_inj : ∀ l m : List ByteArray, l.map (·.data.toList) = m.map (·.data.toList) → l = m
  | [], [], _ => rfl
  | [], _ :: _, h => by simp at h
  | _ :: _, [], h => by simp at h
  | a :: l, b :: m, h => by
    rw [List.map_cons, List.map_cons] at h
    injection h with h1 h2
    rw [ba_inj h1, data_inj l m h2]
theorem tab_one : ∀ (b : Bool) (i : Fin 3), lenOf (readB (if b = true then plusB (dS i.val) else dS i.val) 10 9 4) = ((i.val : Int), 0) := by decide +kernel
theorem tab_all : ∀ (b : Bool) (i j k : Fin 3), lenOf (readB (if b = true then plusB (cS i.val j.val k.val) else cS i.val j.val k.val) 10 9 4) = (0, 400) := by decide +kernel
theorem tab_like : ∀ i j k : Fin 3, (([dS i.val, dS j.val, dS k.val] : List ByteArray).any fun s => !(s.data.toList == (dS i.val).data.toList)) = !(decide (i = j) && decide (j = k)) := by decide +kernel
theorem three (n : Nat) (i j k : Nat) (hi : i < 3) (hj : j < 3) (hk : k < 3) : lenV n 9 [dS i, dS j, dS k] = if ((decide (i = j) && decide (j = k)) && hasB n 24 || hasB n 25) = true then ((i : Int), 0) else if hasB n 26 = true then ((k : Int), 0) else (0, 400) := by
  have h1 := tab_one (hasB n 23) ⟨i, hi⟩
  have h2 := tab_one (hasB n 23) ⟨k, hk⟩
  have h3 := tab_like ⟨i, hi⟩ ⟨j, hj⟩ ⟨k, hk⟩
  dsimp only at h1 h2 h3
  unfold lenV lenS
  rw [if_neg (by simp)]
  have e0 : rdOf ByteArray.empty [dS i, dS j, dS k] 0 = dS i := rfl
  have e2 : rdOf ByteArray.empty [dS i, dS j, dS k] ((([dS i, dS j, dS k] : List ByteArray).length - 1 : Nat) : Int) = dS k := rfl
  rw [e0, e2, h1, h2, decide_eq_false (by simp), Bool.false_or]
  have e3 : (([dS i, dS j, dS k] : List ByteArray).any fun s => !(s.toList == (dS i).toList)) = !(decide (i = j) && decide (j = k)) := by
    have : (fun s : ByteArray => !(s.toList == (dS i).toList)) = fun s : ByteArray => !(s.data.toList == (dS i).data.toList) := by funext s; rw [ByteArray.toList_eq, ByteArray.toList_eq]
    rw [this, h3]
    simp
  rw [e3, Bool.not_not]
theorem lens (n : Nat) (i j k : Nat) (hi : i < 3) (hj : j < 3) (hk : k < 3) : lenB n 9 [dS i, dS j, dS k] = lenV n 9 [dS i, dS j, dS k] ∧ lenB n 9 [cS i j k] = if hasB n 24 = true then lenV n 9 [dS i, dS j, dS k] else (0, 400) := by
  obtain ⟨t1, t2, _⟩ := tab_list ⟨i, hi⟩ ⟨j, hj⟩ ⟨k, hk⟩
  have h1 := tab_all (hasB n 23) ⟨i, hi⟩ ⟨j, hj⟩ ⟨k, hk⟩
  dsimp only at t1 t2 h1
  unfold lenB
  rw [data_inj _ _ t1, data_inj _ _ t2]
  constructor
  · split <;> rfl
  · cases hasB n 24 with
    | true => rfl
    | false =>
      show lenV n 9 [cS i j k] = (0, 400)
      unfold lenV lenS
      rw [if_neg (by simp), if_pos (by simp)]
      exact h1
theorem ends (a1 a3 p : Nat) (hp : p < 1073741824) (one al : Bool) (n e : Int) (h : (n, e) = if (one && !(hasB p 24)) = true then (0, 400) else if (al && hasB p 24 || hasB p 25) = true then (((a1 % 3 : Nat) : Int), 0) else if hasB p 26 = true then (((a3 % 3 : Nat) : Int), 0) else (0, 400)) :
    Ev (fun k => parallaxlaw10_FramingLengths.j1 k (a1 : Int) (a3 : Int) one (p : Int) n e al) true := by
  have b24 := bit_one p 16777216 24 hp (by decide) (by decide)
  have b25 := bit_one p 33554432 25 hp (by decide) (by decide)
  have b26 := bit_one p 67108864 26 hp (by decide) (by decide)
  have m1 : Int.tmod (a1 : Int) 3 = ((a1 % 3 : Nat) : Int) := tmod_nat a1 3
  have m3 : Int.tmod (a3 : Int) 3 = ((a3 % 3 : Nat) : Int) := tmod_nat a3 3
  have w1 : wrap64 ((a1 % 3 : Nat) : Int) = ((a1 % 3 : Nat) : Int) := wrap_in (by omega) (by omega)
  have w3 : wrap64 ((a3 % 3 : Nat) : Int) = ((a3 % 3 : Nat) : Int) := wrap_in (by omega) (by omega)
  have c24 : ((24 : Nat) : Int) = 24 := rfl
  have c25 : ((25 : Nat) : Int) = 25 := rfl
  have c26 : ((26 : Nat) : Int) = 26 := rfl
  have q24 : ((16777216 : Nat) : Int) = 16777216 := rfl
  have q25 : ((33554432 : Nat) : Int) = 33554432 := rfl
  have q26 : ((67108864 : Nat) : Int) = 67108864 := rfl
  rw [c24, q24] at b24
  rw [c25, q25] at b25
  rw [c26, q26] at b26
  refine ⟨4, fun k hk => ?_⟩
  obtain ⟨m, rfl⟩ : ∃ m, k = m + 4 := ⟨k - 4, by omega⟩
  simp only [parallaxlaw10_FramingLengths.j1, parallaxlaw10_FramingLengths.j2, parallaxlaw10_FramingLengths.j3, parallaxlaw10_FramingLengths.j4, b24, b25, b26, m1, m3, w1, w3]
  generalize hasB p 24 = h24 at h ⊢
  generalize hasB p 25 = h25 at h ⊢
  generalize hasB p 26 = h26 at h ⊢
  cases one <;> cases al <;> cases h24 <;> cases h25 <;> cases h26 <;> (simp at h; simp [h.1, h.2])
theorem FramingLengths : parallaxlaw10_FramingLengths.Pure := by
  intro a0 a1 a2 a3 a4 h0 h1 h2 h3
  refine Ev.rounds (g := fun k => parallaxlaw10_FramingLengths.f k a0 a1 a2 a3 a4) ?_
  have r0 := u32_wf h0
  have r1 := u8_wf h1
  have r2 := u8_wf h2
  have r3 := u8_wf h3
  obtain ⟨a, rfl⟩ : ∃ n : Nat, a0 = (n : Int) := ⟨a0.toNat, by omega⟩
  obtain ⟨x, rfl⟩ : ∃ n : Nat, a1 = (n : Int) := ⟨a1.toNat, by omega⟩
  obtain ⟨y, rfl⟩ : ∃ n : Nat, a2 = (n : Int) := ⟨a2.toNat, by omega⟩
  obtain ⟨z, rfl⟩ : ∃ n : Nat, a3 = (n : Int) := ⟨a3.toNat, by omega⟩
  have hp : a % 1073741824 < 1073741824 := Nat.mod_lt _ (by decide)
  have mx : Int.tmod (x : Int) 3 = ((x % 3 : Nat) : Int) := tmod_nat x 3
  have my : Int.tmod (y : Int) 3 = ((y % 3 : Nat) : Int) := tmod_nat y 3
  have mz : Int.tmod (z : Int) 3 = ((z % 3 : Nat) : Int) := tmod_nat z 3
  have hx : x % 3 < 3 := Nat.mod_lt _ (by decide)
  have hy : y % 3 < 3 := Nat.mod_lt _ (by decide)
  have hz : z % 3 < 3 := Nat.mod_lt _ (by decide)
  obtain ⟨_, _, tc, td⟩ := tab_list ⟨x % 3, hx⟩ ⟨y % 3, hy⟩ ⟨z % 3, hz⟩
  obtain ⟨_, _, _, te⟩ := tab_list ⟨y % 3, hy⟩ ⟨y % 3, hy⟩ ⟨z % 3, hz⟩
  obtain ⟨_, _, _, tf⟩ := tab_list ⟨z % 3, hz⟩ ⟨y % 3, hy⟩ ⟨z % 3, hz⟩
  dsimp only at tc td te tf
  obtain ⟨l1, l2⟩ := lens (a % 1073741824) (x % 3) (y % 3) (z % 3) hx hy hz
  have l3 := three (a % 1073741824) (x % 3) (y % 3) (z % 3) hx hy hz
  have go : ∀ (one : Bool) (l : List ByteArray), l.length ≤ 1000 → (∀ s ∈ l, s.size ≤ 1000) → (lenB (a % 1073741824) 9 l = if (one && !(hasB (a % 1073741824) 24)) = true then (0, 400) else lenV (a % 1073741824) 9 [dS (x % 3), dS (y % 3), dS (z % 3)]) → Ev (fun k => parallaxlaw10_FramingLengths.j0 k (x : Int) (y : Int) (z : Int) one ((a % 1073741824 : Nat) : Int) l) true := by
    intro one l hl hs hv
    refine Ev.step (fun _ => parallaxlaw10_FramingLengths.j0.eq_2 ..) (Ev.bind (lenB_ev (a % 1073741824) (by omega) 9 (by decide) l hl hs) ?_)
    rw [mx, my, mz, hv, l3]
    by_cases hxy : x % 3 = y % 3
    · refine Ev.pos (by omega) (ends x z (a % 1073741824) hp one _ _ _ ?_)
      rw [decide_eq_true hxy, Bool.true_and]
      have : decide (y % 3 = z % 3) = (((y % 3 : Nat) : Int) == ((z % 3 : Nat) : Int)) := by
        rw [Bool.eq_iff_iff, decide_eq_true_eq, beq_iff_eq]; omega
      rw [this]
    · refine Ev.neg (by omega) (ends x z (a % 1073741824) hp one _ _ _ ?_)
      rw [decide_eq_false hxy, Bool.false_and]
  unfold parallaxlaw10_FramingLengths.f
  refine Ev.bind known_ev (Ev.pos rfl (Ev.val rfl (Ev.val rfl (Ev.val rfl ?_))))
  rw [mx, my, mz, bits_mask32 a (by omega)]
  change Ev (fun k => if a4 = true then (if (dS (x % 3)).size + 3 ≤ 9223372036854775807 then (if (dS (x % 3) ++ (⟨#[32, 44, 9]⟩ : ByteArray)).size + (dS (y % 3)).size ≤ 9223372036854775807 then (if ((dS (x % 3) ++ (⟨#[32, 44, 9]⟩ : ByteArray)) ++ dS (y % 3)).size + 2 ≤ 9223372036854775807 then (if (((dS (x % 3) ++ (⟨#[32, 44, 9]⟩ : ByteArray)) ++ dS (y % 3)) ++ (⟨#[44, 32]⟩ : ByteArray)).size + (dS (z % 3)).size ≤ 9223372036854775807 then parallaxlaw10_FramingLengths.j0 k (x : Int) (y : Int) (z : Int) a4 ((a % 1073741824 : Nat) : Int) [cS (x % 3) (y % 3) (z % 3)] else none) else none) else none) else none) else parallaxlaw10_FramingLengths.j0 k (x : Int) (y : Int) (z : Int) a4 ((a % 1073741824 : Nat) : Int) [dS (x % 3), dS (y % 3), dS (z % 3)]) true
  have s3 : (⟨#[32, 44, 9]⟩ : ByteArray).size = 3 := rfl
  have s2 : (⟨#[44, 32]⟩ : ByteArray).size = 2 := rfl
  cases a4 with
  | true =>
    refine Ev.pos rfl (Ev.pos (by omega) (Ev.pos ?_ (Ev.pos ?_ (Ev.pos ?_ (go true _ (by simp) (fun s hs => ?_) ?_)))))
    · rw [ByteArray.size_append]; omega
    · rw [ByteArray.size_append, ByteArray.size_append]; omega
    · rw [ByteArray.size_append, ByteArray.size_append, ByteArray.size_append]; omega
    · rw [List.mem_singleton] at hs; subst hs; omega
    · rw [l2]; cases hasB (a % 1073741824) 24 <;> rfl
  | false =>
    refine Ev.neg (by simp) (go false _ (by simp) (fun s hs => ?_) ?_)
    · simp only [List.mem_cons, List.not_mem_nil, or_false] at hs
      rcases hs with rfl | rfl | rfl <;> omega
    · rw [l1]; rfl
end Go.Proofs.YtlheepfjdmhplaaDoor.Pure
