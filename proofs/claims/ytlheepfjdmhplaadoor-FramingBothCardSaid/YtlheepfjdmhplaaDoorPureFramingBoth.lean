/- It is proved that FramingBoth answers true at every input: what a message with a length and chunks is taken for. -/
import Derived.Test.YtlheepfjdmhplaaDoorPFramingBothx8
import Derived.Test.YtlheepfjdmhplaaDoorTxtFramingBoth
namespace Go.Proofs.YtlheepfjdmhplaaDoor.Pure
open Go.RowKit Go.Proofs.YtlheepfjdmhplaaDoor.PFramingBoth Go.Proofs.YtlheepfjdmhplaaDoorW.PrintWords Go.Proofs.YtlheepfjdmhplaaDoorW.PrintLast Go.Proofs.YtlheepfjdmhplaaDoorW.PrintMore Go.Proofs.YtlheepfjdmhplaaDoor.Aid Go.Proofs.YtlheepfjdmhplaaDoor.Parts

/-- a digit's text -/
def dS (i : Nat) : ByteArray := strOfNums [(48 + (i : Int)) % 256]
/-- the fields, in either order -/
def fl (b : Bool) (s : ByteArray) : List S34 := if b = true then [⟨clN, s⟩, ⟨hostN, (⟨#[97]⟩ : ByteArray)⟩, ⟨teN, chunkedT⟩] else [⟨hostN, (⟨#[97]⟩ : ByteArray)⟩, ⟨teN, chunkedT⟩, ⟨clN, s⟩]
theorem data_inj : ∀ l m : List ByteArray, l.map (·.data.toList) = m.map (·.data.toList) → l = m
  | [], [], _ => rfl
  | [], _ :: _, h => by simp at h
  | _ :: _, [], h => by simp at h
  | a :: l, b :: m, h => by
    rw [List.map_cons, List.map_cons] at h
    injection h with h1 h2
    rw [ba_inj h1, data_inj l m h2]
theorem tab_find : ∀ (b : Bool) (i : Fin 10), (findB (fl b (dS i.val)) hostN).map (·.data.toList) = [(⟨#[97]⟩ : ByteArray)].map (·.data.toList) ∧ (findB (fl b (dS i.val)) teN).map (·.data.toList) = [chunkedT].map (·.data.toList) ∧ (findB (fl b (dS i.val)) clN).map (·.data.toList) = [dS i.val].map (·.data.toList) ∧ (listB [dS i.val]).map (·.data.toList) = [dS i.val].map (·.data.toList) ∧ (dS i.val).size ≤ 20 := by decide +kernel
theorem tab_len : ∀ (b : Bool) (i : Fin 10), lenOf (readB (if b = true then plusB (dS i.val) else dS i.val) 10 65536 4) = ((i.val : Int), 0) := by decide +kernel
theorem tab_host : hostB (⟨#[97]⟩ : ByteArray) = true := by decide +kernel
theorem tab_cod : ∀ b : Bool, (Low.lower (if b = true then Trim.trimB (Trim.inB blankT) chunkedT else chunkedT)).data.toList = chunkedT.data.toList := by decide +kernel
theorem tab_chunk : (listB [chunkedT]).map (·.data.toList) = [chunkedT].map (·.data.toList) := by decide +kernel
theorem tab_idx : idxL [chunkedT] chunkedT = 0 := by decide +kernel
theorem cod_is (n : Nat) : codB n [chunkedT] = true := by
  have h : codS n chunkedT = chunkedT := ba_inj (tab_cod (hasB n 17))
  unfold codB
  rw [data_inj _ _ tab_chunk, List.map_cons, List.map_nil, h]
  unfold codV
  rw [if_neg (by simp), if_neg (by simp), tab_idx]
  rfl
theorem dec_is (n : Nat) (ch b : Bool) (i : Nat) (hi : i < 10) : frmB n 65536 ch 1 (fl b (dS i)) = if (hasB n 21 && ch) = true then (2, 0, 0) else if hasB n 21 = true then (0, 0, 501) else if hasB n 22 = true then (1, (i : Int), 0) else (0, 0, 400) := by
  obtain ⟨t1, t2, t3, t4, _⟩ := tab_find b ⟨i, hi⟩
  have h1 := tab_len (hasB n 23) ⟨i, hi⟩
  dsimp only at t1 t2 t3 t4 h1
  have hH : hostsB n 1 (fl b (dS i)) = 0 := by
    unfold hostsB hostsN
    rw [data_inj _ _ t1]
    simp [tab_host]
  have hL : lenB n 65536 [dS i] = ((i : Int), 0) := by
    have : (if hasB n 24 = true then listB [dS i] else [dS i]) = [dS i] := by
      split
      · exact data_inj _ _ t4
      · rfl
    unfold lenB lenV
    rw [this, if_neg (by simp), if_pos (by simp)]
    exact h1
  unfold frmB
  rw [if_pos hH, data_inj _ _ t2, data_inj _ _ t3, if_neg (by simp), cod_is, hL]
  unfold decC finD
  generalize hasB n 21 = h21
  generalize hasB n 22 = h22
  cases h21 <;> cases h22 <;> cases ch <;> simp
theorem both_j0 (a v : Nat) (ha : a < 4294967296) (ch b : Bool) : Ev (fun k => parallaxlaw10_FramingBoth.j0 k (a : Int) ch (v : Int) (fl b (dS (v % 10))) 1024 32 8192 65536 32 8 4 20 ch true) true := by
  have hp : a % 1073741824 < 1073741824 := Nat.mod_lt _ (by decide)
  have hv : v % 10 < 10 := Nat.mod_lt _ (by decide)
  have b21 := bit_one (a % 1073741824) 2097152 21 hp (by decide) (by decide)
  have b22 := bit_one (a % 1073741824) 4194304 22 hp (by decide) (by decide)
  have mv : Int.tmod (v : Int) 10 = ((v % 10 : Nat) : Int) := tmod_nat v 10
  have wv : wrap64 ((v % 10 : Nat) : Int) = ((v % 10 : Nat) : Int) := wrap_in (by omega) (by omega)
  have c21 : ((21 : Nat) : Int) = 21 := rfl
  have c22 : ((22 : Nat) : Int) = 22 := rfl
  have q21 : ((2097152 : Nat) : Int) = 2097152 := rfl
  have q22 : ((4194304 : Nat) : Int) = 4194304 := rfl
  rw [c21, q21] at b21
  rw [c22, q22] at b22
  obtain ⟨_, _, _, _, ts⟩ := tab_find b ⟨v % 10, hv⟩
  dsimp only at ts
  have s1 : (⟨#[97]⟩ : ByteArray).size = 1 := rfl
  have s2 : chunkedT.size = 7 := rfl
  have s3 : clN.size = 14 := rfl
  have s4 : hostN.size = 4 := rfl
  have s5 : teN.size = 17 := rfl
  have hl : (fl b (dS (v % 10))).length ≤ 1000 := by unfold fl; split <;> simp
  have hz : ∀ x ∈ fl b (dS (v % 10)), x.f0.size ≤ 1000 ∧ x.f1.size ≤ 1000 := by
    intro x hx
    unfold fl at hx
    split at hx <;> (simp only [List.mem_cons, List.not_mem_nil, or_false] at hx; rcases hx with rfl | rfl | rfl <;> (dsimp only; omega))
  refine Ev.step (fun _ => parallaxlaw10_FramingBoth.j0.eq_2 ..) ?_
  rw [bits_mask32 a (by omega)]
  refine Ev.bind (dec_ev_all (a % 1073741824) (by omega) 1024 32 8192 65536 32 8 4 20 (by decide) ch true 1 _ hl hz) ?_
  rw [dec_is _ _ _ _ hv, b21]
  refine ⟨4, fun k hk => ?_⟩
  obtain ⟨m, rfl⟩ : ∃ m, k = m + 4 := ⟨k - 4, by omega⟩
  simp only [parallaxlaw10_FramingBoth.j1, parallaxlaw10_FramingBoth.j2, parallaxlaw10_FramingBoth.j3, b21, b22, mv, wv]
  generalize hasB (a % 1073741824) 21 = h21
  generalize hasB (a % 1073741824) 22 = h22
  cases h21 <;> cases h22 <;> cases ch <;> simp
theorem FramingBoth : parallaxlaw10_FramingBoth.Pure := by
  intro a0 a1 a2 a3 h0 h2
  refine Ev.rounds (g := fun k => parallaxlaw10_FramingBoth.f k a0 a1 a2 a3) ?_
  have r0 := u32_wf h0
  have r2 := u8_wf h2
  obtain ⟨a, rfl⟩ : ∃ n : Nat, a0 = (n : Int) := ⟨a0.toNat, by omega⟩
  obtain ⟨v, rfl⟩ : ∃ n : Nat, a2 = (n : Int) := ⟨a2.toNat, by omega⟩
  have mv : Int.tmod (v : Int) 10 = ((v % 10 : Nat) : Int) := tmod_nat v 10
  unfold parallaxlaw10_FramingBoth.f
  refine Ev.bind known_ev (Ev.pos rfl (Ev.val rfl (Ev.val rfl ?_)))
  rw [mv]
  cases a3 with
  | true => exact Ev.pos rfl (both_j0 a v (by omega) a1 true)
  | false => exact Ev.neg (by simp) (both_j0 a v (by omega) a1 false)
end Go.Proofs.YtlheepfjdmhplaaDoor.Pure
