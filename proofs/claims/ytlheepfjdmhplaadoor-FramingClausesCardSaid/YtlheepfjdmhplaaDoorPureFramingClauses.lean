/- It is proved that FramingClauses answers true at every input: each clause of a profile alone parts what a message is taken for. -/
import Derived.Test.YtlheepfjdmhplaaDoorPFramingClausesx8
import Derived.Test.YtlheepfjdmhplaaDoorTxtFramingClauses
namespace Go.Proofs.YtlheepfjdmhplaaDoor.Pure
open Go.RowKit Go.Proofs.YtlheepfjdmhplaaDoor.PFramingClauses Go.Proofs.YtlheepfjdmhplaaDoorW.PrintWords Go.Proofs.YtlheepfjdmhplaaDoorW.PrintLast Go.Proofs.YtlheepfjdmhplaaDoorW.PrintMore Go.Proofs.YtlheepfjdmhplaaDoor.Aid Go.Proofs.YtlheepfjdmhplaaDoor.Parts

theorem pair (a k o : Nat) (ha : a < 4294967296) (hk : k < 30) (ho : o < 4294967296) : ∃ q : Nat, q < 1073741824 ∧ Go.bits .andNot .u32 (Go.bits .andNot .u32 (Go.bits .and .u32 (a : Int) 1073741823) (shl .u32 1 (k : Int))) (o : Int) = (q : Int) ∧ Go.bits .or .u32 (q : Int) (shl .u32 1 (k : Int)) = ((q ||| 2 ^ k : Nat) : Int) ∧ q ||| 2 ^ k < 1073741824 ∧ hasB q (k : Int) = false ∧ hasB (q ||| 2 ^ k) (k : Int) = true ∧ ∀ c : Nat, c < 30 → o.testBit c = true → hasB q (c : Int) = false ∧ (c ≠ k → hasB (q ||| 2 ^ k) (c : Int) = false) := by
  have hp : 2 ^ k < 1073741824 := Nat.pow_lt_pow_right (by decide) hk
  have hs : shl .u32 1 (k : Int) = ((2 ^ k : Nat) : Int) := by
    unfold shl
    rw [Int.toNat_natCast, show min k IntKind.u32.bits = k from Nat.min_eq_left (by show k ≤ 32; omega), IntKind.wrap_u32, Int.one_mul, show ((2 : Int) ^ k) = ((2 ^ k : Nat) : Int) by simp]
    generalize 2 ^ k = q at hp ⊢
    omega
  obtain ⟨r, hr, e1, _, _, h0, _, _⟩ := clause_off a k ha hk
  obtain ⟨q, e2, hq, hb⟩ := bits_andnot32 r o (by omega) ho
  rw [hasB_nat _ _ hk] at h0
  refine ⟨q, by omega, by rw [e1, e2], ?_, Nat.or_lt_two_pow (n := 30) (show q < 2 ^ 30 by omega) hp, ?_, ?_, fun c hc ht => ?_⟩
  · rw [hs]; exact bits_or32 q (2 ^ k) (by omega) (by omega)
  · rw [hasB_nat _ _ hk, hb k (by omega), h0]; rfl
  · rw [hasB_nat _ _ hk]; exact bit_or_set q k
  · have : q.testBit c = false := by rw [hb c (by omega), ht]; simp
    refine ⟨by rw [hasB_nat _ _ hc]; exact this, fun hne => ?_⟩
    rw [hasB_nat _ _ hc, bit_or_other q k c (fun e => hne e.symm)]; exact this
theorem data_inj : ∀ l m : List ByteArray, l.map (·.data.toList) = m.map (·.data.toList) → l = m
  | [], [], _ => rfl
  | [], _ :: _, h => by simp at h
  | _ :: _, [], h => by simp at h
  | a :: l, b :: m, h => by
    rw [List.map_cons, List.map_cons] at h
    injection h with h1 h2
    rw [ba_inj h1, data_inj l m h2]
def hA : S34 := ⟨(⟨#[72, 111, 115, 116]⟩ : ByteArray), (⟨#[97]⟩ : ByteArray)⟩
def l16 : List S34 := [hA, ⟨(⟨#[104, 111, 115, 116]⟩ : ByteArray), (⟨#[98]⟩ : ByteArray)⟩]
def l23 : List S34 := [hA, ⟨clN, (⟨#[43, 51]⟩ : ByteArray)⟩]
def l24 : List S34 := [hA, ⟨clN, (⟨#[51]⟩ : ByteArray)⟩, ⟨clN, (⟨#[51]⟩ : ByteArray)⟩]
def brT : ByteArray := ⟨#[98, 114]⟩
def bcT : ByteArray := ⟨#[98, 114, 44, 32, 99, 104, 117, 110, 107, 101, 100]⟩
def l19 : List S34 := [hA, ⟨teN, brT⟩]
def l18 : List S34 := [hA, ⟨teN, bcT⟩]
def l20 : List S34 := [hA, ⟨teN, chunkedT⟩]
theorem f16 : findB l16 hostN = [(⟨#[97]⟩ : ByteArray), (⟨#[98]⟩ : ByteArray)] ∧ findB l16 teN = [] ∧ findB l16 clN = [] := ⟨data_inj _ _ (by decide +kernel), data_inj _ _ (by decide +kernel), data_inj _ _ (by decide +kernel)⟩
theorem f23 : findB l23 hostN = [(⟨#[97]⟩ : ByteArray)] ∧ findB l23 teN = [] ∧ findB l23 clN = [(⟨#[43, 51]⟩ : ByteArray)] := ⟨data_inj _ _ (by decide +kernel), data_inj _ _ (by decide +kernel), data_inj _ _ (by decide +kernel)⟩
theorem f24 : findB l24 hostN = [(⟨#[97]⟩ : ByteArray)] ∧ findB l24 teN = [] ∧ findB l24 clN = [(⟨#[51]⟩ : ByteArray), (⟨#[51]⟩ : ByteArray)] := ⟨data_inj _ _ (by decide +kernel), data_inj _ _ (by decide +kernel), data_inj _ _ (by decide +kernel)⟩
theorem f19 : findB l19 hostN = [(⟨#[97]⟩ : ByteArray)] ∧ findB l19 teN = [brT] ∧ findB l19 clN = [] := ⟨data_inj _ _ (by decide +kernel), data_inj _ _ (by decide +kernel), data_inj _ _ (by decide +kernel)⟩
theorem f18 : findB l18 hostN = [(⟨#[97]⟩ : ByteArray)] ∧ findB l18 teN = [bcT] ∧ findB l18 clN = [] := ⟨data_inj _ _ (by decide +kernel), data_inj _ _ (by decide +kernel), data_inj _ _ (by decide +kernel)⟩
theorem f20 : findB l20 hostN = [(⟨#[97]⟩ : ByteArray)] ∧ findB l20 teN = [chunkedT] ∧ findB l20 clN = [] := ⟨data_inj _ _ (by decide +kernel), data_inj _ _ (by decide +kernel), data_inj _ _ (by decide +kernel)⟩
theorem tab_host : hostB (⟨#[97]⟩ : ByteArray) = true ∧ hostB (⟨#[98]⟩ : ByteArray) = true := by decide +kernel
theorem host_one (n : Nat) (minor : Int) (l : List S34) (h : findB l hostN = [(⟨#[97]⟩ : ByteArray)]) : hostsB n minor l = 0 := by
  unfold hostsB hostsN
  rw [h]
  simp [tab_host.1]
theorem host_none (n : Nat) : hostsB n 1 [] = if hasB n 15 = true then 0 else 400 := by
  unfold hostsB hostsN
  rw [show findB ([] : List S34) hostN = [] from rfl]
  simp
theorem host_two (n : Nat) : hostsB n 1 l16 = if hasB n 16 = true then 0 else 400 := by
  unfold hostsB hostsN
  rw [f16.1]
  simp [tab_host.1, tab_host.2]
theorem len_none (n : Nat) : lenB n 65536 [] = (0, 0) := by
  unfold lenB
  rw [show (if hasB n 24 = true then listB [] else []) = ([] : List ByteArray) by split <;> rfl]
  rfl
theorem tab_list : listB [(⟨#[43, 51]⟩ : ByteArray)] = [(⟨#[43, 51]⟩ : ByteArray)] ∧ listB [(⟨#[51]⟩ : ByteArray), (⟨#[51]⟩ : ByteArray)] = [(⟨#[51]⟩ : ByteArray), (⟨#[51]⟩ : ByteArray)] ∧ listB [brT] = [brT] ∧ listB [bcT] = [brT, chunkedT] ∧ listB [chunkedT] = [chunkedT] := ⟨data_inj _ _ (by decide +kernel), data_inj _ _ (by decide +kernel), data_inj _ _ (by decide +kernel), data_inj _ _ (by decide +kernel), data_inj _ _ (by decide +kernel)⟩
theorem tab_plus : ∀ b : Bool, lenOf (readB (if b = true then plusB (⟨#[43, 51]⟩ : ByteArray) else (⟨#[43, 51]⟩ : ByteArray)) 10 65536 4) = if b = true then (3, 0) else (0, 400) := by decide +kernel
theorem tab_three : ∀ b : Bool, lenOf (readB (if b = true then plusB (⟨#[51]⟩ : ByteArray) else (⟨#[51]⟩ : ByteArray)) 10 65536 4) = (3, 0) := by decide +kernel
theorem len_plus (n : Nat) : lenB n 65536 [(⟨#[43, 51]⟩ : ByteArray)] = if hasB n 23 = true then (3, 0) else (0, 400) := by
  have e : (if hasB n 24 = true then listB [(⟨#[43, 51]⟩ : ByteArray)] else [(⟨#[43, 51]⟩ : ByteArray)]) = [(⟨#[43, 51]⟩ : ByteArray)] := by
    split
    · exact tab_list.1
    · rfl
  unfold lenB lenV
  rw [e, if_neg (by simp), if_pos (by simp)]
  exact tab_plus (hasB n 23)
theorem len_three (n : Nat) (h : hasB n 24 = true) : lenB n 65536 [(⟨#[51]⟩ : ByteArray), (⟨#[51]⟩ : ByteArray)] = (3, 0) := by
  unfold lenB lenV
  rw [if_pos h, tab_list.2.1, if_neg (by simp), h, if_pos (by simp [rdOf])]
  exact tab_three (hasB n 23)
theorem len_three_off (n : Nat) (h : hasB n 24 = false) (h5 : hasB n 25 = false) (h6 : hasB n 26 = false) : lenB n 65536 [(⟨#[51]⟩ : ByteArray), (⟨#[51]⟩ : ByteArray)] = (0, 400) := by
  unfold lenB lenV
  rw [h, h5, h6]
  simp
theorem tab_cod : ∀ b : Bool, (Low.lower (if b = true then Trim.trimB (Trim.inB blankT) chunkedT else chunkedT)).data.toList = chunkedT.data.toList ∧ (Low.lower (if b = true then Trim.trimB (Trim.inB blankT) brT else brT)).data.toList = brT.data.toList := by decide +kernel
theorem tab_idx : idxL [chunkedT] chunkedT = 0 ∧ idxL [brT] chunkedT = -1 ∧ idxL [brT, chunkedT] chunkedT = 1 := by decide +kernel
theorem cod_ch (n : Nat) : codS n chunkedT = chunkedT := ba_inj (tab_cod (hasB n 17)).1
theorem cod_br (n : Nat) : codS n brT = brT := ba_inj (tab_cod (hasB n 17)).2
theorem codB_ch (n : Nat) : codB n [chunkedT] = true := by
  unfold codB
  rw [tab_list.2.2.2.2, List.map_cons, List.map_nil, cod_ch]
  unfold codV
  rw [if_neg (by simp), if_neg (by simp), tab_idx.1]
  rfl
theorem codB_br (n : Nat) : codB n [brT] = false := by
  unfold codB
  rw [tab_list.2.2.1, List.map_cons, List.map_nil, cod_br]
  unfold codV
  rw [if_neg (by simp), if_neg (by simp), tab_idx.2.1]
  rfl
theorem codB_bc (n : Nat) : codB n [bcT] = hasB n 18 := by
  unfold codB
  rw [tab_list.2.2.2.1, List.map_cons, List.map_cons, List.map_nil, cod_br, cod_ch]
  unfold codV
  rw [if_neg (by simp), tab_idx.2.2]
  cases hasB n 18 <;> simp
theorem off15 (n : Nat) (h : hasB n 15 = false) : (frmB n 65536 true 1 []).2.2 ≠ 0 := by
  unfold frmB; rw [host_none, h]; simp
theorem on15 (n : Nat) (h : hasB n 15 = true) : frmB n 65536 true 1 [] = (1, 0, 0) := by
  unfold frmB; rw [host_none, h, show findB ([] : List S34) teN = [] from rfl, show findB ([] : List S34) clN = [] from rfl, len_none]; simp [finD]
theorem off16 (n : Nat) (h : hasB n 16 = false) : (frmB n 65536 true 1 l16).2.2 ≠ 0 := by
  unfold frmB; rw [host_two, h]; simp
theorem on16 (n : Nat) (h : hasB n 16 = true) : frmB n 65536 true 1 l16 = (1, 0, 0) := by
  unfold frmB; rw [host_two, h, f16.2.1, f16.2.2, len_none]; simp [finD]
theorem off23 (n : Nat) (h : hasB n 23 = false) : (frmB n 65536 true 1 l23).2.2 ≠ 0 := by
  unfold frmB; rw [host_one _ _ _ f23.1, f23.2.1, f23.2.2, len_plus, h]; simp [finD]
theorem on23 (n : Nat) (h : hasB n 23 = true) : frmB n 65536 true 1 l23 = (1, 3, 0) := by
  unfold frmB; rw [host_one _ _ _ f23.1, f23.2.1, f23.2.2, len_plus, h]; simp [finD]
theorem off24 (n : Nat) (h : hasB n 24 = false) (h5 : hasB n 25 = false) (h6 : hasB n 26 = false) : (frmB n 65536 true 1 l24).2.2 ≠ 0 := by
  unfold frmB; rw [host_one _ _ _ f24.1, f24.2.1, f24.2.2, len_three_off n h h5 h6]; simp [finD]
theorem on24 (n : Nat) (h : hasB n 24 = true) : frmB n 65536 true 1 l24 = (1, 3, 0) := by
  unfold frmB; rw [host_one _ _ _ f24.1, f24.2.1, f24.2.2, len_three n h]; simp [finD]
theorem off19 (n : Nat) (h : hasB n 19 = false) : (frmB n 65536 true 1 l19).2.2 ≠ 0 := by
  unfold frmB decC; rw [host_one _ _ _ f19.1, f19.2.1, f19.2.2, codB_br, h]; simp
theorem on19 (n : Nat) (h : hasB n 19 = true) : frmB n 65536 true 1 l19 = (1, 0, 0) := by
  unfold frmB decC; rw [host_one _ _ _ f19.1, f19.2.1, f19.2.2, codB_br, h, len_none]; simp [finD]
theorem off18 (n : Nat) (h : hasB n 18 = false) (h9 : hasB n 19 = false) : (frmB n 65536 true 1 l18).2.2 ≠ 0 := by
  unfold frmB decC; rw [host_one _ _ _ f18.1, f18.2.1, f18.2.2, codB_bc, h, h9]; simp
theorem on18 (n : Nat) (h : hasB n 18 = true) : frmB n 65536 true 1 l18 = (2, 0, 0) := by
  unfold frmB decC; rw [host_one _ _ _ f18.1, f18.2.1, f18.2.2, codB_bc, h]; simp
theorem off20 (n : Nat) (h : hasB n 20 = false) : (frmB n 65536 true 0 l20).2.2 ≠ 0 := by
  unfold frmB decC; rw [host_one _ _ _ f20.1, f20.2.1, f20.2.2, codB_ch, h]; simp
theorem on20 (n : Nat) (h : hasB n 20 = true) : frmB n 65536 true 0 l20 = (2, 0, 0) := by
  unfold frmB decC; rw [host_one _ _ _ f20.1, f20.2.1, f20.2.2, codB_ch, h]; simp
theorem five (a k o : Nat) (ha : a < 4294967296) (ho : o < 4294967296) (hk : k = 15 ∨ k = 16 ∨ k = 23 ∨ k = 24 ∨ k = 19 ∨ k = 18 ∨ k = 20) (l : List S34) (hl : l.length ≤ 1000) (hz : ∀ x ∈ l, x.f0.size ≤ 1000 ∧ x.f1.size ≤ 1000) (minor : Int)
    (hoff : ∀ n, hasB n (k : Int) = false → (∀ c : Nat, c < 30 → o.testBit c = true → hasB n (c : Int) = false) → (frmB n 65536 true minor l).2.2 ≠ 0)
    (hon : ∀ n, hasB n (k : Int) = true → frmB n 65536 true minor l = ((if k = 18 ∨ k = 20 then 2 else 1 : Int), (if k = 23 ∨ k = 24 then 3 else 0 : Int), 0)) :
    Ev (fun m => parallaxlaw10_FramingClauses.j5 m (a : Int) (k : Int) l minor (o : Int) 1024 32 8192 65536 32 8 4 20 true true) true := by
  obtain ⟨q, h1, h2, h3, h4, h5, h6, h7⟩ := pair a k o ha (by omega) ho
  refine Ev.step (fun _ => parallaxlaw10_FramingClauses.j5.eq_2 ..) ?_
  rw [h2, h3]
  refine Ev.pos (by omega) (Ev.bind (dec_ev_all q (by omega) 1024 32 8192 65536 32 8 4 20 (by decide) true true minor l hl hz) (Ev.bind (dec_ev_all (q ||| 2 ^ k) (by omega) 1024 32 8192 65536 32 8 4 20 (by decide) true true minor l hl hz) ?_))
  rw [hon _ h6]
  have he := hoff q h5 (fun c hc ht => (h7 c hc ht).1)
  generalize (frmB q 65536 true minor l).2.2 = e at he ⊢
  clear hoff hon h1 h2 h3 h4 h5 h6 h7
  refine ⟨6, fun m hm => ?_⟩
  obtain ⟨m, rfl⟩ : ∃ j, m = j + 6 := ⟨m - 6, by omega⟩
  rcases hk with rfl | rfl | rfl | rfl | rfl | rfl | rfl <;> simp [parallaxlaw10_FramingClauses.j6, parallaxlaw10_FramingClauses.j7, parallaxlaw10_FramingClauses.j8, parallaxlaw10_FramingClauses.j9, parallaxlaw10_FramingClauses.j10, he]
theorem sz (l : List S34) (h : (l.all fun x => decide (x.f0.size ≤ 1000) && decide (x.f1.size ≤ 1000)) = true) : ∀ x ∈ l, x.f0.size ≤ 1000 ∧ x.f1.size ≤ 1000 := by
  intro x hx
  have := List.all_eq_true.mp h x hx
  rw [Bool.and_eq_true, decide_eq_true_eq, decide_eq_true_eq] at this
  exact this
abbrev ks : List Int := [15, 16, 23, 24, 19, 18, 20]
theorem FramingClauses : parallaxlaw10_FramingClauses.Pure := by
  intro a0 a1 h0 h1
  refine Ev.rounds (g := fun k => parallaxlaw10_FramingClauses.f k a0 a1) ?_
  have r0 := u8_wf h0
  have r1 := u32_wf h1
  obtain ⟨v, rfl⟩ : ∃ n : Nat, a0 = (n : Int) := ⟨a0.toNat, by omega⟩
  obtain ⟨a, rfl⟩ : ∃ n : Nat, a1 = (n : Int) := ⟨a1.toNat, by omega⟩
  have mv : Int.tmod (v : Int) 7 = ((v % 7 : Nat) : Int) := tmod_nat v 7
  have hu : v % 7 < 7 := Nat.mod_lt _ (by decide)
  have ha : a < 4294967296 := by omega
  unfold parallaxlaw10_FramingClauses.f
  refine Ev.bind known_ev (Ev.pos rfl (Ev.val rfl (Ev.val rfl ?_)))
  rw [mv]
  generalize v % 7 = u at hu
  refine Ev.pos (by omega) (Ev.pos (by show (u : Int) < 7; omega) (Ev.val rfl ?_))
  have g24 : ∀ n : Nat, (∀ c : Nat, c < 30 → (100663296 : Nat).testBit c = true → hasB n (c : Int) = false) → hasB n 25 = false ∧ hasB n 26 = false := fun n h => ⟨h 25 (by decide) (by decide), h 26 (by decide) (by decide)⟩
  have g18 : ∀ n : Nat, (∀ c : Nat, c < 30 → (524288 : Nat).testBit c = true → hasB n (c : Int) = false) → hasB n 19 = false := fun n h => h 19 (by decide) (by decide)
  have k15 := five a 15 0 ha (by decide) (by omega) [] (by decide) (sz _ (by decide +kernel)) 1 (fun n h _ => off15 n h) (fun n h => on15 n h)
  have k16 := five a 16 0 ha (by decide) (by omega) l16 (by decide) (sz _ (by decide +kernel)) 1 (fun n h _ => off16 n h) (fun n h => on16 n h)
  have k23 := five a 23 0 ha (by decide) (by omega) l23 (by decide) (sz _ (by decide +kernel)) 1 (fun n h _ => off23 n h) (fun n h => on23 n h)
  have k24 := five a 24 100663296 ha (by decide) (by omega) l24 (by decide) (sz _ (by decide +kernel)) 1 (fun n h g => off24 n h (g24 n g).1 (g24 n g).2) (fun n h => on24 n h)
  have k19 := five a 19 0 ha (by decide) (by omega) l19 (by decide) (sz _ (by decide +kernel)) 1 (fun n h _ => off19 n h) (fun n h => on19 n h)
  have k18 := five a 18 524288 ha (by decide) (by omega) l18 (by decide) (sz _ (by decide +kernel)) 1 (fun n h g => off18 n h (g18 n g)) (fun n h => on18 n h)
  have k20 := five a 20 0 ha (by decide) (by omega) l20 (by decide) (sz _ (by decide +kernel)) 0 (fun n h _ => off20 n h) (fun n h => on20 n h)
  rcases (by omega : u = 0 ∨ u = 1 ∨ u = 2 ∨ u = 3 ∨ u = 4 ∨ u = 5 ∨ u = 6) with rfl | rfl | rfl | rfl | rfl | rfl | rfl
  · exact Ev.pos rfl k15
  · exact Ev.neg (by decide) (Ev.pos rfl (Ev.pos (by decide) (Ev.step (fun _ => parallaxlaw10_FramingClauses.j4.eq_2 ..) k16)))
  · exact Ev.neg (by decide) (Ev.neg (by decide) (Ev.pos rfl (Ev.pos (by decide) (Ev.step (fun _ => parallaxlaw10_FramingClauses.j3.eq_2 ..) (Ev.step (fun _ => parallaxlaw10_FramingClauses.j4.eq_2 ..) k23)))))
  · exact Ev.neg (by decide) (Ev.neg (by decide) (Ev.neg (by decide) (Ev.pos rfl (Ev.val rfl (Ev.pos (by decide) (Ev.step (fun _ => parallaxlaw10_FramingClauses.j2.eq_2 ..) (Ev.step (fun _ => parallaxlaw10_FramingClauses.j3.eq_2 ..) (Ev.step (fun _ => parallaxlaw10_FramingClauses.j4.eq_2 ..) k24))))))))
  · exact Ev.neg (by decide) (Ev.neg (by decide) (Ev.neg (by decide) (Ev.neg (by decide) (Ev.pos rfl (Ev.pos (by decide) (Ev.step (fun _ => parallaxlaw10_FramingClauses.j1.eq_2 ..) (Ev.step (fun _ => parallaxlaw10_FramingClauses.j2.eq_2 ..) (Ev.step (fun _ => parallaxlaw10_FramingClauses.j3.eq_2 ..) (Ev.step (fun _ => parallaxlaw10_FramingClauses.j4.eq_2 ..) k19)))))))))
  · exact Ev.neg (by decide) (Ev.neg (by decide) (Ev.neg (by decide) (Ev.neg (by decide) (Ev.neg (by decide) (Ev.pos rfl (Ev.pos (by decide) (Ev.step (fun _ => parallaxlaw10_FramingClauses.j0.eq_2 ..) (Ev.step (fun _ => parallaxlaw10_FramingClauses.j1.eq_2 ..) (Ev.step (fun _ => parallaxlaw10_FramingClauses.j2.eq_2 ..) (Ev.step (fun _ => parallaxlaw10_FramingClauses.j3.eq_2 ..) (Ev.step (fun _ => parallaxlaw10_FramingClauses.j4.eq_2 ..) k18)))))))))))
  · exact Ev.neg (by decide) (Ev.neg (by decide) (Ev.neg (by decide) (Ev.neg (by decide) (Ev.neg (by decide) (Ev.neg (by decide) (Ev.pos (by decide) (Ev.step (fun _ => parallaxlaw10_FramingClauses.j0.eq_2 ..) (Ev.step (fun _ => parallaxlaw10_FramingClauses.j1.eq_2 ..) (Ev.step (fun _ => parallaxlaw10_FramingClauses.j2.eq_2 ..) (Ev.step (fun _ => parallaxlaw10_FramingClauses.j3.eq_2 ..) (Ev.step (fun _ => parallaxlaw10_FramingClauses.j4.eq_2 ..) k20)))))))))))
end Go.Proofs.YtlheepfjdmhplaaDoor.Pure
