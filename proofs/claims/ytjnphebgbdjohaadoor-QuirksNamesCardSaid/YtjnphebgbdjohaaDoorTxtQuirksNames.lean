/- What the printed functions of the text layer come to. -/
import Derived.Test.YtjnphebgbdjohaaDoorPQuirksNamesx
import Derived.Test.YtjnphebgbdjohaaDoorParts
import Derived.Test.YtjnphebgbdjohaaDoorLowP
import Derived.Test.YtjnphebgbdjohaaDoorTrimP
import Derived.Test.YtjnphebgbdjohaaDoorHex
namespace Go.Proofs.YtjnphebgbdjohaaDoor.PQuirksNames
open Go.RowKit Go.Proofs.YtjnphebgbdjohaaDoorW.PrintWords Go.Proofs.YtjnphebgbdjohaaDoorW.PrintLast Go.Proofs.YtjnphebgbdjohaaDoorW.PrintMore Go.Proofs.YtjnphebgbdjohaaDoor.Aid Go.Proofs.YtjnphebgbdjohaaDoor.Parts
set_option linter.unusedVariables false
set_option linter.unusedSimpArgs false

theorem rdOf_mem (l : List ByteArray) (j : Nat) (h : j < l.length) : rdOf ByteArray.empty l (j : Int) ∈ l := by
  unfold rdOf; simp [List.getD_eq_getElem?_getD, h]
theorem bits_and32 (a b : Nat) (ha : a < 4294967296) (hb : b < 4294967296) : Go.bits .and .u32 (a : Int) (b : Int) = ((a &&& b : Nat) : Int) :=
  (Go.bits_nat .u32 32 (by decide) (fun n h0 h1 => by rw [IntKind.wrap_u32]; omega) a b ha hb).1
theorem bits_or32 (a b : Nat) (ha : a < 4294967296) (hb : b < 4294967296) : Go.bits .or .u32 (a : Int) (b : Int) = ((a ||| b : Nat) : Int) :=
  (Go.bits_nat .u32 32 (by decide) (fun n h0 h1 => by rw [IntKind.wrap_u32]; omega) a b ha hb).2
theorem bits_shr32 (a c : Nat) (hc : c ≤ 32) : shr .u32 (a : Int) (c : Int) = ((a >>> c : Nat) : Int) := by
  unfold shr
  rw [Int.toNat_natCast, show min c IntKind.u32.bits = c from Nat.min_eq_left hc, Nat.shiftRight_eq_div_pow]
  simp
theorem shr_le (a c : Nat) : a >>> c ≤ a := by rw [Nat.shiftRight_eq_div_pow]; exact Nat.div_le_self _ _
/-- is a bit set? -/
theorem bit_at (a c : Nat) (ha : a < 4294967296) (hc : c ≤ 32) : (Go.bits .and .u32 (shr .u32 (a : Int) (c : Int)) 1 == 1) = a.testBit c := by
  have := shr_le a c
  rw [bits_shr32 a c hc, show (1 : Int) = ((1 : Nat) : Int) from rfl, bits_and32 _ _ (by omega) (by omega)]
  unfold Nat.testBit
  rw [Nat.and_comm]
  have h : 1 &&& (a >>> c) = 0 ∨ 1 &&& (a >>> c) = 1 := by rw [Nat.and_comm, Nat.and_one_is_mod]; omega
  rcases h with h | h <;> rw [h] <;> rfl
/-- is a clause in a profile? -/
def hasB (n : Nat) (c : Int) : Bool := decide (0 ≤ c ∧ c < 30) && n.testBit c.toNat
theorem hasB_far {n : Nat} {c : Int} (h : ¬ (0 ≤ c ∧ c < 30)) : hasB n c = false := by unfold hasB; rw [decide_eq_false h]; rfl
theorem hasB_nat (n c : Nat) (h : c < 30) : hasB n (c : Int) = n.testBit c := by unfold hasB; rw [decide_eq_true (by omega)]; simp
theorem mask30 (a : Nat) : a &&& 1073741823 = a % 1073741824 := Nat.and_two_pow_sub_one_eq_mod a 30
theorem bits_mask32 (a : Nat) (ha : a < 4294967296) : Go.bits .and .u32 (a : Int) 1073741823 = ((a % 1073741824 : Nat) : Int) := by
  rw [← mask30]; exact bits_and32 a 1073741823 ha (by decide)
theorem bit_beyond {n c : Nat} (hn : n < 1073741824) (hc : 30 ≤ c) : n.testBit c = false :=
  Nat.testBit_lt_two_pow (Nat.lt_of_lt_of_le hn (Nat.pow_le_pow_right (n := 2) (by decide) hc))
theorem qknown (c : Int) : quirks_known.f c = some (decide (0 ≤ c ∧ c < 30)) := by
  unfold quirks_known.f
  by_cases h : c ≥ 0
  · rw [if_pos h]; congr 1; simp; omega
  · rw [if_neg h]; congr 1; simp; omega
theorem qhas_some (n : Nat) (hn : n < 4294967296) (c : Int) : quirks_Has.f (n : Int) c = some (hasB n c) := by
  unfold quirks_Has.f
  rw [qknown, Option.bind_some]
  by_cases h : 0 ≤ c ∧ c < 30
  · obtain ⟨m, rfl⟩ : ∃ m : Nat, c = (m : Int) := ⟨c.toNat, by omega⟩
    rw [if_pos (decide_eq_true h), if_pos h.1, bit_at n m hn (by omega), hasB_nat n m (by omega)]
  · rw [if_neg (by simpa using h), hasB_far h]
/-- can a clause take effect? -/
def needsB (c : Int) (n : Nat) (chunked old : Bool) : Bool :=
  if c = 6 then old else if c = 17 then hasB n 14 else if c = 18 ∨ c = 21 ∨ c = 27 ∨ c = 28 ∨ c = 29 then chunked
  else if c = 20 then (old && (chunked || (hasB n 19 || (hasB n 22 && !(hasB n 21))))) else if c = 26 then !(hasB n 25) else if c = 22 then !(hasB n 21) else decide (0 ≤ c ∧ c < 30)
theorem needs_j (c : Int) (n : Nat) (hn : n < 4294967296) (u0 u1 u2 u3 u4 u5 u6 u7 : Int) (chunked old b : Bool) (h6 : c ≠ 6) (h17 : c ≠ 17) (hb : b = decide (c = 18 ∨ c = 21 ∨ c = 27 ∨ c = 28 ∨ c = 29)) :
    Ev (fun k => quirks_Needs.j0 k c (n : Int) c b u0 u1 u2 u3 u4 u5 u6 u7 chunked old) (needsB c n chunked old) := by
  unfold needsB
  rw [if_neg h6, if_neg h17]
  refine Ev.step (fun _ => quirks_Needs.j0.eq_2 ..) ?_
  by_cases h : c = 18 ∨ c = 21 ∨ c = 27 ∨ c = 28 ∨ c = 29
  · rw [if_pos h]
    exact Ev.pos (by rw [hb]; exact decide_eq_true h) (Ev.now _)
  · rw [if_neg h]
    refine Ev.neg (by rw [hb]; simpa using h) ?_
    by_cases h20 : c = 20
    · refine (Ev.pos h20 ?_).to (if_pos h20).symm
      cases old with
      | false => exact Ev.neg (by simp) (Ev.now _)
      | true =>
        refine Ev.pos rfl ?_
        cases chunked with
        | true => exact Ev.pos rfl (Ev.now _)
        | false =>
          refine Ev.neg (by simp) (Ev.val (qhas_some n hn 19) ?_)
          cases h19 : hasB n 19 with
          | true => exact Ev.pos rfl (Ev.now _)
          | false =>
            refine Ev.neg (by simp) (Ev.val (qhas_some n hn 22) ?_)
            cases h22 : hasB n 22 with
            | false => exact Ev.neg (by simp) (Ev.now _)
            | true => exact Ev.pos rfl (Ev.val (qhas_some n hn 21) ((Ev.now _).to (by simp)))
    · refine (Ev.neg h20 ?_).to (if_neg h20).symm
      by_cases h26 : c = 26
      · refine (Ev.pos h26 ?_).to (if_pos h26).symm
        exact Ev.val (qhas_some n hn 25) (Ev.now _)
      · refine (Ev.neg h26 ?_).to (if_neg h26).symm
        by_cases h22 : c = 22
        · refine (Ev.pos h22 ?_).to (if_pos h22).symm
          exact Ev.val (qhas_some n hn 21) (Ev.now _)
        · refine (Ev.neg h22 ?_).to (if_neg h22).symm
          exact Ev.val (qknown c) (Ev.now _)
theorem needs_ev (c : Int) (n : Nat) (hn : n < 4294967296) (u0 u1 u2 u3 u4 u5 u6 u7 : Int) (chunked old : Bool) :
    Ev (fun k => quirks_Needs.f k c (n : Int) u0 u1 u2 u3 u4 u5 u6 u7 chunked old) (needsB c n chunked old) := by
  unfold quirks_Needs.f
  by_cases h6 : c = 6
  · exact Ev.pos h6 ((Ev.now _).to (by unfold needsB; rw [if_pos h6]))
  refine Ev.neg h6 ?_
  by_cases h17 : c = 17
  · exact Ev.pos h17 (Ev.val (qhas_some n hn 14) ((Ev.now _).to (by unfold needsB; rw [if_neg h6, if_pos h17])))
  refine Ev.neg h17 ?_
  have J := fun b hb => needs_j c n hn u0 u1 u2 u3 u4 u5 u6 u7 chunked old b h6 h17 hb
  by_cases h18 : c = 18
  · exact Ev.pos h18 (J _ (by simp [h18]))
  refine Ev.neg h18 ?_
  by_cases h21 : c = 21
  · exact Ev.pos h21 (J _ (by simp [h21]))
  refine Ev.neg h21 ?_
  by_cases h27 : c = 27
  · exact Ev.pos h27 (J _ (by simp [h27]))
  refine Ev.neg h27 ?_
  by_cases h28 : c = 28
  · exact Ev.pos h28 (J _ (by simp [h28]))
  exact Ev.neg h28 (J _ (by rw [Bool.eq_iff_iff]; simp; omega))
/-- the profile of clauses -/
def profB (l : List Int) (n : Nat) : Nat := l.foldl (fun p c => if 0 ≤ c ∧ c < 30 then p ||| 2 ^ c.toNat else p) n
theorem or_lt {a b : Nat} (ha : a < 1073741824) (hb : b < 1073741824) : a ||| b < 1073741824 := Nat.or_lt_two_pow (n := 30) ha hb
theorem pow_lt30 {c : Nat} (h : c < 30) : 2 ^ c < 1073741824 := Nat.pow_lt_pow_right (by decide) h
theorem profB_lt (l : List Int) : ∀ n, n < 1073741824 → profB l n < 1073741824 := by
  induction l with
  | nil => intro n h; exact h
  | cons c l ih =>
    intro n h
    refine ih _ ?_
    show (if 0 ≤ c ∧ c < 30 then n ||| 2 ^ c.toNat else n) < 1073741824
    by_cases hc : 0 ≤ c ∧ c < 30
    · rw [if_pos hc]; exact or_lt h (pow_lt30 (by omega))
    · rw [if_neg hc]; exact h
theorem profB_bit (l : List Int) : ∀ (n i : Nat), (profB l n).testBit i = (n.testBit i || l.any fun c => decide (0 ≤ c ∧ c < 30 ∧ c.toNat = i)) := by
  induction l with
  | nil => intro n i; simp [profB]
  | cons c l ih =>
    intro n i
    show (profB l (if 0 ≤ c ∧ c < 30 then n ||| 2 ^ c.toNat else n)).testBit i = _
    rw [ih, List.any_cons, ← Bool.or_assoc]
    congr 1
    by_cases hc : 0 ≤ c ∧ c < 30
    · rw [if_pos hc, Nat.testBit_or, Nat.testBit_two_pow]
      congr 1
      have e : (0 ≤ c ∧ c < 30 ∧ c.toNat = i) ↔ c.toNat = i := ⟨fun h => h.2.2, fun h => ⟨hc.1, hc.2, h⟩⟩
      rw [decide_eq_decide.mpr e]
    · rw [if_neg hc, decide_eq_false (fun h => hc ⟨h.1, h.2.1⟩), Bool.or_false]
theorem bits_shl32 (c : Nat) (h : c < 30) : shl .u32 1 (c : Int) = ((2 ^ c : Nat) : Int) := by
  have h1 := pow_lt30 h
  unfold shl
  rw [Int.toNat_natCast, show min c IntKind.u32.bits = c from Nat.min_eq_left (by show c ≤ 32; omega), IntKind.wrap_u32, Int.one_mul, show ((2 : Int) ^ c) = ((2 ^ c : Nat) : Int) by simp]
  generalize 2 ^ c = q at h1 ⊢
  omega
theorem of_loop (l : List Int) (hl : l.length < 9223372036854775807) (d : Nat) : ∀ (i n : Nat), n < 1073741824 → i + d = l.length → Ev (fun k => quirks_Of.l0 k (n : Int) l (l.length : Int) (i : Int)) ((profB (l.drop i) n : Nat) : Int) := by
  induction d with
  | zero =>
    intro i n hn hi
    refine Ev.step (fun _ => quirks_Of.l0.eq_2 ..) (Ev.neg (by omega) ((Ev.now _).to ?_))
    rw [List.drop_of_length_le (by omega)]; rfl
  | succ d ih =>
    intro i n hn hi
    have h9 : i < 9223372036854775807 := by omega
    rw [drop_rd l i (by omega)]
    refine Ev.step (fun _ => quirks_Of.l0.eq_2 ..) (Ev.pos (by omega) (Ev.pos (by omega) (Ev.pos (by omega) (Ev.val (qknown _) ?_))))
    rw [wrap_nat h9]
    by_cases hc : 0 ≤ rd l (i : Int) ∧ rd l (i : Int) < 30
    · refine Ev.pos (decide_eq_true hc) (Ev.pos hc.1 ?_)
      obtain ⟨m, hm⟩ : ∃ m : Nat, rd l (i : Int) = (m : Int) := ⟨(rd l (i : Int)).toNat, by omega⟩
      have hp := pow_lt30 (c := m) (by omega)
      have e : profB (rd l (i : Int) :: l.drop (i + 1)) n = profB (l.drop (i + 1)) (n ||| 2 ^ m) := by
        show profB (l.drop (i + 1)) (if _ then _ else _) = _
        rw [if_pos hc, hm, Int.toNat_natCast]
      rw [e, hm, bits_shl32 m (by omega), bits_or32 n (2 ^ m) (by omega) (by omega)]
      exact ih (i + 1) _ (or_lt hn hp) (by omega)
    · refine Ev.neg (by simpa using hc) ((ih (i + 1) n hn (by omega)).to ?_)
      show _ = ((profB (l.drop (i + 1)) (if _ then _ else _) : Nat) : Int)
      rw [if_neg hc]
theorem of_ev (l : List Int) (hl : l.length < 9223372036854775807) : Ev (fun k => quirks_Of.f k l) ((profB l 0 : Nat) : Int) := by
  unfold quirks_Of.f
  exact (of_loop l hl l.length 0 0 (by decide) (by omega)).to (by rw [List.drop_zero])
/-- a profile's clauses -/
def clausesB (n : Nat) : List Int := ((List.range 30).filter fun c => n.testBit c).map fun c : Nat => (c : Int)
theorem list_loop (n : Nat) (hn : n < 4294967296) (d : Nat) : ∀ i : Nat, i + d = 30 → Ev (fun k => quirks_List.l0 k (n : Int) (((List.range i).filter fun c => n.testBit c).map fun c : Nat => (c : Int)) (i : Int)) (clausesB n) := by
  induction d with
  | zero =>
    intro i hi
    obtain rfl : i = 30 := by omega
    exact Ev.step (fun _ => quirks_List.l0.eq_2 ..) (Ev.neg (by omega) (Ev.now _))
  | succ d ih =>
    intro i hi
    have h1 := ih (i + 1) (by omega)
    rw [List.range_succ, List.filter_append, List.map_append] at h1
    have hlen : (((List.range i).filter fun c => n.testBit c).map fun c : Nat => (c : Int)).length ≤ 30 := by
      rw [List.length_map]; exact Nat.le_trans (List.length_filter_le _ _) (by rw [List.length_range]; omega)
    refine Ev.step (fun _ => quirks_List.l0.eq_2 ..) (Ev.pos (by omega) (Ev.val (qhas_some n hn _) ?_))
    rw [hasB_nat n i (by omega), wrap_nat (by omega)]
    cases hb : n.testBit i with
    | true =>
      rw [show ([i].filter fun c => n.testBit c).map (fun c : Nat => (c : Int)) = [(i : Int)] by simp [hb]] at h1
      exact Ev.pos rfl (Ev.pos (by omega) h1)
    | false =>
      rw [show ([i].filter fun c => n.testBit c).map (fun c : Nat => (c : Int)) = [] by simp [hb], List.append_nil] at h1
      exact Ev.neg (by simp) h1
theorem qlist_ev (n : Nat) (hn : n < 4294967296) : Ev (fun k => quirks_List.f k (n : Int)) (clausesB n) := by
  unfold quirks_List.f; exact list_loop n hn 30 0 (by omega)
theorem clausesB_len (n : Nat) : (clausesB n).length ≤ 30 := by
  unfold clausesB; rw [List.length_map]; exact Nat.le_trans (List.length_filter_le _ _) (by rw [List.length_range]; omega)
theorem clausesB_any (n i : Nat) : ((clausesB n).any fun c => decide (0 ≤ c ∧ c < 30 ∧ c.toNat = i)) = (decide (i < 30) && n.testBit i) := by
  unfold clausesB
  rw [Bool.eq_iff_iff, List.any_eq_true]
  constructor
  · rintro ⟨c, hc, h⟩
    obtain ⟨m, hm, rfl⟩ := List.mem_map.mp hc
    obtain ⟨hr, ht⟩ := List.mem_filter.mp hm
    have h := of_decide_eq_true h
    rw [Int.toNat_natCast] at h
    obtain rfl : m = i := h.2.2
    simp [ht]; omega
  · intro h
    simp only [Bool.and_eq_true, decide_eq_true_eq] at h
    refine ⟨(i : Int), List.mem_map.mpr ⟨i, List.mem_filter.mpr ⟨List.mem_range.mpr h.1, h.2⟩, rfl⟩, decide_eq_true ⟨by omega, by omega, by simp⟩⟩
theorem prof_lists (p q : Nat) (hp : p < 1073741824) (hq : q < 1073741824) : profB (clausesB p ++ clausesB q) 0 = p ||| q := by
  apply Nat.eq_of_testBit_eq
  intro i
  rw [profB_bit, Nat.zero_testBit, Bool.false_or, List.any_append, clausesB_any, clausesB_any, Nat.testBit_or]
  by_cases h : i < 30
  · rw [decide_eq_true h, Bool.true_and, Bool.true_and]
  · rw [decide_eq_false h, bit_beyond hp (by omega), bit_beyond hq (by omega)]; rfl
theorem prof_list (p : Nat) (hp : p < 1073741824) : profB (clausesB p) 0 = p := by
  apply Nat.eq_of_testBit_eq
  intro i
  rw [profB_bit, Nat.zero_testBit, Bool.false_or, clausesB_any]
  by_cases h : i < 30
  · rw [decide_eq_true h, Bool.true_and]
  · rw [decide_eq_false h, bit_beyond hp (by omega)]; rfl
theorem right_some (n : Nat) : quirks_Right.f (n : Int) = some (decide (n < 1073741824)) := by
  unfold quirks_Right.f
  congr 1
  rw [Bool.eq_iff_iff, beq_iff_eq, decide_eq_true_eq]
  omega
/-- where a text stands in a list, or -1 -/
def idxL : List ByteArray → ByteArray → Int
  | [], _ => -1
  | x :: l, s => if s.toList = x.toList then 0 else if idxL l s < 0 then -1 else idxL l s + 1
theorem idxL_ge (l : List ByteArray) (s : ByteArray) : -1 ≤ idxL l s ∧ idxL l s < l.length := by
  induction l with
  | nil => simp [idxL]
  | cons x l ih =>
    unfold idxL
    rw [List.length_cons]
    split
    · omega
    · split <;> omega
theorem idxL_at (l : List ByteArray) (s : ByteArray) (h : 0 ≤ idxL l s) : (rdOf ByteArray.empty l (idxL l s)).toList = s.toList := by
  induction l with
  | nil => simp [idxL] at h
  | cons x l ih =>
    unfold idxL at h ⊢
    by_cases he : s.toList = x.toList
    · rw [if_pos he]; exact he.symm
    · rw [if_neg he] at h ⊢
      by_cases h0 : idxL l s < 0
      · rw [if_pos h0] at h; exact absurd h (by decide)
      · rw [if_neg h0]
        rw [← ih (by omega)]
        have := idxL_ge l s
        unfold rdOf
        rw [show (idxL l s + 1).toNat = (idxL l s).toNat + 1 by omega]
        simp
theorem idx_loop (l : List ByteArray) (s : ByteArray) (hl : l.length < 9223372036854775807) (d : Nat) : ∀ i : Nat, i + d = l.length → Ev (fun k => slices_Index_string_string.l0 k l s (l.length : Int) (i : Int)) (if idxL (l.drop i) s < 0 then -1 else (i : Int) + idxL (l.drop i) s) := by
  induction d with
  | zero =>
    intro i hi
    refine Ev.step (fun _ => slices_Index_string_string.l0.eq_2 ..) (Ev.neg (by omega) ((Ev.now _).to ?_))
    rw [List.drop_of_length_le (by omega)]; rfl
  | succ d ih =>
    intro i hi
    have hg := idxL_ge (l.drop (i + 1)) s
    rw [drop_rdOf ByteArray.empty l i (by omega)]
    refine Ev.step (fun _ => slices_Index_string_string.l0.eq_2 ..) (Ev.pos (by omega) (Ev.pos (by omega) (Ev.pos (by omega) ?_)))
    by_cases he : s.toList = (rdOf ByteArray.empty l (i : Int)).toList
    · refine Ev.pos he ((Ev.now _).to ?_)
      unfold idxL; rw [if_pos he]; simp
    · refine Ev.neg he ?_
      rw [wrap_nat (by omega)]
      refine (ih (i + 1) (by omega)).to ?_
      conv => rhs; unfold idxL
      rw [if_neg he]
      by_cases h0 : idxL (l.drop (i + 1)) s < 0
      · rw [if_pos h0, if_pos h0]; rfl
      · rw [if_neg h0, if_neg h0, if_neg (by omega)]; omega
theorem idx_ev (l : List ByteArray) (s : ByteArray) (hl : l.length < 9223372036854775807) : Ev (fun k => slices_Index_string_string.f k l s) (idxL l s) := by
  unfold slices_Index_string_string.f
  refine (idx_loop l s hl l.length 0 (by omega)).to ?_
  rw [List.drop_zero]
  have := idxL_ge l s
  by_cases h : idxL l s < 0
  · rw [if_pos h]; omega
  · rw [if_neg h]; simp
theorem bits_andnot32 (a b : Nat) (ha : a < 4294967296) (hb : b < 4294967296) : ∃ r : Nat, Go.bits .andNot .u32 (a : Int) (b : Int) = (r : Int) ∧ r ≤ a ∧ ∀ i, i < 32 → r.testBit i = (a.testBit i && !(b.testBit i)) := by
  refine ⟨(BitVec.ofInt 32 (a : Int) &&& ~~~BitVec.ofInt 32 (b : Int)).toNat, ?_, ?_, fun i hi => ?_⟩
  · show IntKind.u32.wrap (((BitVec.ofInt 32 (a : Int) &&& ~~~BitVec.ofInt 32 (b : Int)).toNat : Nat) : Int) = _
    rw [IntKind.wrap_u32]
    have := (BitVec.ofInt 32 (a : Int) &&& ~~~BitVec.ofInt 32 (b : Int)).isLt
    omega
  · rw [BitVec.toNat_and, BitVec.ofInt_natCast, BitVec.toNat_ofNat]
    exact Nat.le_trans Nat.and_le_left (Nat.mod_le _ _)
  · rw [BitVec.testBit_toNat, BitVec.getLsbD_and, BitVec.getLsbD_not, BitVec.ofInt_natCast, BitVec.ofInt_natCast, BitVec.getLsbD_ofNat, BitVec.getLsbD_ofNat]
    simp [hi]
theorem bit_or_set (a k : Nat) : (a ||| 2 ^ k).testBit k = true := by rw [Nat.testBit_or, Nat.testBit_two_pow]; simp
theorem bit_or_other (a k i : Nat) (h : k ≠ i) : (a ||| 2 ^ k).testBit i = a.testBit i := by rw [Nat.testBit_or, Nat.testBit_two_pow]; simp [h]
/-- a profile without a clause, and with it -/
theorem clause_off (a k : Nat) (ha : a < 4294967296) (hk : k < 30) : ∃ r : Nat, r < 1073741824 ∧ Go.bits .andNot .u32 (Go.bits .and .u32 (a : Int) 1073741823) (shl .u32 1 (k : Int)) = (r : Int) ∧ Go.bits .or .u32 (r : Int) (shl .u32 1 (k : Int)) = ((r ||| 2 ^ k : Nat) : Int) ∧ r ||| 2 ^ k < 1073741824 ∧ hasB r (k : Int) = false ∧ hasB (r ||| 2 ^ k) (k : Int) = true ∧ ∀ c : Nat, c < 30 → c ≠ k → hasB (r ||| 2 ^ k) (c : Int) = hasB r (c : Int) := by
  have hm : a % 1073741824 < 1073741824 := Nat.mod_lt _ (by decide)
  have hp : 2 ^ k < 1073741824 := Nat.pow_lt_pow_right (by decide) hk
  obtain ⟨r, h1, h2, h3⟩ := bits_andnot32 (a % 1073741824) (2 ^ k) (by omega) (by omega)
  have hs : shl .u32 1 (k : Int) = ((2 ^ k : Nat) : Int) := by
    unfold shl
    rw [Int.toNat_natCast, show min k IntKind.u32.bits = k from Nat.min_eq_left (by show k ≤ 32; omega), IntKind.wrap_u32, Int.one_mul, show ((2 : Int) ^ k) = ((2 ^ k : Nat) : Int) by simp]
    generalize 2 ^ k = q at hp ⊢
    omega
  have hor : r ||| 2 ^ k < 1073741824 := Nat.or_lt_two_pow (n := 30) (show r < 2 ^ 30 by omega) hp
  refine ⟨r, by omega, ?_, ?_, hor, ?_, ?_, fun c hc hne => ?_⟩
  · rw [bits_mask32 a ha, hs]; exact h1
  · rw [hs]; exact bits_or32 r (2 ^ k) (by omega) (by omega)
  · rw [hasB_nat _ _ hk, h3 k (by omega), Nat.testBit_two_pow]; simp
  · rw [hasB_nat _ _ hk]; exact bit_or_set r k
  · rw [hasB_nat _ _ hc, hasB_nat _ _ hc]; exact bit_or_other r k c (fun e => hne e.symm)
theorem known_ev : Ev (fun k => parallaxlaw5_known.f k) true := Ev.of (fun k => parallaxlaw5_known.mono k) (k := 40) (by decide +kernel)
end Go.Proofs.YtjnphebgbdjohaaDoor.PQuirksNames
