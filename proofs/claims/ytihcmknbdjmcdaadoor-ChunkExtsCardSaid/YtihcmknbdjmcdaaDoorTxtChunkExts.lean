/- What the printed functions of the text layer come to. -/
import Derived.Test.YtihcmknbdjmcdaaDoorPChunkExtsx
import Derived.Test.YtihcmknbdjmcdaaDoorParts
import Derived.Test.YtihcmknbdjmcdaaDoorLowP
import Derived.Test.YtihcmknbdjmcdaaDoorTrimP
import Derived.Test.YtihcmknbdjmcdaaDoorHex
import Derived.Lib.ItoaLen
namespace Go.Proofs.YtihcmknbdjmcdaaDoor.PChunkExts
open Go.RowKit Go.Proofs.YtihcmknbdjmcdaaDoorW.PrintWords Go.Proofs.YtihcmknbdjmcdaaDoorW.PrintLast Go.Proofs.YtihcmknbdjmcdaaDoorW.PrintMore Go.Proofs.YtihcmknbdjmcdaaDoor.Aid Go.Proofs.YtihcmknbdjmcdaaDoor.Parts
set_option linter.unusedVariables false
set_option linter.unusedSimpArgs false

theorem rdOf_mem (l : List ByteArray) (j : Nat) (h : j < l.length) : rdOf ByteArray.empty l (j : Int) ∈ l := by
  unfold rdOf; simp [List.getD_eq_getElem?_getD, h]
theorem trim_some {s : ByteArray} (h : s.size ≤ 9223372036854775807) : text_Trim.f s = some (Trim.trimB Trim.blankB s) := by unfold text_Trim.f; rw [if_pos h]
/-- is a byte of a kind? -/
def ofB (c kind : Int) : Bool := (octet_of.f c kind).getD false
/-- is each byte of a text of one of some kinds? -/
def allB (s : ByteArray) (l : List Int) : Bool := (bytesOf s).all fun c => l.any (ofB c)


theorem of_k (kind : Fin 8) : ∀ n : Fin 256, octet_of.f (n.val : Int) (kind.val : Int) = some (ofB (n.val : Int) (kind.val : Int)) := by
  revert kind; decide +kernel

theorem of_far {c kind : Int} (h : ¬ (1 ≤ kind ∧ kind ≤ 6)) : octet_of.f c kind = some false := by
  unfold octet_of.f
  rw [if_neg (by omega), if_neg (by omega), if_neg (by omega), if_neg (by omega), if_neg (by omega), if_neg (by omega)]

theorem of_some {c : Int} (h0 : 0 ≤ c) (h1 : c < 256) (kind : Int) : octet_of.f c kind = some (ofB c kind) := by
  by_cases hk : 0 ≤ kind ∧ kind < 8
  · have := byte_all (p := fun c => octet_of.f c kind = some (ofB c kind)) (fun n => by
      have := of_k ⟨kind.toNat, by omega⟩ n
      rwa [show ((⟨kind.toNat, by omega⟩ : Fin 8).val : Int) = kind by simp; omega] at this) h0 h1
    exact this
  · have := of_far (c := c) (kind := kind) (by omega)
    unfold ofB; rw [this]; rfl

/-- one text's byte against the kinds from the j-th on -/
theorem own_in (s : ByteArray) (l : List Int) (hl : l.length < 9223372036854775807) (hs : s.size < 9223372036854775807) (i : Nat) (hi : i < s.size) (R : Bool)
    (hR : Ev (fun k => octet_All.l0 k s l (s.size : Int) ((i + 1 : Nat) : Int)) R) (d : Nat) : ∀ (j : Nat) (b : Bool), j + d = l.length →
    Ev (fun k => octet_All.l1 k s l (i : Int) b (s.size : Int) (i : Int) l (l.length : Int) (j : Int)) (if (b || (l.drop j).any (ofB (bt s (i : Int)))) = true then R else false) := by
  induction d with
  | zero =>
    intro j b hj
    refine Ev.step (fun _ => octet_All.l1.eq_2 ..) (Ev.neg (by omega) ?_)
    rw [List.drop_of_length_le (by omega), List.any_nil, Bool.or_false, wrap_nat (by omega)]
    exact Ev.cond (fun _ => hR) (fun _ => Ev.now _)
  | succ d ih =>
    intro j b hj
    have hw : wrap64 ((j : Int) + 1) = ((j + 1 : Nat) : Int) := wrap_nat (by omega)
    refine Ev.step (fun _ => octet_All.l1.eq_2 ..) (Ev.pos (by omega) (Ev.pos (by omega) (Ev.pos (by omega) ?_)))
    rw [drop_rd l j (by omega), List.any_cons, hw]
    cases b with
    | true => exact Ev.pos rfl ((ih (j + 1) true (by omega)).to (by simp))
    | false =>
      refine Ev.neg (by simp) (Ev.pos (by omega) (Ev.pos (by omega) ?_))
      have := bt_lt s (i : Int)
      exact Ev.val (of_some this.1 this.2 _) ((ih (j + 1) _ (by omega)).to (by rw [Bool.false_or]))

theorem own_out (s : ByteArray) (l : List Int) (hl : l.length < 9223372036854775807) (hs : s.size < 9223372036854775807) (d : Nat) : ∀ (i : Nat), i + d = s.size →
    Ev (fun k => octet_All.l0 k s l (s.size : Int) (i : Int)) (((bytesOf s).drop i).all fun c => l.any (ofB c)) := by
  induction d with
  | zero =>
    intro i hi
    refine Ev.step (fun _ => octet_All.l0.eq_2 ..) (Ev.neg (by omega) ?_)
    rw [List.drop_of_length_le (by rw [bytesOf_length]; omega)]; exact Ev.now _
  | succ d ih =>
    intro i hi
    refine Ev.step (fun _ => octet_All.l0.eq_2 ..) (Ev.pos (by omega) ?_)
    refine (own_in s l hl hs i (by omega) _ (ih (i + 1) (by omega)) l.length 0 false (by omega)).to ?_
    rw [drop_bytes s i (by omega), List.all_cons, List.drop_zero, Bool.false_or]
    cases l.any (ofB (bt s (i : Int))) <;> simp

theorem own_ev (s : ByteArray) (l : List Int) (hl : l.length < 9223372036854775807) (hs : s.size < 9223372036854775807) : Ev (fun k => octet_All.f k s l) (allB s l) :=
  (own_out s l hl hs s.size 0 (by omega)).to (by rw [List.drop_zero]; rfl)

theorem all_app (s t : ByteArray) (l : List Int) : allB (s ++ t) l = (allB s l && allB t l) := by
  unfold allB bytesOf
  rw [show (s ++ t).data.toList = s.data.toList ++ t.data.toList by simp [ByteArray.data_append], List.map_append, List.all_append]
/-- a digit's value -/
def hexV (c : Int) : Int := ((octet_Hex.f c).getD (0, false)).1
def valA (b : Int) (n : Int) (l : List Int) : Int := l.foldl (fun n d => n * b + d) n
theorem hex_all : ∀ n : Fin 256, octet_Hex.f (n.val : Int) = some (hexV (n.val : Int), ((octet_Hex.f (n.val : Int)).getD (0, false)).2) ∧ 0 ≤ hexV (n.val : Int) ∧ hexV (n.val : Int) ≤ 15 := by decide +kernel
theorem hex_at {c : Int} (h : 0 ≤ c ∧ c < 256) : octet_Hex.f c = some (hexV c, ((octet_Hex.f c).getD (0, false)).2) ∧ 0 ≤ hexV c ∧ hexV c ≤ 15 :=
  byte_all (p := fun c => octet_Hex.f c = some (hexV c, ((octet_Hex.f c).getD (0, false)).2) ∧ 0 ≤ hexV c ∧ hexV c ≤ 15) hex_all h.1 h.2
theorem valA_ge {b : Int} (hb : 1 ≤ b) (l : List Int) : ∀ n : Int, 0 ≤ n → (∀ d ∈ l, 0 ≤ d) → n ≤ valA b n l := by
  induction l with
  | nil => intro n _ _; exact Int.le_refl _
  | cons d l ih =>
    intro n hn hd
    have h0 := hd d (by simp)
    have h1 : n ≤ n * b := by have := Int.mul_le_mul_of_nonneg_left hb hn; rwa [Int.mul_one] at this
    have := ih (n * b + d) (by omega) (fun x hx => hd x (by simp [hx]))
    show n ≤ valA b (n * b + d) l
    omega
theorem vals_nonneg (s : ByteArray) (i : Nat) : ∀ d ∈ ((bytesOf s).map hexV).drop i, 0 ≤ d := by
  intro d hd
  obtain ⟨c, hc, rfl⟩ := List.mem_map.mp (List.mem_of_mem_drop hd)
  exact (hex_at (bytes_lt s hc)).2.1
theorem read_loop (s : ByteArray) (b most : Int) (hb : 2 ≤ b) (hb2 : b ≤ 16) (hm : most ≤ 9223372036854775807) (hs : s.size < 9223372036854775807) (d : Nat) : ∀ (i : Nat) (n : Int), i + d = s.size → 0 ≤ n → n ≤ most →
    Ev (fun k => number_read.l0 k s b most n (s.size : Int) (i : Int)) (if valA b n (((bytesOf s).map hexV).drop i) ≤ most then (valA b n (((bytesOf s).map hexV).drop i), 0) else (0, 23)) := by
  induction d with
  | zero =>
    intro i n hi h0 h1
    refine Ev.step (fun _ => number_read.l0.eq_2 ..) (Ev.neg (by omega) ((Ev.now _).to ?_))
    rw [List.drop_of_length_le (by rw [List.length_map, bytesOf_length]; omega)]
    exact (if_pos h1).symm
  | succ d ih =>
    intro i n hi h0 h1
    have h9 : i < 9223372036854775807 := by omega
    have hlt : i < ((bytesOf s).map hexV).length := by rw [List.length_map, bytesOf_length]; omega
    have hbt := bt_lt s (i : Int)
    obtain ⟨e1, e2, e3⟩ := hex_at hbt
    have hdrop : ((bytesOf s).map hexV).drop i = hexV (bt s (i : Int)) :: ((bytesOf s).map hexV).drop (i + 1) := by
      rw [← List.map_drop, drop_bytes s i (by omega), List.map_cons, List.map_drop]
    rw [hdrop]
    have hnn := vals_nonneg s (i + 1)
    refine Ev.step (fun _ => number_read.l0.eq_2 ..) (Ev.pos (by omega) (Ev.pos (by omega) (Ev.pos (by omega) (Ev.val e1 ?_))))
    show Ev (fun k => if hexV (bt s (i : Int)) > most then _ else _) (if valA b (n * b + hexV (bt s (i : Int))) (((bytesOf s).map hexV).drop (i + 1)) ≤ most then _ else _)
    rw [wrap_nat h9]
    generalize hexV (bt s (i : Int)) = v at e2 e3 ⊢
    have ih' := fun (n : Int) (h0 : 0 ≤ n) (h1 : n ≤ most) => ih (i + 1) n (by omega) h0 h1
    clear ih
    generalize ((bytesOf s).map hexV).drop (i + 1) = l at hnn ih' ⊢
    have hge := valA_ge (b := b) (by omega) l (n * b + v) (by have := Int.mul_nonneg h0 (show 0 ≤ b by omega); omega) hnn
    have hnb := Int.mul_nonneg h0 (show 0 ≤ b by omega)
    by_cases hv : v > most
    · exact Ev.pos hv ((Ev.now _).to (if_neg (by omega)).symm)
    · refine Ev.neg hv (Ev.neg (by omega) ?_)
      have hw1 : wrap64 (most - v) = most - v := wrap_in (by omega) (by omega)
      have hq : Int.tdiv (most - v) b = (most - v) / b := Int.tdiv_eq_ediv_of_nonneg (by omega)
      have hq2 : (most - v) / b ≤ most - v := Int.ediv_le_self _ (by omega)
      have hq3 : 0 ≤ (most - v) / b := Int.ediv_nonneg (by omega) (by omega)
      have hw2 : wrap64 ((most - v) / b) = (most - v) / b := wrap_in (by omega) (by omega)
      rw [hw1, hq, hw2]
      clear hw1 hw2 hq
      have hiff := Int.ediv_lt_iff_lt_mul (a := most - v) (b := n) (c := b) (by omega)
      clear hq2 hq3
      by_cases hc : n > (most - v) / b
      · have := hiff.mp hc
        exact Ev.pos hc ((Ev.now _).to (if_neg (by omega)).symm)
      · have h2 : ¬ most - v < n * b := fun h => hc (hiff.mpr h)
        clear hiff
        refine Ev.neg hc ?_
        have hw3 : wrap64 (n * b) = n * b := wrap_in (by omega) (by omega)
        rw [hw3]
        clear hw3
        have hw4 : wrap64 (n * b + v) = n * b + v := wrap_in (by omega) (by omega)
        rw [hw4]
        exact ih' (n * b + v) (by omega) (by omega)
/-- the number that a text says -/
def readB (s : ByteArray) (b most kind : Int) : Int × Int := if bytesOf s = [] ∨ allB s [kind] = false then (0, 22) else if valA b 0 ((bytesOf s).map hexV) ≤ mx most 0 then (valA b 0 ((bytesOf s).map hexV), 0) else (0, 23)
theorem bytes_nil (s : ByteArray) : s.toList = ([] : List UInt8) ↔ bytesOf s = [] := by rw [ByteArray.toList_eq]; unfold bytesOf; simp
theorem read_ev (s : ByteArray) (b most kind : Int) (hb : 2 ≤ b) (hb2 : b ≤ 16) (hm : most ≤ 9223372036854775807) (hs : s.size < 9223372036854775807) : Ev (fun k => number_read.f k s b most kind) (readB s b most kind) := by
  unfold number_read.f readB
  by_cases h : s.toList = ([] : List UInt8)
  · rw [if_pos (.inl ((bytes_nil s).mp h))]
    exact Ev.pos h (Ev.step (fun _ => number_read.j0.eq_2 ..) (Ev.pos rfl (Ev.now _)))
  · refine Ev.neg h (Ev.bind (own_ev s [kind] (by simp) hs) (Ev.step (fun _ => number_read.j0.eq_2 ..) ?_))
    have h' : ¬ bytesOf s = [] := fun e => h ((bytes_nil s).mpr e)
    cases ha : allB s [kind] with
    | false => rw [if_pos (.inr rfl)]; exact Ev.pos rfl (Ev.now _)
    | true =>
      rw [if_neg (by simp [h'])]
      have h0 : 0 ≤ mx most 0 := by unfold mx; split <;> omega
      have h1 : mx most 0 ≤ 9223372036854775807 := by unfold mx; split <;> omega
      exact Ev.neg (by simp) ((read_loop s b (mx most 0) hb hb2 h1 hs s.size 0 0 (by omega) (by omega) h0).to (by rw [List.drop_zero]))
theorem hexn_ev (s : ByteArray) (most : Int) (hm : most ≤ 9223372036854775807) (hs : s.size < 9223372036854775807) : Ev (fun k => number_Hex.f k s most) (readB s 16 most 5) := by
  unfold number_Hex.f; exact Ev.bind (read_ev s 16 most 5 (by omega) (by omega) hm hs) (Ev.now _)
/-- these bytes are a number's digits -/
def Num (b kind : Int) (l : List Int) (n : Nat) : Prop := l ≠ [] ∧ (∀ c ∈ l, ofB c kind = true) ∧ valA b 0 (l.map hexV) = (n : Int)
theorem num_one {b kind : Int} {c : Int} {d : Nat} (h : ofB c kind = true) (hv : hexV c = d) : Num b kind [c] d := ⟨by simp, by simp [h], by simp [valA, hv]⟩
theorem num_app {b kind : Int} {l : List Int} {n : Nat} (h : Num b kind l n) {c : Int} {d : Nat} (hk : ofB c kind = true) (hv : hexV c = d) {m : Nat} (hm : (m : Int) = n * b + d) : Num b kind (l ++ [c]) m := by
  obtain ⟨h1, h2, h3⟩ := h
  refine ⟨by simp, fun x hx => ?_, ?_⟩
  · rcases List.mem_append.mp hx with e | e
    · exact h2 x e
    · rw [List.mem_singleton.mp e]; exact hk
  · unfold valA at h3 ⊢
    rw [List.map_append, List.foldl_append, h3, hm]; simp [hv]
theorem num_zero {b kind : Int} {l : List Int} {n : Nat} (h : Num b kind l n) (hk : ofB 48 kind = true) (hv : hexV 48 = 0) : Num b kind (48 :: l) n := by
  obtain ⟨h1, h2, h3⟩ := h
  refine ⟨by simp, fun x hx => ?_, ?_⟩
  · rcases List.mem_cons.mp hx with e | e
    · rw [e]; exact hk
    · exact h2 x e
  · rw [← h3]; simp [valA, hv]
theorem num_read {b kind : Int} {s : ByteArray} {n : Nat} (h : Num b kind (bytesOf s) n) (most : Int) : readB s b most kind = if (n : Int) ≤ mx most 0 then ((n : Int), 0) else (0, 23) := by
  unfold readB
  have ha : allB s [kind] = true := by
    unfold allB; rw [List.all_eq_true]; intro c hc; simp [h.2.1 c hc]
  rw [if_neg (by simp [h.1, ha]), h.2.2]
theorem dig10 : ∀ d : Fin 10, ofB (48 + (d.val : Int)) 4 = true ∧ hexV (48 + (d.val : Int)) = (d.val : Int) := by decide +kernel
theorem dig16 : ∀ d : Fin 16, ofB (Hex.dig d.val) 5 = true ∧ hexV (Hex.dig d.val) = (d.val : Int) := by decide +kernel
theorem nought : (ofB 48 4 = true ∧ ofB 48 5 = true) ∧ hexV 48 = 0 := by decide +kernel
theorem dec_byte (d : Nat) (h : d < 10) : (((UInt8.ofNat (48 + d)).toNat : Nat) : Int) = 48 + (d : Int) := by
  rw [UInt8.toNat_ofNat_of_lt' (by show 48 + d < 256; omega)]; omega
theorem dec_num (u : Nat) : Num 10 4 ((Lib.decDigits u).map fun b => (b.toNat : Int)) u := by
  induction u using Nat.strongRecOn with
  | _ u ih =>
    have hm : u % 10 < 10 := Nat.mod_lt _ (by decide)
    rw [Lib.decDigits]
    by_cases h : u < 10
    · rw [dif_pos h, List.map_cons, List.map_nil, dec_byte u h]
      exact num_one (dig10 ⟨u, h⟩).1 (dig10 ⟨u, h⟩).2
    · rw [dif_neg h, List.map_append, List.map_cons, List.map_nil, dec_byte _ hm]
      exact num_app (ih (u / 10) (by omega)) (dig10 ⟨u % 10, hm⟩).1 (dig10 ⟨u % 10, hm⟩).2 (by simp only; omega)
theorem hexL_num (f : Nat) : ∀ u : Nat, u < 16 ^ (f + 1) → Num 16 5 (Hex.hexL (f + 1) u) u := by
  induction f with
  | zero => intro u h; have h : u < 16 := by simpa using h
            rw [Hex.hexL_lt _ _ h]; exact num_one (dig16 ⟨u, h⟩).1 (dig16 ⟨u, h⟩).2
  | succ f ih =>
    intro u h
    by_cases h1 : u < 16
    · rw [Hex.hexL_lt _ _ h1]; exact num_one (dig16 ⟨u, h1⟩).1 (dig16 ⟨u, h1⟩).2
    · have hm : u % 16 < 16 := Nat.mod_lt _ (by decide)
      rw [Hex.hexL_ge _ _ h1]
      rw [Nat.pow_succ] at h
      exact num_app (ih (u / 16) (Nat.div_lt_of_lt_mul (by rw [Nat.mul_comm]; exact h))) (dig16 ⟨u % 16, hm⟩).1 (dig16 ⟨u % 16, hm⟩).2 (by simp only; omega)
theorem hexL_range (f : Nat) : ∀ u : Nat, ∀ x ∈ Hex.hexL f u, 0 ≤ x ∧ x < 256 := by
  induction f with
  | zero => intro u x hx; simp [Hex.hexL] at hx
  | succ f ih =>
    intro u x hx
    by_cases h1 : u < 16
    · rw [Hex.hexL_lt _ _ h1] at hx; rw [List.mem_singleton.mp hx]; have := Hex.dig_range h1; omega
    · rw [Hex.hexL_ge _ _ h1] at hx
      rcases List.mem_append.mp hx with e | e
      · exact ih _ x e
      · rw [List.mem_singleton.mp e]; have := Hex.dig_range (Nat.mod_lt u (show 0 < 16 by decide)); omega
def decB (n : Nat) : ByteArray := ⟨(Lib.decDigits n).toArray⟩
theorem decB_num (n : Nat) : Num 10 4 (bytesOf (decB n)) n := by
  have := dec_num n
  unfold bytesOf decB; exact this
theorem hexB_num (n : Nat) (h : n < 9223372036854775808) : Num 16 5 (bytesOf (Hex.hexB n)) n := by
  unfold Hex.hexB; rw [LowP.bytes_nums (hexL_range 17 n)]; exact hexL_num 16 n (by omega)
theorem decB_size (n : Nat) (h : n < 9223372036854775808) : (decB n).size ≤ 21 := by
  have := Lib.itoa_length_le (n : Int) (by omega) (by omega)
  unfold Lib.itoa at this; rw [if_neg (by omega)] at this
  simpa [decB, ByteArray.size] using this
theorem hexL_len (f : Nat) : ∀ u, (Hex.hexL f u).length ≤ f := by
  induction f with
  | zero => intro u; simp [Hex.hexL]
  | succ f ih =>
    intro u
    by_cases h1 : u < 16
    · rw [Hex.hexL_lt _ _ h1]; simp
    · rw [Hex.hexL_ge _ _ h1]; have := ih (u / 16); simp; omega
theorem hexB_size (n : Nat) : (Hex.hexB n).size ≤ 17 := by
  unfold Hex.hexB; rw [strOfNums_size]; exact hexL_len 17 n
theorem puthex_some (a : Int) (h : a ≤ 9223372036854775807) : number_PutHex.f a = some (Hex.hexB (mx a 0).toNat) := by
  have h0 : 0 ≤ mx a 0 := by unfold mx; split <;> omega
  have h1 : mx a 0 ≤ 9223372036854775807 := by unfold mx; split <;> omega
  unfold number_PutHex.f strconv_FormatInt.f
  rw [if_pos ⟨rfl, h0, h1⟩, Option.bind_some]
theorem digit_at : ∀ d : Fin 16, (⟨#[48, 49, 50, 51, 52, 53, 54, 55, 56, 57, 97, 98, 99, 100, 101, 102]⟩ : ByteArray).extract d.val (d.val + 1) = strOfNums [Hex.dig d.val] := by decide +kernel
theorem digit_dec : ∀ d : Fin 10, strOfNums [Hex.dig d.val] = (⟨#[UInt8.ofNat (48 + d.val)]⟩ : ByteArray) := by decide +kernel
theorem rput_low (n b : Nat) (hb : b ≤ 16) (h : n < b) : Ev (fun k => parallaxref1_put.f k (n : Int) (b : Int)) (strOfNums [Hex.dig n]) := by
  have hm : mx (n : Int) 0 = (n : Int) := by unfold mx; rw [if_neg (by omega)]
  refine Ev.step (fun _ => parallaxref1_put.f.eq_2 ..) (Ev.pos (by omega) ?_)
  rw [hm, show wrap64 ((n : Int) + 1) = ((n + 1 : Nat) : Int) from wrap_nat (by omega)]
  refine Ev.pos (by omega) (Ev.pos (by omega) (Ev.pos (by omega) ((Ev.now _).to ?_)))
  rw [Int.toNat_natCast, Int.toNat_natCast]
  exact digit_at ⟨n, by omega⟩
theorem rput_neg (n : Int) (b : Nat) (h : n ≤ 0) (hb0 : 1 ≤ b) (hb : b ≤ 16) : Ev (fun k => parallaxref1_put.f k n (b : Int)) (strOfNums [Hex.dig 0]) := by
  have hm : mx n 0 = ((0 : Nat) : Int) := by unfold mx; split <;> omega
  refine Ev.step (fun _ => parallaxref1_put.f.eq_2 ..) (Ev.pos (by omega) ?_)
  rw [hm, show wrap64 (((0 : Nat) : Int) + 1) = ((0 + 1 : Nat) : Int) from wrap_nat (by omega)]
  refine Ev.pos (by omega) (Ev.pos (by omega) (Ev.pos (by omega) ((Ev.now _).to ?_)))
  exact digit_at ⟨0, by omega⟩
theorem rput_step (n b : Nat) (hb0 : 2 ≤ b) (hb : b ≤ 16) (hn : n < 9223372036854775808) (h : ¬ n < b) (s : ByteArray) (hs : s.size ≤ 1000) (hi : Ev (fun k => parallaxref1_put.f k ((n / b : Nat) : Int) (b : Int)) s) : Ev (fun k => parallaxref1_put.f k (n : Int) (b : Int)) (s ++ strOfNums [Hex.dig (n % b)]) := by
  have hmod : n % b < b := Nat.mod_lt _ (by omega)
  have hq : wrap64 (Int.tdiv (n : Int) (b : Int)) = ((n / b : Nat) : Int) := by
    rw [Int.tdiv_eq_ediv_of_nonneg (by omega), ← Int.natCast_ediv]
    have := Nat.div_le_self n b
    generalize n / b = q at this ⊢
    exact wrap_in (by omega) (by omega)
  have hr : Int.tmod (n : Int) (b : Int) = ((n % b : Nat) : Int) := by rw [Int.tmod_eq_emod_of_nonneg (by omega), ← Int.natCast_emod]
  refine Ev.step (fun _ => parallaxref1_put.f.eq_2 ..) (Ev.neg (by omega) (Ev.neg (by omega) ?_))
  rw [hq, hr]
  refine Ev.bind hi (Ev.bind (rput_low (n % b) b hb hmod) (Ev.pos ?_ (Ev.now _)))
  rw [strOfNums_size]; simp; omega
theorem decB_low (u : Nat) (h : u < 10) : decB u = strOfNums [Hex.dig u] := by
  rw [digit_dec ⟨u, h⟩]; unfold decB; rw [Lib.decDigits, dif_pos h]
theorem decB_step (u : Nat) (h : ¬ u < 10) : decB u = decB (u / 10) ++ strOfNums [Hex.dig (u % 10)] := by
  rw [digit_dec ⟨u % 10, Nat.mod_lt _ (by decide)⟩]
  apply ba_inj
  have e : (decB u).data.toList = Lib.decDigits u := rfl
  have e2 : (decB (u / 10)).data.toList = Lib.decDigits (u / 10) := rfl
  rw [e, Lib.decDigits, dif_neg h]
  rw [show (decB (u / 10) ++ (⟨#[UInt8.ofNat (48 + u % 10)]⟩ : ByteArray)).data.toList = (decB (u / 10)).data.toList ++ [UInt8.ofNat (48 + u % 10)] by simp [ByteArray.data_append], e2]
theorem rput_dec (n : Nat) : n < 9223372036854775808 → Ev (fun k => parallaxref1_put.f k (n : Int) 10) (decB n) := by
  induction n using Nat.strongRecOn with
  | _ n ih =>
    intro hn
    by_cases h : n < 10
    · rw [decB_low n h]; exact rput_low n 10 (by decide) h
    · rw [decB_step n h]
      have hd : n / 10 < n := by omega
      exact rput_step n 10 (by decide) (by decide) hn h _ (by have := decB_size (n / 10) (by omega); omega) (ih (n / 10) hd (by omega))
theorem hexL_more (f : Nat) : ∀ u : Nat, u < 16 ^ (f + 1) → Hex.hexL (f + 2) u = Hex.hexL (f + 1) u := by
  induction f with
  | zero => intro u h; have h : u < 16 := by simpa using h
            rw [Hex.hexL_lt _ _ h, Hex.hexL_lt _ _ h]
  | succ f ih =>
    intro u h
    by_cases h1 : u < 16
    · rw [Hex.hexL_lt _ _ h1, Hex.hexL_lt _ _ h1]
    · rw [Hex.hexL_ge _ _ h1, Hex.hexL_ge _ _ h1]
      rw [Nat.pow_succ] at h
      rw [ih (u / 16) (Nat.div_lt_of_lt_mul (by rw [Nat.mul_comm]; exact h))]
theorem nums_app (l m : List Int) : strOfNums (l ++ m) = strOfNums l ++ strOfNums m := by
  apply ba_inj
  rw [strOfNums_data, show (strOfNums l ++ strOfNums m).data.toList = (strOfNums l).data.toList ++ (strOfNums m).data.toList by simp [ByteArray.data_append], strOfNums_data, strOfNums_data, List.map_append]
theorem hexB_low (u : Nat) (h : u < 16) : Hex.hexB u = strOfNums [Hex.dig u] := by unfold Hex.hexB; rw [Hex.hexL_lt _ _ h]
theorem hexB_step (u : Nat) (h : ¬ u < 16) (hu : u < 9223372036854775808) : Hex.hexB u = Hex.hexB (u / 16) ++ strOfNums [Hex.dig (u % 16)] := by
  unfold Hex.hexB; rw [Hex.hexL_ge _ _ h, nums_app, hexL_more 15 (u / 16) (by omega)]
theorem rput_hex (n : Nat) : n < 9223372036854775808 → Ev (fun k => parallaxref1_put.f k (n : Int) 16) (Hex.hexB n) := by
  induction n using Nat.strongRecOn with
  | _ n ih =>
    intro hn
    by_cases h : n < 16
    · rw [hexB_low n h]; exact rput_low n 16 (by decide) h
    · rw [hexB_step n h hn]
      exact rput_step n 16 (by decide) (by decide) hn h _ (by have := hexB_size (n / 16); omega) (ih (n / 16) (by omega) (by omega))
theorem rPutHex_ev (n : Int) (h : n ≤ 9223372036854775807) : Ev (fun k => parallaxref1_PutHex.f k n) (Hex.hexB (mx n 0).toNat) := by
  unfold parallaxref1_PutHex.f
  refine Ev.bind (a := Hex.hexB (mx n 0).toNat) ?_ (Ev.now _)
  by_cases h0 : n ≤ 0
  · have hm : mx n 0 = ((0 : Nat) : Int) := by unfold mx; split <;> omega
    rw [hm, Int.toNat_natCast, hexB_low 0 (by decide)]; exact rput_neg n 16 h0 (by decide) (by decide)
  · have hm : mx n 0 = n := by unfold mx; rw [if_neg (by omega)]
    obtain ⟨m, rfl⟩ : ∃ m : Nat, n = (m : Int) := ⟨n.toNat, by omega⟩
    rw [hm, Int.toNat_natCast]; exact rput_hex m (by omega)
theorem bits_and32 (a b : Nat) (ha : a < 4294967296) (hb : b < 4294967296) : Go.bits .and .u32 (a : Int) (b : Int) = ((a &&& b : Nat) : Int) :=
  (Go.bits_nat .u32 32 (by decide) (fun n h0 h1 => by rw [IntKind.wrap_u32]; omega) a b ha hb).1
theorem bits_or32 (a b : Nat) (ha : a < 4294967296) (hb : b < 4294967296) : Go.bits .or .u32 (a : Int) (b : Int) = ((a ||| b : Nat) : Int) :=
  (Go.bits_nat .u32 32 (by decide) (fun n h0 h1 => by rw [IntKind.wrap_u32]; omega) a b ha hb).2
theorem bits_shr32 (a c : Nat) (hc : c ≤ 32) : shr .u32 (a : Int) (c : Int) = ((a >>> c : Nat) : Int) := by
  unfold shr
  rw [Int.toNat_natCast, show min c IntKind.u32.bits = c from Nat.min_eq_left hc, Nat.shiftRight_eq_div_pow]
  simp
theorem shr_le (a c : Nat) : a >>> c ≤ a := by rw [Nat.shiftRight_eq_div_pow]; exact Nat.div_le_self _ _
/-- is a bit set? -/
theorem bit_at (a c : Nat) (ha : a < 4294967296) (hc : c ≤ 32) : (Go.bits .and .u32 (shr .u32 (a : Int) (c : Int)) 1 == 1) = a.testBit c := by
  have := shr_le a c
  rw [bits_shr32 a c hc, show (1 : Int) = ((1 : Nat) : Int) from rfl, bits_and32 _ _ (by omega) (by omega)]
  unfold Nat.testBit
  rw [Nat.and_comm]
  have h : 1 &&& (a >>> c) = 0 ∨ 1 &&& (a >>> c) = 1 := by rw [Nat.and_comm, Nat.and_one_is_mod]; omega
  rcases h with h | h <;> rw [h] <;> rfl
/-- is a clause in a profile? -/
def hasB (n : Nat) (c : Int) : Bool := decide (0 ≤ c ∧ c < 30) && n.testBit c.toNat
theorem hasB_far {n : Nat} {c : Int} (h : ¬ (0 ≤ c ∧ c < 30)) : hasB n c = false := by unfold hasB; rw [decide_eq_false h]; rfl
theorem hasB_nat (n c : Nat) (h : c < 30) : hasB n (c : Int) = n.testBit c := by unfold hasB; rw [decide_eq_true (by omega)]; simp
theorem mask30 (a : Nat) : a &&& 1073741823 = a % 1073741824 := Nat.and_two_pow_sub_one_eq_mod a 30
theorem bits_mask32 (a : Nat) (ha : a < 4294967296) : Go.bits .and .u32 (a : Int) 1073741823 = ((a % 1073741824 : Nat) : Int) := by
  rw [← mask30]; exact bits_and32 a 1073741823 ha (by decide)
theorem bit_beyond {n c : Nat} (hn : n < 1073741824) (hc : 30 ≤ c) : n.testBit c = false :=
  Nat.testBit_lt_two_pow (Nat.lt_of_lt_of_le hn (Nat.pow_le_pow_right (n := 2) (by decide) hc))
theorem qknown (c : Int) : quirks_known.f c = some (decide (0 ≤ c ∧ c < 30)) := by
  unfold quirks_known.f
  by_cases h : c ≥ 0
  · rw [if_pos h]; congr 1; simp; omega
  · rw [if_neg h]; congr 1; simp; omega
theorem qhas_some (n : Nat) (hn : n < 4294967296) (c : Int) : quirks_Has.f (n : Int) c = some (hasB n c) := by
  unfold quirks_Has.f
  rw [qknown, Option.bind_some]
  by_cases h : 0 ≤ c ∧ c < 30
  · obtain ⟨m, rfl⟩ : ∃ m : Nat, c = (m : Int) := ⟨c.toNat, by omega⟩
    rw [if_pos (decide_eq_true h), if_pos h.1, bit_at n m hn (by omega), hasB_nat n m (by omega)]
  · rw [if_neg (by simpa using h), hasB_far h]
theorem take_at (c : UInt8) (a r : List UInt8) (h : c ∉ a) : (a ++ c :: r).takeWhile (· != c) = a ∧ (a ++ c :: r).dropWhile (· != c) = c :: r := by
  induction a with
  | nil => simp
  | cons b a ih =>
    have hb : (b != c) = true := by simp only [bne_iff_ne]; intro e; exact h (by simp [e])
    obtain ⟨h1, h2⟩ := ih (fun hm => h (by simp [hm]))
    rw [List.cons_append, List.takeWhile_cons, List.dropWhile_cons, if_pos hb, if_pos hb, h1, h2]
    exact ⟨rfl, rfl⟩
theorem take_no (c : UInt8) (l : List UInt8) (h : c ∉ l) : l.takeWhile (· != c) = l ∧ l.dropWhile (· != c) = [] := by
  induction l with
  | nil => simp
  | cons b a ih =>
    have hb : (b != c) = true := by simp only [bne_iff_ne]; intro e; exact h (by simp [e])
    obtain ⟨h1, h2⟩ := ih (fun hm => h (by simp [hm]))
    rw [List.takeWhile_cons, List.dropWhile_cons, if_pos hb, if_pos hb, h1, h2]
    exact ⟨rfl, rfl⟩
/-- what stands ahead of a byte, what stands from it on, what stands behind it; is it there? -/
def beforeB (c : UInt8) (s : ByteArray) : ByteArray := BA (s.data.toList.takeWhile (· != c))
def restB (c : UInt8) (s : ByteArray) : ByteArray := BA (s.data.toList.dropWhile (· != c))
def afterB (c : UInt8) (s : ByteArray) : ByteArray := BA ((s.data.toList.dropWhile (· != c)).drop 1)
def hasC (c : UInt8) (s : ByteArray) : Bool := decide (c ∈ s.data.toList)
theorem before_size (c : UInt8) (s : ByteArray) : (beforeB c s).size ≤ s.size := by
  unfold beforeB; rw [size_BA, ← data_length s]; exact (List.takeWhile_sublist _).length_le
theorem rest_size (c : UInt8) (s : ByteArray) : (restB c s).size ≤ s.size := by
  unfold restB; rw [size_BA, ← data_length s]; exact (List.dropWhile_sublist _).length_le
theorem after_size (c : UInt8) (s : ByteArray) : (afterB c s).size ≤ s.size := by
  unfold afterB; rw [size_BA, ← data_length s, List.length_drop]; have := (List.dropWhile_sublist (l := s.data.toList) (· != c)).length_le; omega
theorem rest_ext (c : UInt8) (s : ByteArray) : s.extract (beforeB c s).size s.size = restB c s := by
  apply ba_inj
  unfold beforeB restB
  rw [ext_data, data_BA, size_BA, ← data_length s]
  rw [TrimP.drop_take_while, List.take_of_length_le]
  rw [← TrimP.drop_take_while, List.length_drop]
  exact Nat.le_refl _
theorem cut_yes (c : UInt8) (s : ByteArray) (i : Nat) (hi : i < s.size) (hc : bt s (i : Int) = (c.toNat : Int)) (hno : ∀ j, j < i → bt s (j : Int) ≠ (c.toNat : Int)) :
    beforeB c s = s.extract 0 i ∧ restB c s = s.extract i s.size ∧ afterB c s = s.extract (i + 1) s.size ∧ hasC c s = true := by
  have hl : i < s.data.toList.length := by rw [data_length]; exact hi
  have hci : s.data.toList[i] = c := by
    rw [bt_nat s i hi] at hc
    have : (s[i]'hi) = c := by apply UInt8.toNat_inj.mp; omega
    exact this
  have hnm : c ∉ s.data.toList.take i := by
    intro hm
    obtain ⟨n, hn, he⟩ := List.mem_iff_getElem.mp hm
    rw [List.length_take, data_length] at hn
    rw [List.getElem_take] at he
    have h1 := hno n (by omega)
    rw [bt_nat s n (by omega)] at h1
    exact h1 (congrArg (fun z : UInt8 => (z.toNat : Int)) he)
  have e : s.data.toList = s.data.toList.take i ++ c :: s.data.toList.drop (i + 1) := by
    conv => lhs; rw [← List.take_append_drop i s.data.toList, List.drop_eq_getElem_cons hl, hci]
  obtain ⟨t1, t2⟩ := take_at c _ (s.data.toList.drop (i + 1)) hnm
  rw [← e] at t1 t2
  unfold beforeB restB afterB hasC
  rw [t1, t2]
  refine ⟨?_, ?_, ?_, ?_⟩
  · rw [ext_BA, List.drop_zero, Nat.sub_zero]
  · rw [ext_BA, ← hci, ← List.drop_eq_getElem_cons hl, List.take_of_length_le (by rw [List.length_drop, data_length]; omega)]
  · rw [ext_BA, List.take_of_length_le (by rw [List.length_drop, data_length]; omega)]; rfl
  · rw [decide_eq_true_eq, e]; simp
theorem cut_no (c : UInt8) (s : ByteArray) (hno : ∀ j, j < s.size → bt s (j : Int) ≠ (c.toNat : Int)) : beforeB c s = s ∧ restB c s = BA [] ∧ afterB c s = BA [] ∧ hasC c s = false := by
  have hnm : c ∉ s.data.toList := by
    intro hm
    obtain ⟨n, hn, he⟩ := List.mem_iff_getElem.mp hm
    rw [data_length] at hn
    have h1 := hno n hn
    rw [bt_nat s n hn] at h1
    exact h1 (congrArg (fun z : UInt8 => (z.toNat : Int)) he)
  obtain ⟨t1, t2⟩ := take_no c _ hnm
  unfold beforeB restB afterB hasC
  rw [t1, t2, BA_data]
  exact ⟨rfl, rfl, rfl, decide_eq_false hnm⟩
theorem cut_some (c : UInt8) (s : ByteArray) (hs : s.size < 4611686018427387904) : strings_Cut.f s (BA [c]) = some (beforeB c s, afterB c s, hasC c s) := by
  have h1 : (BA [c]).size = 1 := rfl
  have hI : stringslite_Index.f s (BA [c]) = some (Lib.indexByte s.data.toList c) := by
    unfold stringslite_Index.f; rw [if_pos h1, data_BA]; rfl
  unfold strings_Cut.f stringslite_Cut.f
  rw [hI, Option.bind_some]
  rcases Int.lt_or_le (Lib.indexByte s.data.toList c) 0 with x | x
  · have hn := index_no c _ x
    obtain ⟨t1, t2⟩ := take_no c _ hn
    rw [if_neg (by omega), Option.bind_some]
    unfold beforeB afterB hasC
    rw [t1, t2, decide_eq_false hn, BA_data]; rfl
  · obtain ⟨a, r, e, hn, hi⟩ := index_yes c _ x
    obtain ⟨t1, t2⟩ := take_at c a r hn
    have hsz : s.size = a.length + (r.length + 1) := by rw [← data_length s, e]; simp
    have hw : wrap64 (Lib.indexByte s.data.toList c + ((BA [c]).size : Int)) = ((a.length + 1 : Nat) : Int) := by
      rw [hi, h1]; exact wrap_nat (by omega)
    rw [if_pos x, if_pos x, hw, hi, if_pos (by omega), if_pos (by omega), if_pos (by omega), Option.bind_some]
    unfold beforeB afterB hasC
    rw [e, t1, t2, decide_eq_true (by simp), Int.toNat_natCast, Int.toNat_natCast]
    have e1 : s.extract 0 a.length = BA a := by rw [ext_BA, e]; simp
    have e2 : s.extract (a.length + 1) s.size = BA r := by
      rw [ext_BA, e, show (a ++ c :: r).drop (a.length + 1) = r by simp, List.take_of_length_le (by omega)]
    rw [e1, e2]; rfl
/-- does a text begin with another one? -/
def prefB (s t : ByteArray) : Bool := (s.extract 0 t.size).toList == t.toList
theorem prefix_some (s t : ByteArray) : strings_HasPrefix.f s t = some (prefB s t) := by
  unfold strings_HasPrefix.f stringslite_HasPrefix.f prefB
  by_cases h : (s.size : Int) ≥ (t.size : Int)
  · rw [if_pos h, if_pos (by omega), if_pos (by omega), Option.bind_some]
  · rw [if_neg h, Option.bind_some]
    congr 1
    symm
    rw [beq_eq_false_iff_ne]
    intro e
    have := congrArg List.length e
    rw [ByteArray.toList_eq, ByteArray.toList_eq, data_length, data_length, ByteArray.size_extract] at this
    omega
theorem pref_size {s t : ByteArray} (h : prefB s t = true) : t.size ≤ s.size := by
  unfold prefB at h
  have := congrArg List.length (beq_iff_eq.mp h)
  rw [ByteArray.toList_eq, ByteArray.toList_eq, data_length, data_length, ByteArray.size_extract] at this
  omega
/-- the size that a chunk's line says -/
def sizeB (s : ByteArray) (p : Nat) (body ext : Int) : Int × Int :=
  if ((restB 59 s).size : Int) > ext ∨ allB (restB 59 s) [6] = false then (0, 400) else
    let s1 := if hasB p 28 = true then Trim.trimB Trim.blankB (beforeB 59 s) else beforeB 59 s
    let s2 := if (hasB p 27 && (prefB s1 (⟨#[48, 120]⟩ : ByteArray) || prefB s1 (⟨#[48, 88]⟩ : ByteArray))) = true then s1.extract 2 s1.size else s1
    let r := readB s2 16 body 5
    if r.2 = 23 then (0, 413) else if r.2 = 22 then (0, 400) else (r.1, 0)
theorem trim_size (s : ByteArray) : (Trim.trimB Trim.blankB s).size ≤ s.size := by
  rw [TrimP.trimB_eq, size_BA, ← data_length s]; exact TrimP.trimU_len _ _
theorem size_j3 (s : ByteArray) (hs : s.size < 9223372036854775807) (u0 u1 u2 body u4 u5 u6 u7 : Int) (u8 u9 : Bool) (hb : body ≤ 9223372036854775807) :
    Ev (fun k => chunk_Size.j3 k s u0 u1 u2 body u4 u5 u6 u7 u8 u9) (if (readB s 16 body 5).2 = 23 then (0, 413) else if (readB s 16 body 5).2 = 22 then (0, 400) else ((readB s 16 body 5).1, 0)) :=
  Ev.step (fun _ => chunk_Size.j3.eq_2 ..) (Ev.bind (hexn_ev s body hb hs) (Ev.cond (fun _ => Ev.now _) (fun _ => Ev.cond (fun _ => Ev.now _) (fun _ => Ev.now _))))
theorem size_ev (s : ByteArray) (hs : s.size < 4611686018427387904) (p : Nat) (hp : p < 4294967296) (u0 u1 u2 body ext u5 u6 u7 : Int) (u8 u9 : Bool) (hb : body ≤ 9223372036854775807) :
    Ev (fun k => chunk_Size.f k s (p : Int) u0 u1 u2 body ext u5 u6 u7 u8 u9) (sizeB s p body ext) := by
  have hb1 := before_size 59 s
  have hr1 := rest_size 59 s
  unfold chunk_Size.f
  refine Ev.val (cut_some 59 s hs) (Ev.pos (by show (0 : Int) ≤ ((beforeB 59 s).size : Int); omega) (Ev.pos (by show ((beforeB 59 s).size : Int) ≤ (s.size : Int); omega) ?_))
  show Ev (fun k => if ((s.extract (((beforeB 59 s).size : Int)).toNat s.size).size : Int) > ext then _ else _) _
  rw [Int.toNat_natCast, rest_ext]
  unfold sizeB
  have J : ∀ b : Bool, b = false → Ev (fun k => chunk_Size.j0 k (p : Int) (beforeB 59 s) b u0 u1 u2 body ext u5 u6 u7 u8 u9) (
    let s1 := if hasB p 28 = true then Trim.trimB Trim.blankB (beforeB 59 s) else beforeB 59 s
    let s2 := if (hasB p 27 && (prefB s1 (⟨#[48, 120]⟩ : ByteArray) || prefB s1 (⟨#[48, 88]⟩ : ByteArray))) = true then s1.extract 2 s1.size else s1
    let r := readB s2 16 body 5
    if r.2 = 23 then (0, 413) else if r.2 = 22 then (0, 400) else (r.1, 0)) := by
    rintro b rfl
    have J1 : ∀ s1 : ByteArray, s1.size ≤ s.size → Ev (fun k => chunk_Size.j1 k (p : Int) s1 u0 u1 u2 body ext u5 u6 u7 u8 u9) (
      let s2 := if (hasB p 27 && (prefB s1 (⟨#[48, 120]⟩ : ByteArray) || prefB s1 (⟨#[48, 88]⟩ : ByteArray))) = true then s1.extract 2 s1.size else s1
      let r := readB s2 16 body 5
      if r.2 = 23 then (0, 413) else if r.2 = 22 then (0, 400) else (r.1, 0)) := by
      intro s1 h1
      have J2 : ∀ b : Bool, (b = true → 2 ≤ s1.size) → Ev (fun k => chunk_Size.j2 k s1 b u0 u1 u2 body ext u5 u6 u7 u8 u9) (
        let s2 := if b = true then s1.extract 2 s1.size else s1
        let r := readB s2 16 body 5
        if r.2 = 23 then (0, 413) else if r.2 = 22 then (0, 400) else (r.1, 0)) := by
        intro b h2
        refine Ev.step (fun _ => chunk_Size.j2.eq_2 ..) ?_
        cases b with
        | false => exact Ev.neg (by simp) (size_j3 s1 (by omega) u0 u1 u2 body ext u5 u6 u7 u8 u9 hb)
        | true =>
          have h2 := h2 rfl
          have hx := Trim.ext_size s1 2 s1.size (Nat.le_refl _)
          exact Ev.pos rfl (Ev.pos (by omega) (size_j3 _ (by omega) u0 u1 u2 body ext u5 u6 u7 u8 u9 hb))
      refine Ev.step (fun _ => chunk_Size.j1.eq_2 ..) (Ev.val (qhas_some p hp 27) ?_)
      cases h27 : hasB p 27 with
      | false => exact Ev.neg (by simp) (J2 false (by simp))
      | true =>
        refine Ev.pos rfl (Ev.val (prefix_some _ _) ?_)
        cases hx : prefB s1 (⟨#[48, 120]⟩ : ByteArray) with
        | true => exact Ev.pos rfl (J2 true (fun _ => pref_size hx))
        | false => exact Ev.neg (by simp) (Ev.val (prefix_some _ _) (J2 _ (fun h => pref_size h)))
    refine Ev.step (fun _ => chunk_Size.j0.eq_2 ..) (Ev.neg (by simp) (Ev.val (qhas_some p hp 28) ?_))
    have ht := trim_size (beforeB 59 s)
    cases h28 : hasB p 28 with
    | true => exact Ev.pos rfl (Ev.val (trim_some (by omega)) (J1 _ (by omega)))
    | false => exact Ev.neg (by simp) (J1 _ hb1)
  have K : ∀ b : Bool, b = true → Ev (fun k => chunk_Size.j0 k (p : Int) (beforeB 59 s) b u0 u1 u2 body ext u5 u6 u7 u8 u9) (0, 400) := by
    rintro b rfl
    exact Ev.step (fun _ => chunk_Size.j0.eq_2 ..) (Ev.pos rfl (Ev.now _))
  by_cases hx : ((restB 59 s).size : Int) > ext
  · rw [if_pos (.inl hx)]; exact Ev.pos hx (K true rfl)
  · refine Ev.neg hx (Ev.bind (own_ev (restB 59 s) [6] (by simp) (by omega)) ?_)
    cases ha : allB (restB 59 s) [6] with
    | false => rw [if_pos (.inr rfl)]; exact K _ rfl
    | true => rw [if_neg (by rintro (h | h); exact hx h; cases h)]; exact J _ rfl
/-- a part as a chunk; none if it is empty -/
def chB (c : List Int) : List Int := if c.length > 0 then bytesOf (Hex.hexB c.length) ++ [13, 10] ++ c ++ [13, 10] else []
def chunksB (l : List (List Int)) : List Int := l.flatMap chB ++ [48, 13, 10]
theorem chB_len (c : List Int) : (chB c).length ≤ c.length + 21 := by
  unfold chB
  have := hexB_size c.length
  split
  · simp only [List.length_append, bytesOf_length, List.length_cons, List.length_nil]; omega
  · simp
theorem bytes_app (s t : ByteArray) : bytesOf (s ++ t) = bytesOf s ++ bytesOf t := by
  unfold bytesOf; rw [show (s ++ t).data.toList = s.data.toList ++ t.data.toList by simp [ByteArray.data_append], List.map_append]
theorem crlf_bytes : bytesOf (⟨#[13, 10]⟩ : ByteArray) = [13, 10] := by decide +kernel
theorem last_bytes : bytesOf (⟨#[48, 13, 10]⟩ : ByteArray) = [48, 13, 10] := by decide +kernel
theorem put_loop (l : List (List Int)) (hl : ∀ c ∈ l, c.length ≤ 1000000) (hn : l.length ≤ 1000) (d : Nat) : ∀ (i : Nat) (acc : List Int), i + d = l.length → acc.length + 2000000 * d ≤ 100000000000 →
    Ev (fun k => chunk_Put.l0 k acc l (l.length : Int) (i : Int)) (acc ++ chunksB (l.drop i)) := by
  induction d with
  | zero =>
    intro i acc hi ha
    refine Ev.step (fun _ => chunk_Put.l0.eq_2 ..) (Ev.neg (by omega) (Ev.pos (by omega) ((Ev.now _).to ?_)))
    rw [List.drop_of_length_le (by omega), last_bytes]; rfl
  | succ d ih =>
    intro i acc hi ha
    have hlt : i < l.length := by omega
    have hdr : l.drop i = rd_L2 l (i : Int) :: l.drop (i + 1) := by
      unfold rd_L2; rw [List.drop_eq_getElem_cons hlt]; simp [List.getD_eq_getElem?_getD, hlt]
    have hm : rd_L2 l (i : Int) ∈ l := by
      unfold rd_L2; simp [List.getD_eq_getElem?_getD, hlt]
    have hc := hl _ hm
    have hw : wrap64 ((i : Int) + 1) = ((i + 1 : Nat) : Int) := wrap_nat (by omega)
    rw [hdr]
    refine Ev.step (fun _ => chunk_Put.l0.eq_2 ..) (Ev.pos (by omega) (Ev.pos (by omega) (Ev.pos (by omega) ?_)))
    rw [hw]
    generalize rd_L2 l (i : Int) = c at hc ⊢
    have hch := chB_len c
    have hx := hexB_size c.length
    have e : chunksB (c :: l.drop (i + 1)) = chB c ++ chunksB (l.drop (i + 1)) := by unfold chunksB; rw [List.flatMap_cons, List.append_assoc]
    rw [e, ← List.append_assoc]
    by_cases h0 : (c.length : Int) > 0
    · have hmx : mx (c.length : Int) 0 = (c.length : Int) := by unfold mx; rw [if_neg (by omega)]
      have hp := puthex_some (c.length : Int) (by omega)
      rw [hmx, Int.toNat_natCast] at hp
      have hcc : chB c = bytesOf (Hex.hexB c.length) ++ [13, 10] ++ c ++ [13, 10] := by unfold chB; rw [if_pos (by omega)]
      have hs2 : ((Hex.hexB c.length) ++ (⟨#[13, 10]⟩ : ByteArray)).size = (Hex.hexB c.length).size + 2 := ByteArray.size_append
      refine Ev.pos h0 (Ev.val hp (Ev.pos (by omega) (Ev.pos (by omega) (Ev.val rfl ?_))))
      rw [bytes_app, crlf_bytes]
      refine Ev.pos (by simp only [List.length_append, bytesOf_length, List.length_cons, List.length_nil]; omega) (Ev.val rfl (Ev.pos (by simp only [List.length_append, bytesOf_length, List.length_cons, List.length_nil]; omega) ?_))
      refine (ih (i + 1) _ (by omega) (by simp only [List.length_append, bytesOf_length, List.length_cons, List.length_nil]; omega)).to ?_
      rw [hcc]; simp only [List.append_assoc]
    · have hcc : chB c = [] := by unfold chB; rw [if_neg (by omega)]
      rw [hcc, List.append_nil]
      exact Ev.neg h0 (ih (i + 1) acc (by omega) (by omega))
theorem cput_ev (l : List (List Int)) (hl : ∀ c ∈ l, c.length ≤ 1000000) (hn : l.length ≤ 1000) : Ev (fun k => chunk_Put.f k l) (chunksB l) := by
  unfold chunk_Put.f
  exact (put_loop l hl hn l.length 0 [] (by omega) (by simp; omega)).to (by rw [List.drop_zero, List.nil_append])
theorem cut_app (c : UInt8) (a s : ByteArray) (h : ∀ x ∈ bytesOf a, x ≠ (c.toNat : Int)) : beforeB c (a ++ BA [c] ++ s) = a ∧ restB c (a ++ BA [c] ++ s) = BA [c] ++ s := by
  have hn : c ∉ a.data.toList := fun hm => h _ (List.mem_map.mpr ⟨c, hm, rfl⟩) rfl
  have e : (a ++ BA [c] ++ s).data.toList = a.data.toList ++ c :: s.data.toList := by rw [data_app, data_app, data_BA]; simp
  obtain ⟨t1, t2⟩ := take_at c _ s.data.toList hn
  unfold beforeB restB
  rw [e, t1, t2, BA_data]
  refine ⟨rfl, ?_⟩
  apply ba_inj; rw [data_app, data_BA, data_BA]; rfl
theorem cut_none (c : UInt8) (a : ByteArray) (h : ∀ x ∈ bytesOf a, x ≠ (c.toNat : Int)) : beforeB c a = a ∧ restB c a = BA [] := by
  have hn : c ∉ a.data.toList := fun hm => h _ (List.mem_map.mpr ⟨c, hm, rfl⟩) rfl
  obtain ⟨t1, t2⟩ := take_no c _ hn
  unfold beforeB restB
  rw [t1, t2, BA_data]; exact ⟨rfl, rfl⟩
theorem hex_not : ∀ n : Fin 256, ofB (n.val : Int) 5 = true → (n.val : Int) ≠ 59 ∧ (n.val : Int) ≠ 120 ∧ (n.val : Int) ≠ 88 ∧ (n.val : Int) ≠ 32 ∧ (n.val : Int) ≠ 9 := by decide +kernel
theorem hexB_not (n : Nat) (hn : n < 9223372036854775808) : ∀ x ∈ bytesOf (Hex.hexB n), x ≠ 59 ∧ x ≠ 120 ∧ x ≠ 88 ∧ x ≠ 32 ∧ x ≠ 9 := by
  intro x hx
  have h1 := (hexB_num n hn).2.1 x hx
  have h2 := bytes_lt _ hx
  exact byte_all (p := fun x => ofB x 5 = true → x ≠ 59 ∧ x ≠ 120 ∧ x ≠ 88 ∧ x ≠ 32 ∧ x ≠ 9) hex_not h2.1 h2.2 h1
theorem pref_mem {s t : ByteArray} (h : prefB s t = true) : ∀ x ∈ bytesOf t, x ∈ bytesOf s := by
  unfold prefB at h
  have h := beq_iff_eq.mp h
  rw [ByteArray.toList_eq, ByteArray.toList_eq, ext_data, List.drop_zero] at h
  intro x hx
  unfold bytesOf at hx ⊢
  rw [← h] at hx
  obtain ⟨b, hb, rfl⟩ := List.mem_map.mp hx
  exact List.mem_map.mpr ⟨b, List.mem_of_mem_take hb, rfl⟩
theorem pref_not {s : ByteArray} {x y : UInt8} (h : ∀ z ∈ bytesOf s, z ≠ (y.toNat : Int)) : prefB s (⟨#[x, y]⟩ : ByteArray) = false := by
  rw [Bool.eq_false_iff]; intro e
  exact h _ (pref_mem e (y.toNat : Int) (by unfold bytesOf; simp)) rfl
theorem hexB_read (n : Nat) (hn : n < 65536) : readB (Hex.hexB n) 16 65536 5 = ((n : Int), 0) := by
  rw [num_read (hexB_num n (by omega)), show mx (65536 : Int) 0 = 65536 from rfl, if_pos (by omega)]
theorem bits_andnot32 (a b : Nat) (ha : a < 4294967296) (hb : b < 4294967296) : ∃ r : Nat, Go.bits .andNot .u32 (a : Int) (b : Int) = (r : Int) ∧ r ≤ a ∧ ∀ i, i < 32 → r.testBit i = (a.testBit i && !(b.testBit i)) := by
  refine ⟨(BitVec.ofInt 32 (a : Int) &&& ~~~BitVec.ofInt 32 (b : Int)).toNat, ?_, ?_, fun i hi => ?_⟩
  · show IntKind.u32.wrap (((BitVec.ofInt 32 (a : Int) &&& ~~~BitVec.ofInt 32 (b : Int)).toNat : Nat) : Int) = _
    rw [IntKind.wrap_u32]
    have := (BitVec.ofInt 32 (a : Int) &&& ~~~BitVec.ofInt 32 (b : Int)).isLt
    omega
  · rw [BitVec.toNat_and, BitVec.ofInt_natCast, BitVec.toNat_ofNat]
    exact Nat.le_trans Nat.and_le_left (Nat.mod_le _ _)
  · rw [BitVec.testBit_toNat, BitVec.getLsbD_and, BitVec.getLsbD_not, BitVec.ofInt_natCast, BitVec.ofInt_natCast, BitVec.getLsbD_ofNat, BitVec.getLsbD_ofNat]
    simp [hi]
theorem bit_or_set (a k : Nat) : (a ||| 2 ^ k).testBit k = true := by rw [Nat.testBit_or, Nat.testBit_two_pow]; simp
theorem bit_or_other (a k i : Nat) (h : k ≠ i) : (a ||| 2 ^ k).testBit i = a.testBit i := by rw [Nat.testBit_or, Nat.testBit_two_pow]; simp [h]
/-- a profile without a clause, and with it -/
theorem clause_off (a k : Nat) (ha : a < 4294967296) (hk : k < 30) : ∃ r : Nat, r < 1073741824 ∧ Go.bits .andNot .u32 (Go.bits .and .u32 (a : Int) 1073741823) (shl .u32 1 (k : Int)) = (r : Int) ∧ Go.bits .or .u32 (r : Int) (shl .u32 1 (k : Int)) = ((r ||| 2 ^ k : Nat) : Int) ∧ r ||| 2 ^ k < 1073741824 ∧ hasB r (k : Int) = false ∧ hasB (r ||| 2 ^ k) (k : Int) = true ∧ ∀ c : Nat, c < 30 → c ≠ k → hasB (r ||| 2 ^ k) (c : Int) = hasB r (c : Int) := by
  have hm : a % 1073741824 < 1073741824 := Nat.mod_lt _ (by decide)
  have hp : 2 ^ k < 1073741824 := Nat.pow_lt_pow_right (by decide) hk
  obtain ⟨r, h1, h2, h3⟩ := bits_andnot32 (a % 1073741824) (2 ^ k) (by omega) (by omega)
  have hs : shl .u32 1 (k : Int) = ((2 ^ k : Nat) : Int) := by
    unfold shl
    rw [Int.toNat_natCast, show min k IntKind.u32.bits = k from Nat.min_eq_left (by show k ≤ 32; omega), IntKind.wrap_u32, Int.one_mul, show ((2 : Int) ^ k) = ((2 ^ k : Nat) : Int) by simp]
    generalize 2 ^ k = q at hp ⊢
    omega
  have hor : r ||| 2 ^ k < 1073741824 := Nat.or_lt_two_pow (n := 30) (show r < 2 ^ 30 by omega) hp
  refine ⟨r, by omega, ?_, ?_, hor, ?_, ?_, fun c hc hne => ?_⟩
  · rw [bits_mask32 a ha, hs]; exact h1
  · rw [hs]; exact bits_or32 r (2 ^ k) (by omega) (by omega)
  · rw [hasB_nat _ _ hk, h3 k (by omega), Nat.testBit_two_pow]; simp
  · rw [hasB_nat _ _ hk]; exact bit_or_set r k
  · rw [hasB_nat _ _ hc, hasB_nat _ _ hc]; exact bit_or_other r k c (fun e => hne e.symm)
theorem known_ev : Ev (fun k => parallaxlaw11_known.f k) true := Ev.of (fun k => parallaxlaw11_known.mono k) (k := 40) (by decide +kernel)
end Go.Proofs.YtihcmknbdjmcdaaDoor.PChunkExts
