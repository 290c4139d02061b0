/- What the printed functions of the text layer come to. -/
import Derived.Test.YtnckmjdonbnpoaaDoorPNumberOrderx
import Derived.Test.YtnckmjdonbnpoaaDoorParts
import Derived.Test.YtnckmjdonbnpoaaDoorLowP
import Derived.Test.YtnckmjdonbnpoaaDoorTrimP
import Derived.Test.YtnckmjdonbnpoaaDoorHex
import Derived.Lib.ItoaLen
namespace Go.Proofs.YtnckmjdonbnpoaaDoor.PNumberOrder
open Go.RowKit Go.Proofs.YtnckmjdonbnpoaaDoorW.PrintWords Go.Proofs.YtnckmjdonbnpoaaDoorW.PrintLast Go.Proofs.YtnckmjdonbnpoaaDoorW.PrintMore Go.Proofs.YtnckmjdonbnpoaaDoor.Aid Go.Proofs.YtnckmjdonbnpoaaDoor.Parts

theorem rdOf_mem (l : List ByteArray) (j : Nat) (h : j < l.length) : rdOf ByteArray.empty l (j : Int) ∈ l := by
  unfold rdOf; simp [List.getD_eq_getElem?_getD, h]
/-- is a byte of a kind? -/
def ofB (c kind : Int) : Bool := (octet_of.f c kind).getD false
/-- is each byte of a text of one of some kinds? -/
def allB (s : ByteArray) (l : List Int) : Bool := (bytesOf s).all fun c => l.any (ofB c)


theorem of_k (kind : Fin 8) : ∀ n : Fin 256, octet_of.f (n.val : Int) (kind.val : Int) = some (ofB (n.val : Int) (kind.val : Int)) := by
  revert kind; decide +kernel

theorem of_far {c kind : Int} (h : ¬ (1 ≤ kind ∧ kind ≤ 6)) : octet_of.f c kind = some false := by
  unfold octet_of.f
  rw [if_neg (by omega), if_neg (by omega), if_neg (by omega), if_neg (by omega), if_neg (by omega), if_neg (by omega)]

theorem of_some {c : Int} (h0 : 0 ≤ c) (h1 : c < 256) (kind : Int) : octet_of.f c kind = some (ofB c kind) := by
  by_cases hk : 0 ≤ kind ∧ kind < 8
  · have := byte_all (p := fun c => octet_of.f c kind = some (ofB c kind)) (fun n => by
      have := of_k ⟨kind.toNat, by omega⟩ n
      rwa [show ((⟨kind.toNat, by omega⟩ : Fin 8).val : Int) = kind by simp; omega] at this) h0 h1
    exact this
  · have := of_far (c := c) (kind := kind) (by omega)
    unfold ofB; rw [this]; rfl

/-- one text's byte against the kinds from the j-th on -/
theorem own_in (s : ByteArray) (l : List Int) (hl : l.length < 9223372036854775807) (hs : s.size < 9223372036854775807) (i : Nat) (hi : i < s.size) (R : Bool)
    (hR : Ev (fun k => octet_All.l0 k s l (s.size : Int) ((i + 1 : Nat) : Int)) R) (d : Nat) : ∀ (j : Nat) (b : Bool), j + d = l.length →
    Ev (fun k => octet_All.l1 k s l (i : Int) b (s.size : Int) (i : Int) l (l.length : Int) (j : Int)) (if (b || (l.drop j).any (ofB (bt s (i : Int)))) = true then R else false) := by
  induction d with
  | zero =>
    intro j b hj
    refine Ev.step (fun _ => octet_All.l1.eq_2 ..) (Ev.neg (by omega) ?_)
    rw [List.drop_of_length_le (by omega), List.any_nil, Bool.or_false, wrap_nat (by omega)]
    exact Ev.cond (fun _ => hR) (fun _ => Ev.now _)
  | succ d ih =>
    intro j b hj
    have hw : wrap64 ((j : Int) + 1) = ((j + 1 : Nat) : Int) := wrap_nat (by omega)
    refine Ev.step (fun _ => octet_All.l1.eq_2 ..) (Ev.pos (by omega) (Ev.pos (by omega) (Ev.pos (by omega) ?_)))
    rw [drop_rd l j (by omega), List.any_cons, hw]
    cases b with
    | true => exact Ev.pos rfl ((ih (j + 1) true (by omega)).to (by simp))
    | false =>
      refine Ev.neg (by simp) (Ev.pos (by omega) (Ev.pos (by omega) ?_))
      have := bt_lt s (i : Int)
      exact Ev.val (of_some this.1 this.2 _) ((ih (j + 1) _ (by omega)).to (by rw [Bool.false_or]))

theorem own_out (s : ByteArray) (l : List Int) (hl : l.length < 9223372036854775807) (hs : s.size < 9223372036854775807) (d : Nat) : ∀ (i : Nat), i + d = s.size →
    Ev (fun k => octet_All.l0 k s l (s.size : Int) (i : Int)) (((bytesOf s).drop i).all fun c => l.any (ofB c)) := by
  induction d with
  | zero =>
    intro i hi
    refine Ev.step (fun _ => octet_All.l0.eq_2 ..) (Ev.neg (by omega) ?_)
    rw [List.drop_of_length_le (by rw [bytesOf_length]; omega)]; exact Ev.now _
  | succ d ih =>
    intro i hi
    refine Ev.step (fun _ => octet_All.l0.eq_2 ..) (Ev.pos (by omega) ?_)
    refine (own_in s l hl hs i (by omega) _ (ih (i + 1) (by omega)) l.length 0 false (by omega)).to ?_
    rw [drop_bytes s i (by omega), List.all_cons, List.drop_zero, Bool.false_or]
    cases l.any (ofB (bt s (i : Int))) <;> simp

theorem own_ev (s : ByteArray) (l : List Int) (hl : l.length < 9223372036854775807) (hs : s.size < 9223372036854775807) : Ev (fun k => octet_All.f k s l) (allB s l) :=
  (own_out s l hl hs s.size 0 (by omega)).to (by rw [List.drop_zero]; rfl)

theorem all_app (s t : ByteArray) (l : List Int) : allB (s ++ t) l = (allB s l && allB t l) := by
  unfold allB bytesOf
  rw [show (s ++ t).data.toList = s.data.toList ++ t.data.toList by simp [ByteArray.data_append], List.map_append, List.all_append]
/-- a digit's value -/
def hexV (c : Int) : Int := ((octet_Hex.f c).getD (0, false)).1
def valA (b : Int) (n : Int) (l : List Int) : Int := l.foldl (fun n d => n * b + d) n
theorem hex_all : ∀ n : Fin 256, octet_Hex.f (n.val : Int) = some (hexV (n.val : Int), ((octet_Hex.f (n.val : Int)).getD (0, false)).2) ∧ 0 ≤ hexV (n.val : Int) ∧ hexV (n.val : Int) ≤ 15 := by decide +kernel
theorem hex_at {c : Int} (h : 0 ≤ c ∧ c < 256) : octet_Hex.f c = some (hexV c, ((octet_Hex.f c).getD (0, false)).2) ∧ 0 ≤ hexV c ∧ hexV c ≤ 15 :=
  byte_all (p := fun c => octet_Hex.f c = some (hexV c, ((octet_Hex.f c).getD (0, false)).2) ∧ 0 ≤ hexV c ∧ hexV c ≤ 15) hex_all h.1 h.2
theorem valA_ge {b : Int} (hb : 1 ≤ b) (l : List Int) : ∀ n : Int, 0 ≤ n → (∀ d ∈ l, 0 ≤ d) → n ≤ valA b n l := by
  induction l with
  | nil => intro n _ _; exact Int.le_refl _
  | cons d l ih =>
    intro n hn hd
    have h0 := hd d (by simp)
    have h1 : n ≤ n * b := by have := Int.mul_le_mul_of_nonneg_left hb hn; rwa [Int.mul_one] at this
    have := ih (n * b + d) (by omega) (fun x hx => hd x (by simp [hx]))
    show n ≤ valA b (n * b + d) l
    omega
theorem vals_nonneg (s : ByteArray) (i : Nat) : ∀ d ∈ ((bytesOf s).map hexV).drop i, 0 ≤ d := by
  intro d hd
  obtain ⟨c, hc, rfl⟩ := List.mem_map.mp (List.mem_of_mem_drop hd)
  exact (hex_at (bytes_lt s hc)).2.1
theorem read_loop (s : ByteArray) (b most : Int) (hb : 2 ≤ b) (hb2 : b ≤ 16) (hm : most ≤ 9223372036854775807) (hs : s.size < 9223372036854775807) (d : Nat) : ∀ (i : Nat) (n : Int), i + d = s.size → 0 ≤ n → n ≤ most →
    Ev (fun k => number_read.l0 k s b most n (s.size : Int) (i : Int)) (if valA b n (((bytesOf s).map hexV).drop i) ≤ most then (valA b n (((bytesOf s).map hexV).drop i), 0) else (0, 23)) := by
  induction d with
  | zero =>
    intro i n hi h0 h1
    refine Ev.step (fun _ => number_read.l0.eq_2 ..) (Ev.neg (by omega) ((Ev.now _).to ?_))
    rw [List.drop_of_length_le (by rw [List.length_map, bytesOf_length]; omega)]
    exact (if_pos h1).symm
  | succ d ih =>
    intro i n hi h0 h1
    have h9 : i < 9223372036854775807 := by omega
    have hlt : i < ((bytesOf s).map hexV).length := by rw [List.length_map, bytesOf_length]; omega
    have hbt := bt_lt s (i : Int)
    obtain ⟨e1, e2, e3⟩ := hex_at hbt
    have hdrop : ((bytesOf s).map hexV).drop i = hexV (bt s (i : Int)) :: ((bytesOf s).map hexV).drop (i + 1) := by
      rw [← List.map_drop, drop_bytes s i (by omega), List.map_cons, List.map_drop]
    rw [hdrop]
    have hnn := vals_nonneg s (i + 1)
    refine Ev.step (fun _ => number_read.l0.eq_2 ..) (Ev.pos (by omega) (Ev.pos (by omega) (Ev.pos (by omega) (Ev.val e1 ?_))))
    show Ev (fun k => if hexV (bt s (i : Int)) > most then _ else _) (if valA b (n * b + hexV (bt s (i : Int))) (((bytesOf s).map hexV).drop (i + 1)) ≤ most then _ else _)
    rw [wrap_nat h9]
    generalize hexV (bt s (i : Int)) = v at e2 e3 ⊢
    have ih' := fun (n : Int) (h0 : 0 ≤ n) (h1 : n ≤ most) => ih (i + 1) n (by omega) h0 h1
    clear ih
    generalize ((bytesOf s).map hexV).drop (i + 1) = l at hnn ih' ⊢
    have hge := valA_ge (b := b) (by omega) l (n * b + v) (by have := Int.mul_nonneg h0 (show 0 ≤ b by omega); omega) hnn
    have hnb := Int.mul_nonneg h0 (show 0 ≤ b by omega)
    by_cases hv : v > most
    · exact Ev.pos hv ((Ev.now _).to (if_neg (by omega)).symm)
    · refine Ev.neg hv (Ev.neg (by omega) ?_)
      have hw1 : wrap64 (most - v) = most - v := wrap_in (by omega) (by omega)
      have hq : Int.tdiv (most - v) b = (most - v) / b := Int.tdiv_eq_ediv_of_nonneg (by omega)
      have hq2 : (most - v) / b ≤ most - v := Int.ediv_le_self _ (by omega)
      have hq3 : 0 ≤ (most - v) / b := Int.ediv_nonneg (by omega) (by omega)
      have hw2 : wrap64 ((most - v) / b) = (most - v) / b := wrap_in (by omega) (by omega)
      rw [hw1, hq, hw2]
      clear hw1 hw2 hq
      have hiff := Int.ediv_lt_iff_lt_mul (a := most - v) (b := n) (c := b) (by omega)
      clear hq2 hq3
      by_cases hc : n > (most - v) / b
      · have := hiff.mp hc
        exact Ev.pos hc ((Ev.now _).to (if_neg (by omega)).symm)
      · have h2 : ¬ most - v < n * b := fun h => hc (hiff.mpr h)
        clear hiff
        refine Ev.neg hc ?_
        have hw3 : wrap64 (n * b) = n * b := wrap_in (by omega) (by omega)
        rw [hw3]
        clear hw3
        have hw4 : wrap64 (n * b + v) = n * b + v := wrap_in (by omega) (by omega)
        rw [hw4]
        exact ih' (n * b + v) (by omega) (by omega)
/-- the number that a text says -/
def readB (s : ByteArray) (b most kind : Int) : Int × Int := if bytesOf s = [] ∨ allB s [kind] = false then (0, 22) else if valA b 0 ((bytesOf s).map hexV) ≤ mx most 0 then (valA b 0 ((bytesOf s).map hexV), 0) else (0, 23)
theorem bytes_nil (s : ByteArray) : s.toList = ([] : List UInt8) ↔ bytesOf s = [] := by rw [ByteArray.toList_eq]; unfold bytesOf; simp
theorem read_ev (s : ByteArray) (b most kind : Int) (hb : 2 ≤ b) (hb2 : b ≤ 16) (hm : most ≤ 9223372036854775807) (hs : s.size < 9223372036854775807) : Ev (fun k => number_read.f k s b most kind) (readB s b most kind) := by
  unfold number_read.f readB
  by_cases h : s.toList = ([] : List UInt8)
  · rw [if_pos (.inl ((bytes_nil s).mp h))]
    exact Ev.pos h (Ev.step (fun _ => number_read.j0.eq_2 ..) (Ev.pos rfl (Ev.now _)))
  · refine Ev.neg h (Ev.bind (own_ev s [kind] (by simp) hs) (Ev.step (fun _ => number_read.j0.eq_2 ..) ?_))
    have h' : ¬ bytesOf s = [] := fun e => h ((bytes_nil s).mpr e)
    cases ha : allB s [kind] with
    | false => rw [if_pos (.inr rfl)]; exact Ev.pos rfl (Ev.now _)
    | true =>
      rw [if_neg (by simp [h'])]
      have h0 : 0 ≤ mx most 0 := by unfold mx; split <;> omega
      have h1 : mx most 0 ≤ 9223372036854775807 := by unfold mx; split <;> omega
      exact Ev.neg (by simp) ((read_loop s b (mx most 0) hb hb2 h1 hs s.size 0 0 (by omega) (by omega) h0).to (by rw [List.drop_zero]))
theorem dec_ev (s : ByteArray) (most : Int) (hm : most ≤ 9223372036854775807) (hs : s.size < 9223372036854775807) : Ev (fun k => number_Dec.f k s most) (readB s 10 most 4) := by
  unfold number_Dec.f; exact Ev.bind (read_ev s 10 most 4 (by omega) (by omega) hm hs) (Ev.now _)
theorem hexn_ev (s : ByteArray) (most : Int) (hm : most ≤ 9223372036854775807) (hs : s.size < 9223372036854775807) : Ev (fun k => number_Hex.f k s most) (readB s 16 most 5) := by
  unfold number_Hex.f; exact Ev.bind (read_ev s 16 most 5 (by omega) (by omega) hm hs) (Ev.now _)
/-- these bytes are a number's digits -/
def Num (b kind : Int) (l : List Int) (n : Nat) : Prop := l ≠ [] ∧ (∀ c ∈ l, ofB c kind = true) ∧ valA b 0 (l.map hexV) = (n : Int)
theorem num_one {b kind : Int} {c : Int} {d : Nat} (h : ofB c kind = true) (hv : hexV c = d) : Num b kind [c] d := ⟨by simp, by simp [h], by simp [valA, hv]⟩
theorem num_app {b kind : Int} {l : List Int} {n : Nat} (h : Num b kind l n) {c : Int} {d : Nat} (hk : ofB c kind = true) (hv : hexV c = d) {m : Nat} (hm : (m : Int) = n * b + d) : Num b kind (l ++ [c]) m := by
  obtain ⟨h1, h2, h3⟩ := h
  refine ⟨by simp, fun x hx => ?_, ?_⟩
  · rcases List.mem_append.mp hx with e | e
    · exact h2 x e
    · rw [List.mem_singleton.mp e]; exact hk
  · unfold valA at h3 ⊢
    rw [List.map_append, List.foldl_append, h3, hm]; simp [hv]
theorem num_zero {b kind : Int} {l : List Int} {n : Nat} (h : Num b kind l n) (hk : ofB 48 kind = true) (hv : hexV 48 = 0) : Num b kind (48 :: l) n := by
  obtain ⟨h1, h2, h3⟩ := h
  refine ⟨by simp, fun x hx => ?_, ?_⟩
  · rcases List.mem_cons.mp hx with e | e
    · rw [e]; exact hk
    · exact h2 x e
  · rw [← h3]; simp [valA, hv]
theorem num_read {b kind : Int} {s : ByteArray} {n : Nat} (h : Num b kind (bytesOf s) n) (most : Int) : readB s b most kind = if (n : Int) ≤ mx most 0 then ((n : Int), 0) else (0, 23) := by
  unfold readB
  have ha : allB s [kind] = true := by
    unfold allB; rw [List.all_eq_true]; intro c hc; simp [h.2.1 c hc]
  rw [if_neg (by simp [h.1, ha]), h.2.2]
theorem dig10 : ∀ d : Fin 10, ofB (48 + (d.val : Int)) 4 = true ∧ hexV (48 + (d.val : Int)) = (d.val : Int) := by decide +kernel
theorem dig16 : ∀ d : Fin 16, ofB (Hex.dig d.val) 5 = true ∧ hexV (Hex.dig d.val) = (d.val : Int) := by decide +kernel
theorem nought : (ofB 48 4 = true ∧ ofB 48 5 = true) ∧ hexV 48 = 0 := by decide +kernel
theorem dec_byte (d : Nat) (h : d < 10) : (((UInt8.ofNat (48 + d)).toNat : Nat) : Int) = 48 + (d : Int) := by
  rw [UInt8.toNat_ofNat_of_lt' (by show 48 + d < 256; omega)]; omega
theorem dec_num (u : Nat) : Num 10 4 ((Lib.decDigits u).map fun b => (b.toNat : Int)) u := by
  induction u using Nat.strongRecOn with
  | _ u ih =>
    have hm : u % 10 < 10 := Nat.mod_lt _ (by decide)
    rw [Lib.decDigits]
    by_cases h : u < 10
    · rw [dif_pos h, List.map_cons, List.map_nil, dec_byte u h]
      exact num_one (dig10 ⟨u, h⟩).1 (dig10 ⟨u, h⟩).2
    · rw [dif_neg h, List.map_append, List.map_cons, List.map_nil, dec_byte _ hm]
      exact num_app (ih (u / 10) (by omega)) (dig10 ⟨u % 10, hm⟩).1 (dig10 ⟨u % 10, hm⟩).2 (by simp only; omega)
theorem hexL_num (f : Nat) : ∀ u : Nat, u < 16 ^ (f + 1) → Num 16 5 (Hex.hexL (f + 1) u) u := by
  induction f with
  | zero => intro u h; have h : u < 16 := by simpa using h
            rw [Hex.hexL_lt _ _ h]; exact num_one (dig16 ⟨u, h⟩).1 (dig16 ⟨u, h⟩).2
  | succ f ih =>
    intro u h
    by_cases h1 : u < 16
    · rw [Hex.hexL_lt _ _ h1]; exact num_one (dig16 ⟨u, h1⟩).1 (dig16 ⟨u, h1⟩).2
    · have hm : u % 16 < 16 := Nat.mod_lt _ (by decide)
      rw [Hex.hexL_ge _ _ h1]
      rw [Nat.pow_succ] at h
      exact num_app (ih (u / 16) (Nat.div_lt_of_lt_mul (by rw [Nat.mul_comm]; exact h))) (dig16 ⟨u % 16, hm⟩).1 (dig16 ⟨u % 16, hm⟩).2 (by simp only; omega)
theorem hexL_range (f : Nat) : ∀ u : Nat, ∀ x ∈ Hex.hexL f u, 0 ≤ x ∧ x < 256 := by
  induction f with
  | zero => intro u x hx; simp [Hex.hexL] at hx
  | succ f ih =>
    intro u x hx
    by_cases h1 : u < 16
    · rw [Hex.hexL_lt _ _ h1] at hx; rw [List.mem_singleton.mp hx]; have := Hex.dig_range h1; omega
    · rw [Hex.hexL_ge _ _ h1] at hx
      rcases List.mem_append.mp hx with e | e
      · exact ih _ x e
      · rw [List.mem_singleton.mp e]; have := Hex.dig_range (Nat.mod_lt u (show 0 < 16 by decide)); omega
def decB (n : Nat) : ByteArray := ⟨(Lib.decDigits n).toArray⟩
theorem decB_num (n : Nat) : Num 10 4 (bytesOf (decB n)) n := by
  have := dec_num n
  unfold bytesOf decB; exact this
theorem hexB_num (n : Nat) (h : n < 9223372036854775808) : Num 16 5 (bytesOf (Hex.hexB n)) n := by
  unfold Hex.hexB; rw [LowP.bytes_nums (hexL_range 17 n)]; exact hexL_num 16 n (by omega)
theorem put_some (a : Int) (h : a ≤ 9223372036854775807) : number_Put.f a = some (decB (mx a 0).toNat) := by
  have h0 : 0 ≤ mx a 0 := by unfold mx; split <;> omega
  have h1 : mx a 0 ≤ 9223372036854775807 := by unfold mx; split <;> omega
  unfold number_Put.f strconv_Itoa.f
  rw [if_pos ⟨by omega, h1⟩, Option.bind_some]
  unfold decB Lib.itoa; rw [if_neg (by omega)]
theorem puthex_some (a : Int) (h : a ≤ 9223372036854775807) : number_PutHex.f a = some (Hex.hexB (mx a 0).toNat) := by
  have h0 : 0 ≤ mx a 0 := by unfold mx; split <;> omega
  have h1 : mx a 0 ≤ 9223372036854775807 := by unfold mx; split <;> omega
  unfold number_PutHex.f strconv_FormatInt.f
  rw [if_pos ⟨rfl, h0, h1⟩, Option.bind_some]
theorem decB_size (n : Nat) (h : n < 9223372036854775808) : (decB n).size ≤ 21 := by
  have := Lib.itoa_length_le (n : Int) (by omega) (by omega)
  unfold Lib.itoa at this; rw [if_neg (by omega)] at this
  simpa [decB, ByteArray.size] using this
theorem hexL_len (f : Nat) : ∀ u, (Hex.hexL f u).length ≤ f := by
  induction f with
  | zero => intro u; simp [Hex.hexL]
  | succ f ih =>
    intro u
    by_cases h1 : u < 16
    · rw [Hex.hexL_lt _ _ h1]; simp
    · rw [Hex.hexL_ge _ _ h1]; have := ih (u / 16); simp; omega
theorem hexB_size (n : Nat) : (Hex.hexB n).size ≤ 17 := by
  unfold Hex.hexB; rw [strOfNums_size]; exact hexL_len 17 n
/-- a byte's value as a digit -/
def gV (b : UInt8) : Int := hexV (b.toNat : Int)
theorem valA_lt {b : Int} (hb : 1 ≤ b) (x : List Int) : ∀ (y : List Int) (n m : Int), x.length = y.length → (∀ d ∈ x, 0 ≤ d ∧ d < b) → (∀ d ∈ y, 0 ≤ d ∧ d < b) → n < m → valA b n x < valA b m y := by
  induction x with
  | nil => intro y n m hl _ _ h; rw [List.length_nil] at hl; rw [List.eq_nil_of_length_eq_zero hl.symm]; exact h
  | cons d x ih =>
    intro y n m hl hx hy h
    cases y with
    | nil => simp at hl
    | cons e y =>
      have h1 := hx d (by simp)
      have h2 := hy e (by simp)
      have h3 : (n + 1) * b ≤ m * b := Int.mul_le_mul_of_nonneg_right (by omega) (by omega)
      rw [Int.add_mul, Int.one_mul] at h3
      exact ih y (n * b + d) (m * b + e) (by simpa using hl) (fun z hz => hx z (by simp [hz])) (fun z hz => hy z (by simp [hz])) (by omega)
theorem less_val {b : Int} (hb : 1 ≤ b) (S : UInt8 → Prop) (hS : ∀ u, S u → 0 ≤ gV u ∧ gV u < b) (hlt : ∀ u v, S u → S v → (u < v ↔ gV u < gV v)) (hinj : ∀ u v, S u → S v → gV u = gV v → u = v) (x : List UInt8) : ∀ (y : List UInt8) (n : Int), x.length = y.length → (∀ u ∈ x, S u) → (∀ u ∈ y, S u) →
    Op.bytesLess x y = decide (valA b n (x.map gV) < valA b n (y.map gV)) := by
  induction x with
  | nil => intro y n hl _ _; rw [List.length_nil] at hl; rw [List.eq_nil_of_length_eq_zero hl.symm]; simp [Op.bytesLess]
  | cons u x ih =>
    intro y n hl hx hy
    cases y with
    | nil => simp at hl
    | cons v y =>
      have hu := hx u (by simp)
      have hv := hy v (by simp)
      have hl' : x.length = y.length := by simpa using hl
      have hx' : ∀ z ∈ x, S z := fun z hz => hx z (by simp [hz])
      have hy' : ∀ z ∈ y, S z := fun z hz => hy z (by simp [hz])
      have rx : ∀ d ∈ x.map gV, 0 ≤ d ∧ d < b := by intro d hd; obtain ⟨z, hz, rfl⟩ := List.mem_map.mp hd; exact hS z (hx' z hz)
      have ry : ∀ d ∈ y.map gV, 0 ≤ d ∧ d < b := by intro d hd; obtain ⟨z, hz, rfl⟩ := List.mem_map.mp hd; exact hS z (hy' z hz)
      have h1 := hlt u v hu hv
      have h2 := hlt v u hv hu
      show (decide (u < v) || (u == v && Op.bytesLess x y)) = decide (valA b (n * b + gV u) (x.map gV) < valA b (n * b + gV v) (y.map gV))
      rcases Int.lt_trichotomy (gV u) (gV v) with h | h | h
      · rw [decide_eq_true (h1.mpr h), Bool.true_or]
        exact (decide_eq_true (valA_lt hb _ _ _ _ (by simpa using hl') rx ry (by omega))).symm
      · have e := hinj u v hu hv h
        subst e
        rw [ih y (n * b + gV u) hl' hx' hy']
        have : ¬ u < u := fun z => by have := h1.mp z; omega
        simp [this]
      · have n1 : ¬ u < v := fun z => by have := h1.mp z; omega
        have n2 : ¬ u = v := fun z => by rw [z] at h; omega
        have := valA_lt hb _ _ _ _ (by simpa using hl'.symm) ry rx (show n * b + gV v < n * b + gV u by omega)
        rw [decide_eq_false n1, decide_eq_false (show ¬ valA b (n * b + gV u) (x.map gV) < valA b (n * b + gV v) (y.map gV) by omega)]
        simp [n2]
theorem valA_app (b n : Int) (x y : List Int) : valA b n (x ++ y) = valA b (valA b n x) y := by unfold valA; rw [List.foldl_append]
def Canon (l : List UInt8) : Prop := ∃ u r, l = u :: r ∧ (r ≠ [] → 1 ≤ gV u)
theorem len_val {b : Int} (hb : 1 ≤ b) (S : UInt8 → Prop) (hS : ∀ u, S u → 0 ≤ gV u ∧ gV u < b) (l m : List UInt8) (cl : Canon l) (cm : Canon m) (hl : ∀ u ∈ l, S u) (hm : ∀ u ∈ m, S u) (h : l.length < m.length) : valA b 0 (l.map gV) < valA b 0 (m.map gV) := by
  obtain ⟨u0, r0, e0, _⟩ := cl
  obtain ⟨u, r, e, hc⟩ := cm
  have h0 : 1 ≤ l.length := by rw [e0]; simp
  have hml : m.length = r.length + 1 := by rw [e]; rfl
  have hr : r ≠ [] := by rintro rfl; rw [List.length_nil] at hml; omega
  have hu := hc hr
  have hlr : l.length ≤ r.length := by omega
  have hsplit : m = (u :: r.take (r.length - l.length)) ++ r.drop (r.length - l.length) := by rw [e, List.cons_append, List.take_append_drop]
  have hr1 : ∀ z ∈ r, S z := fun z hz => hm z (by rw [e]; simp [hz])
  rw [hsplit, List.map_append, valA_app]
  have hp : 0 < valA b 0 ((u :: r.take (r.length - l.length)).map gV) := by
    rw [List.map_cons]
    show 0 < valA b (0 * b + gV u) _
    rw [Int.zero_mul, Int.zero_add]
    have := valA_ge hb ((r.take (r.length - l.length)).map gV) (gV u) (by omega) (fun d hd => by obtain ⟨z, hz, rfl⟩ := List.mem_map.mp hd; exact (hS z (hr1 z (List.mem_of_mem_take hz))).1)
    omega
  refine valA_lt hb _ _ _ _ (by simp; omega) (fun d hd => ?_) (fun d hd => ?_) hp
  · obtain ⟨z, hz, rfl⟩ := List.mem_map.mp hd; exact hS z (hl z hz)
  · obtain ⟨z, hz, rfl⟩ := List.mem_map.mp hd; exact hS z (hr1 z (List.mem_of_mem_drop hz))
theorem canon_app {b : Int} {l : List UInt8} (c : Canon l) {v : Int} (hv : valA b 0 (l.map gV) = v) (h1 : 1 ≤ v) (x : UInt8) : Canon (l ++ [x]) := by
  obtain ⟨u, r, e, hc⟩ := c
  refine ⟨u, r ++ [x], by rw [e]; rfl, fun _ => ?_⟩
  by_cases hr : r = []
  · rw [e, hr] at hv
    have : 0 * b + gV u = v := hv
    rw [Int.zero_mul] at this; omega
  · exact hc hr
theorem canon_one (x : UInt8) : Canon [x] := ⟨x, [], rfl, fun h => absurd rfl h⟩
theorem map_gV (l : List UInt8) : l.map gV = (l.map fun b => (b.toNat : Int)).map hexV := by rw [List.map_map]; rfl
theorem dec_val (n : Nat) : valA 10 0 ((Lib.decDigits n).map gV) = (n : Int) := by rw [map_gV]; exact (dec_num n).2.2
theorem dec_canon (u : Nat) : Canon (Lib.decDigits u) := by
  induction u using Nat.strongRecOn with
  | _ u ih =>
    rw [Lib.decDigits]
    by_cases h : u < 10
    · rw [dif_pos h]; exact canon_one _
    · rw [dif_neg h]; exact canon_app (ih (u / 10) (by omega)) (dec_val (u / 10)) (by omega) _
def S10 (u : UInt8) : Prop := 48 ≤ u.toNat ∧ u.toNat ≤ 57
def S16 (u : UInt8) : Prop := (48 ≤ u.toNat ∧ u.toNat ≤ 57) ∨ (97 ≤ u.toNat ∧ u.toNat ≤ 102)
theorem g10 : ∀ n : Fin 256, 48 ≤ n.val ∧ n.val ≤ 57 → hexV (n.val : Int) = (n.val : Int) - 48 := by decide +kernel
theorem g16 : ∀ n : Fin 256, 97 ≤ n.val ∧ n.val ≤ 102 → hexV (n.val : Int) = (n.val : Int) - 87 := by decide +kernel
theorem gV10 {u : UInt8} (h : 48 ≤ u.toNat ∧ u.toNat ≤ 57) : gV u = (u.toNat : Int) - 48 := g10 ⟨u.toNat, u.toNat_lt⟩ h
theorem gV16 {u : UInt8} (h : 97 ≤ u.toNat ∧ u.toNat ≤ 102) : gV u = (u.toNat : Int) - 87 := g16 ⟨u.toNat, u.toNat_lt⟩ h
theorem S10_16 {u : UInt8} (h : S10 u) : S16 u := .inl h
theorem s16_range (u : UInt8) (h : S16 u) : 0 ≤ gV u ∧ gV u < 16 := by
  rcases h with h | h
  · rw [gV10 h]; omega
  · rw [gV16 h]; omega
theorem s10_range (u : UInt8) (h : S10 u) : 0 ≤ gV u ∧ gV u < 10 := by rw [gV10 h]; have := h.1; have := h.2; omega
theorem s16_lt (u v : UInt8) (h : S16 u) (h' : S16 v) : u < v ↔ gV u < gV v := by
  rw [UInt8.lt_iff_toNat_lt]
  rcases h with h | h <;> rcases h' with k | k
  · rw [gV10 h, gV10 k]; omega
  · rw [gV10 h, gV16 k]; omega
  · rw [gV16 h, gV10 k]; omega
  · rw [gV16 h, gV16 k]; omega
theorem s16_inj (u v : UInt8) (h : S16 u) (h' : S16 v) (e : gV u = gV v) : u = v := by
  apply UInt8.toNat_inj.mp
  rcases h with h | h <;> rcases h' with k | k
  · rw [gV10 h, gV10 k] at e; omega
  · rw [gV10 h, gV16 k] at e; omega
  · rw [gV16 h, gV10 k] at e; omega
  · rw [gV16 h, gV16 k] at e; omega
theorem dec_S (u : Nat) : ∀ x ∈ Lib.decDigits u, S10 x := by
  induction u using Nat.strongRecOn with
  | _ u ih =>
    rw [Lib.decDigits]
    have one : ∀ d : Nat, d < 10 → S10 (UInt8.ofNat (48 + d)) := by
      intro d hd; unfold S10; rw [UInt8.toNat_ofNat_of_lt' (by show 48 + d < 256; omega)]; omega
    by_cases h : u < 10
    · rw [dif_pos h]; intro x hx; rw [List.mem_singleton.mp hx]; exact one u h
    · rw [dif_neg h]; intro x hx
      rcases List.mem_append.mp hx with e | e
      · exact ih (u / 10) (by omega) x e
      · rw [List.mem_singleton.mp e]; exact one _ (Nat.mod_lt _ (by decide))
def toU (x : Int) : UInt8 := UInt8.ofNat x.toNat
theorem dig_S {d : Nat} (h : d < 16) : S16 (toU (Hex.dig d)) := by
  have hr := Hex.dig_range h
  unfold S16 toU; rw [UInt8.toNat_ofNat_of_lt' (by show (Hex.dig d).toNat < 256; omega)]
  unfold Hex.dig; split <;> omega
theorem hexU_S (f : Nat) : ∀ u : Nat, ∀ x ∈ (Hex.hexL f u).map toU, S16 x := by
  induction f with
  | zero => intro u x hx; simp [Hex.hexL] at hx
  | succ f ih =>
    intro u x hx
    by_cases h : u < 16
    · rw [Hex.hexL_lt _ _ h, List.map_cons, List.map_nil] at hx; rw [List.mem_singleton.mp hx]; exact dig_S h
    · rw [Hex.hexL_ge _ _ h, List.map_append] at hx
      rcases List.mem_append.mp hx with e | e
      · exact ih _ x e
      · rw [List.map_cons, List.map_nil] at e; rw [List.mem_singleton.mp e]; exact dig_S (Nat.mod_lt _ (by decide))
theorem hexU_back {l : List Int} (h : ∀ x ∈ l, 0 ≤ x ∧ x < 256) : (l.map toU).map (fun b => (b.toNat : Int)) = l := by
  rw [List.map_map]
  have : ∀ x ∈ l, ((fun b : UInt8 => (b.toNat : Int)) ∘ toU) x = x := fun x hx => LowP.nat_u8 (h x hx).1 (h x hx).2
  exact (List.map_congr_left this).trans (List.map_id l)
theorem hexU_val (f u : Nat) (h : u < 16 ^ (f + 1)) : valA 16 0 (((Hex.hexL (f + 1) u).map toU).map gV) = (u : Int) := by
  rw [map_gV, hexU_back (hexL_range (f + 1) u)]; exact (hexL_num f u h).2.2
theorem hexU_canon (f : Nat) : ∀ u : Nat, u < 16 ^ (f + 1) → Canon ((Hex.hexL (f + 1) u).map toU) := by
  induction f with
  | zero => intro u h; have h : u < 16 := by simpa using h
            rw [Hex.hexL_lt _ _ h]; exact canon_one _
  | succ f ih =>
    intro u h
    by_cases h1 : u < 16
    · rw [Hex.hexL_lt _ _ h1]; exact canon_one _
    · rw [Hex.hexL_ge _ _ h1, List.map_append]
      rw [Nat.pow_succ] at h
      have h2 : u / 16 < 16 ^ (f + 1) := Nat.div_lt_of_lt_mul (by rw [Nat.mul_comm]; exact h)
      exact canon_app (ih (u / 16) h2) (hexU_val f (u / 16) h2) (by omega) _
theorem hexB_list (n : Nat) : (Hex.hexB n).toList = (Hex.hexL 17 n).map toU := by
  rw [ByteArray.toList_eq]; unfold Hex.hexB; rw [strOfNums_data]; rfl
theorem decB_list (n : Nat) : (decB n).toList = Lib.decDigits n := by rw [ByteArray.toList_eq]; rfl
theorem toList_size (s : ByteArray) : s.toList.length = s.size := by rw [ByteArray.toList_eq, data_length]
/-- what a greater one of two canonical numbers is -/
theorem order {b : Int} (hb : 1 ≤ b) (S : UInt8 → Prop) (hS : ∀ u, S u → 0 ≤ gV u ∧ gV u < b) (hlt : ∀ u v, S u → S v → (u < v ↔ gV u < gV v)) (hinj : ∀ u v, S u → S v → gV u = gV v → u = v) (s t : ByteArray) (x y : Int) (cs : Canon s.toList) (ct : Canon t.toList) (hs : ∀ u ∈ s.toList, S u) (ht : ∀ u ∈ t.toList, S u) (vx : valA b 0 (s.toList.map gV) = x) (vy : valA b 0 (t.toList.map gV) = y) :
    (s.size < t.size → x < y) ∧ (t.size < s.size → y < x) ∧ (s.size = t.size → Op.bytesLess s.toList t.toList = decide (x < y)) ∧ 0 < s.size := by
  rw [← toList_size s, ← toList_size t, ← vx, ← vy]
  refine ⟨fun h => len_val hb S hS _ _ cs ct hs ht h, fun h => len_val hb S hS _ _ ct cs ht hs h, fun h => less_val hb S hS hlt hinj _ _ 0 h hs ht, ?_⟩
  obtain ⟨u, r, e, _⟩ := cs
  rw [e]; simp
end Go.Proofs.YtnckmjdonbnpoaaDoor.PNumberOrder
