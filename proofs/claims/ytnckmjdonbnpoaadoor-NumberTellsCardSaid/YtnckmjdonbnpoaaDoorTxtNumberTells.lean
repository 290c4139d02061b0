/- What the printed functions of the text layer come to. -/
import Derived.Test.YtnckmjdonbnpoaaDoorPNumberTellsx
import Derived.Test.YtnckmjdonbnpoaaDoorParts
import Derived.Test.YtnckmjdonbnpoaaDoorLowP
import Derived.Test.YtnckmjdonbnpoaaDoorTrimP
import Derived.Test.YtnckmjdonbnpoaaDoorHex
import Derived.Lib.ItoaLen
namespace Go.Proofs.YtnckmjdonbnpoaaDoor.PNumberTells
open Go.RowKit Go.Proofs.YtnckmjdonbnpoaaDoorW.PrintWords Go.Proofs.YtnckmjdonbnpoaaDoorW.PrintLast Go.Proofs.YtnckmjdonbnpoaaDoorW.PrintMore Go.Proofs.YtnckmjdonbnpoaaDoor.Aid Go.Proofs.YtnckmjdonbnpoaaDoor.Parts

theorem rdOf_mem (l : List ByteArray) (j : Nat) (h : j < l.length) : rdOf ByteArray.empty l (j : Int) ∈ l := by
  unfold rdOf; simp [List.getD_eq_getElem?_getD, h]
/-- is a byte of a kind? -/
def ofB (c kind : Int) : Bool := (octet_of.f c kind).getD false
/-- is each byte of a text of one of some kinds? -/
def allB (s : ByteArray) (l : List Int) : Bool := (bytesOf s).all fun c => l.any (ofB c)


theorem of_k (kind : Fin 8) : ∀ n : Fin 256, octet_of.f (n.val : Int) (kind.val : Int) = some (ofB (n.val : Int) (kind.val : Int)) := by
  revert kind; decide +kernel

theorem of_far {c kind : Int} (h : ¬ (1 ≤ kind ∧ kind ≤ 6)) : octet_of.f c kind = some false := by
  unfold octet_of.f
  rw [if_neg (by omega), if_neg (by omega), if_neg (by omega), if_neg (by omega), if_neg (by omega), if_neg (by omega)]

theorem of_some {c : Int} (h0 : 0 ≤ c) (h1 : c < 256) (kind : Int) : octet_of.f c kind = some (ofB c kind) := by
  by_cases hk : 0 ≤ kind ∧ kind < 8
  · have := byte_all (p := fun c => octet_of.f c kind = some (ofB c kind)) (fun n => by
      have := of_k ⟨kind.toNat, by omega⟩ n
      rwa [show ((⟨kind.toNat, by omega⟩ : Fin 8).val : Int) = kind by simp; omega] at this) h0 h1
    exact this
  · have := of_far (c := c) (kind := kind) (by omega)
    unfold ofB; rw [this]; rfl

/-- one text's byte against the kinds from the j-th on -/
theorem own_in (s : ByteArray) (l : List Int) (hl : l.length < 9223372036854775807) (hs : s.size < 9223372036854775807) (i : Nat) (hi : i < s.size) (R : Bool)
    (hR : Ev (fun k => octet_All.l0 k s l (s.size : Int) ((i + 1 : Nat) : Int)) R) (d : Nat) : ∀ (j : Nat) (b : Bool), j + d = l.length →
    Ev (fun k => octet_All.l1 k s l (i : Int) b (s.size : Int) (i : Int) l (l.length : Int) (j : Int)) (if (b || (l.drop j).any (ofB (bt s (i : Int)))) = true then R else false) := by
  induction d with
  | zero =>
    intro j b hj
    refine Ev.step (fun _ => octet_All.l1.eq_2 ..) (Ev.neg (by omega) ?_)
    rw [List.drop_of_length_le (by omega), List.any_nil, Bool.or_false, wrap_nat (by omega)]
    exact Ev.cond (fun _ => hR) (fun _ => Ev.now _)
  | succ d ih =>
    intro j b hj
    have hw : wrap64 ((j : Int) + 1) = ((j + 1 : Nat) : Int) := wrap_nat (by omega)
    refine Ev.step (fun _ => octet_All.l1.eq_2 ..) (Ev.pos (by omega) (Ev.pos (by omega) (Ev.pos (by omega) ?_)))
    rw [drop_rd l j (by omega), List.any_cons, hw]
    cases b with
    | true => exact Ev.pos rfl ((ih (j + 1) true (by omega)).to (by simp))
    | false =>
      refine Ev.neg (by simp) (Ev.pos (by omega) (Ev.pos (by omega) ?_))
      have := bt_lt s (i : Int)
      exact Ev.val (of_some this.1 this.2 _) ((ih (j + 1) _ (by omega)).to (by rw [Bool.false_or]))

theorem own_out (s : ByteArray) (l : List Int) (hl : l.length < 9223372036854775807) (hs : s.size < 9223372036854775807) (d : Nat) : ∀ (i : Nat), i + d = s.size →
    Ev (fun k => octet_All.l0 k s l (s.size : Int) (i : Int)) (((bytesOf s).drop i).all fun c => l.any (ofB c)) := by
  induction d with
  | zero =>
    intro i hi
    refine Ev.step (fun _ => octet_All.l0.eq_2 ..) (Ev.neg (by omega) ?_)
    rw [List.drop_of_length_le (by rw [bytesOf_length]; omega)]; exact Ev.now _
  | succ d ih =>
    intro i hi
    refine Ev.step (fun _ => octet_All.l0.eq_2 ..) (Ev.pos (by omega) ?_)
    refine (own_in s l hl hs i (by omega) _ (ih (i + 1) (by omega)) l.length 0 false (by omega)).to ?_
    rw [drop_bytes s i (by omega), List.all_cons, List.drop_zero, Bool.false_or]
    cases l.any (ofB (bt s (i : Int))) <;> simp

theorem own_ev (s : ByteArray) (l : List Int) (hl : l.length < 9223372036854775807) (hs : s.size < 9223372036854775807) : Ev (fun k => octet_All.f k s l) (allB s l) :=
  (own_out s l hl hs s.size 0 (by omega)).to (by rw [List.drop_zero]; rfl)

theorem all_app (s t : ByteArray) (l : List Int) : allB (s ++ t) l = (allB s l && allB t l) := by
  unfold allB bytesOf
  rw [show (s ++ t).data.toList = s.data.toList ++ t.data.toList by simp [ByteArray.data_append], List.map_append, List.all_append]
/-- a digit's value -/
def hexV (c : Int) : Int := ((octet_Hex.f c).getD (0, false)).1
def valA (b : Int) (n : Int) (l : List Int) : Int := l.foldl (fun n d => n * b + d) n
theorem hex_all : ∀ n : Fin 256, octet_Hex.f (n.val : Int) = some (hexV (n.val : Int), ((octet_Hex.f (n.val : Int)).getD (0, false)).2) ∧ 0 ≤ hexV (n.val : Int) ∧ hexV (n.val : Int) ≤ 15 := by decide +kernel
theorem hex_at {c : Int} (h : 0 ≤ c ∧ c < 256) : octet_Hex.f c = some (hexV c, ((octet_Hex.f c).getD (0, false)).2) ∧ 0 ≤ hexV c ∧ hexV c ≤ 15 :=
  byte_all (p := fun c => octet_Hex.f c = some (hexV c, ((octet_Hex.f c).getD (0, false)).2) ∧ 0 ≤ hexV c ∧ hexV c ≤ 15) hex_all h.1 h.2
theorem valA_ge {b : Int} (hb : 1 ≤ b) (l : List Int) : ∀ n : Int, 0 ≤ n → (∀ d ∈ l, 0 ≤ d) → n ≤ valA b n l := by
  induction l with
  | nil => intro n _ _; exact Int.le_refl _
  | cons d l ih =>
    intro n hn hd
    have h0 := hd d (by simp)
    have h1 : n ≤ n * b := by have := Int.mul_le_mul_of_nonneg_left hb hn; rwa [Int.mul_one] at this
    have := ih (n * b + d) (by omega) (fun x hx => hd x (by simp [hx]))
    show n ≤ valA b (n * b + d) l
    omega
theorem vals_nonneg (s : ByteArray) (i : Nat) : ∀ d ∈ ((bytesOf s).map hexV).drop i, 0 ≤ d := by
  intro d hd
  obtain ⟨c, hc, rfl⟩ := List.mem_map.mp (List.mem_of_mem_drop hd)
  exact (hex_at (bytes_lt s hc)).2.1
theorem read_loop (s : ByteArray) (b most : Int) (hb : 2 ≤ b) (hb2 : b ≤ 16) (hm : most ≤ 9223372036854775807) (hs : s.size < 9223372036854775807) (d : Nat) : ∀ (i : Nat) (n : Int), i + d = s.size → 0 ≤ n → n ≤ most →
    Ev (fun k => number_read.l0 k s b most n (s.size : Int) (i : Int)) (if valA b n (((bytesOf s).map hexV).drop i) ≤ most then (valA b n (((bytesOf s).map hexV).drop i), 0) else (0, 23)) := by
  induction d with
  | zero =>
    intro i n hi h0 h1
    refine Ev.step (fun _ => number_read.l0.eq_2 ..) (Ev.neg (by omega) ((Ev.now _).to ?_))
    rw [List.drop_of_length_le (by rw [List.length_map, bytesOf_length]; omega)]
    exact (if_pos h1).symm
  | succ d ih =>
    intro i n hi h0 h1
    have h9 : i < 9223372036854775807 := by omega
    have hlt : i < ((bytesOf s).map hexV).length := by rw [List.length_map, bytesOf_length]; omega
    have hbt := bt_lt s (i : Int)
    obtain ⟨e1, e2, e3⟩ := hex_at hbt
    have hdrop : ((bytesOf s).map hexV).drop i = hexV (bt s (i : Int)) :: ((bytesOf s).map hexV).drop (i + 1) := by
      rw [← List.map_drop, drop_bytes s i (by omega), List.map_cons, List.map_drop]
    rw [hdrop]
    have hnn := vals_nonneg s (i + 1)
    refine Ev.step (fun _ => number_read.l0.eq_2 ..) (Ev.pos (by omega) (Ev.pos (by omega) (Ev.pos (by omega) (Ev.val e1 ?_))))
    show Ev (fun k => if hexV (bt s (i : Int)) > most then _ else _) (if valA b (n * b + hexV (bt s (i : Int))) (((bytesOf s).map hexV).drop (i + 1)) ≤ most then _ else _)
    rw [wrap_nat h9]
    generalize hexV (bt s (i : Int)) = v at e2 e3 ⊢
    have ih' := fun (n : Int) (h0 : 0 ≤ n) (h1 : n ≤ most) => ih (i + 1) n (by omega) h0 h1
    clear ih
    generalize ((bytesOf s).map hexV).drop (i + 1) = l at hnn ih' ⊢
    have hge := valA_ge (b := b) (by omega) l (n * b + v) (by have := Int.mul_nonneg h0 (show 0 ≤ b by omega); omega) hnn
    have hnb := Int.mul_nonneg h0 (show 0 ≤ b by omega)
    by_cases hv : v > most
    · exact Ev.pos hv ((Ev.now _).to (if_neg (by omega)).symm)
    · refine Ev.neg hv (Ev.neg (by omega) ?_)
      have hw1 : wrap64 (most - v) = most - v := wrap_in (by omega) (by omega)
      have hq : Int.tdiv (most - v) b = (most - v) / b := Int.tdiv_eq_ediv_of_nonneg (by omega)
      have hq2 : (most - v) / b ≤ most - v := Int.ediv_le_self _ (by omega)
      have hq3 : 0 ≤ (most - v) / b := Int.ediv_nonneg (by omega) (by omega)
      have hw2 : wrap64 ((most - v) / b) = (most - v) / b := wrap_in (by omega) (by omega)
      rw [hw1, hq, hw2]
      clear hw1 hw2 hq
      have hiff := Int.ediv_lt_iff_lt_mul (a := most - v) (b := n) (c := b) (by omega)
      clear hq2 hq3
      by_cases hc : n > (most - v) / b
      · have := hiff.mp hc
        exact Ev.pos hc ((Ev.now _).to (if_neg (by omega)).symm)
      · have h2 : ¬ most - v < n * b := fun h => hc (hiff.mpr h)
        clear hiff
        refine Ev.neg hc ?_
        have hw3 : wrap64 (n * b) = n * b := wrap_in (by omega) (by omega)
        rw [hw3]
        clear hw3
        have hw4 : wrap64 (n * b + v) = n * b + v := wrap_in (by omega) (by omega)
        rw [hw4]
        exact ih' (n * b + v) (by omega) (by omega)
/-- the number that a text says -/
def readB (s : ByteArray) (b most kind : Int) : Int × Int := if bytesOf s = [] ∨ allB s [kind] = false then (0, 22) else if valA b 0 ((bytesOf s).map hexV) ≤ mx most 0 then (valA b 0 ((bytesOf s).map hexV), 0) else (0, 23)
theorem bytes_nil (s : ByteArray) : s.toList = ([] : List UInt8) ↔ bytesOf s = [] := by rw [ByteArray.toList_eq]; unfold bytesOf; simp
theorem read_ev (s : ByteArray) (b most kind : Int) (hb : 2 ≤ b) (hb2 : b ≤ 16) (hm : most ≤ 9223372036854775807) (hs : s.size < 9223372036854775807) : Ev (fun k => number_read.f k s b most kind) (readB s b most kind) := by
  unfold number_read.f readB
  by_cases h : s.toList = ([] : List UInt8)
  · rw [if_pos (.inl ((bytes_nil s).mp h))]
    exact Ev.pos h (Ev.step (fun _ => number_read.j0.eq_2 ..) (Ev.pos rfl (Ev.now _)))
  · refine Ev.neg h (Ev.bind (own_ev s [kind] (by simp) hs) (Ev.step (fun _ => number_read.j0.eq_2 ..) ?_))
    have h' : ¬ bytesOf s = [] := fun e => h ((bytes_nil s).mpr e)
    cases ha : allB s [kind] with
    | false => rw [if_pos (.inr rfl)]; exact Ev.pos rfl (Ev.now _)
    | true =>
      rw [if_neg (by simp [h'])]
      have h0 : 0 ≤ mx most 0 := by unfold mx; split <;> omega
      have h1 : mx most 0 ≤ 9223372036854775807 := by unfold mx; split <;> omega
      exact Ev.neg (by simp) ((read_loop s b (mx most 0) hb hb2 h1 hs s.size 0 0 (by omega) (by omega) h0).to (by rw [List.drop_zero]))
theorem dec_ev (s : ByteArray) (most : Int) (hm : most ≤ 9223372036854775807) (hs : s.size < 9223372036854775807) : Ev (fun k => number_Dec.f k s most) (readB s 10 most 4) := by
  unfold number_Dec.f; exact Ev.bind (read_ev s 10 most 4 (by omega) (by omega) hm hs) (Ev.now _)
theorem hexn_ev (s : ByteArray) (most : Int) (hm : most ≤ 9223372036854775807) (hs : s.size < 9223372036854775807) : Ev (fun k => number_Hex.f k s most) (readB s 16 most 5) := by
  unfold number_Hex.f; exact Ev.bind (read_ev s 16 most 5 (by omega) (by omega) hm hs) (Ev.now _)
/-- these bytes are a number's digits -/
def Num (b kind : Int) (l : List Int) (n : Nat) : Prop := l ≠ [] ∧ (∀ c ∈ l, ofB c kind = true) ∧ valA b 0 (l.map hexV) = (n : Int)
theorem num_one {b kind : Int} {c : Int} {d : Nat} (h : ofB c kind = true) (hv : hexV c = d) : Num b kind [c] d := ⟨by simp, by simp [h], by simp [valA, hv]⟩
theorem num_app {b kind : Int} {l : List Int} {n : Nat} (h : Num b kind l n) {c : Int} {d : Nat} (hk : ofB c kind = true) (hv : hexV c = d) {m : Nat} (hm : (m : Int) = n * b + d) : Num b kind (l ++ [c]) m := by
  obtain ⟨h1, h2, h3⟩ := h
  refine ⟨by simp, fun x hx => ?_, ?_⟩
  · rcases List.mem_append.mp hx with e | e
    · exact h2 x e
    · rw [List.mem_singleton.mp e]; exact hk
  · unfold valA at h3 ⊢
    rw [List.map_append, List.foldl_append, h3, hm]; simp [hv]
theorem num_zero {b kind : Int} {l : List Int} {n : Nat} (h : Num b kind l n) (hk : ofB 48 kind = true) (hv : hexV 48 = 0) : Num b kind (48 :: l) n := by
  obtain ⟨h1, h2, h3⟩ := h
  refine ⟨by simp, fun x hx => ?_, ?_⟩
  · rcases List.mem_cons.mp hx with e | e
    · rw [e]; exact hk
    · exact h2 x e
  · rw [← h3]; simp [valA, hv]
theorem num_read {b kind : Int} {s : ByteArray} {n : Nat} (h : Num b kind (bytesOf s) n) (most : Int) : readB s b most kind = if (n : Int) ≤ mx most 0 then ((n : Int), 0) else (0, 23) := by
  unfold readB
  have ha : allB s [kind] = true := by
    unfold allB; rw [List.all_eq_true]; intro c hc; simp [h.2.1 c hc]
  rw [if_neg (by simp [h.1, ha]), h.2.2]
theorem dig10 : ∀ d : Fin 10, ofB (48 + (d.val : Int)) 4 = true ∧ hexV (48 + (d.val : Int)) = (d.val : Int) := by decide +kernel
theorem dig16 : ∀ d : Fin 16, ofB (Hex.dig d.val) 5 = true ∧ hexV (Hex.dig d.val) = (d.val : Int) := by decide +kernel
theorem nought : (ofB 48 4 = true ∧ ofB 48 5 = true) ∧ hexV 48 = 0 := by decide +kernel
theorem dec_byte (d : Nat) (h : d < 10) : (((UInt8.ofNat (48 + d)).toNat : Nat) : Int) = 48 + (d : Int) := by
  rw [UInt8.toNat_ofNat_of_lt' (by show 48 + d < 256; omega)]; omega
theorem dec_num (u : Nat) : Num 10 4 ((Lib.decDigits u).map fun b => (b.toNat : Int)) u := by
  induction u using Nat.strongRecOn with
  | _ u ih =>
    have hm : u % 10 < 10 := Nat.mod_lt _ (by decide)
    rw [Lib.decDigits]
    by_cases h : u < 10
    · rw [dif_pos h, List.map_cons, List.map_nil, dec_byte u h]
      exact num_one (dig10 ⟨u, h⟩).1 (dig10 ⟨u, h⟩).2
    · rw [dif_neg h, List.map_append, List.map_cons, List.map_nil, dec_byte _ hm]
      exact num_app (ih (u / 10) (by omega)) (dig10 ⟨u % 10, hm⟩).1 (dig10 ⟨u % 10, hm⟩).2 (by simp only; omega)
theorem hexL_num (f : Nat) : ∀ u : Nat, u < 16 ^ (f + 1) → Num 16 5 (Hex.hexL (f + 1) u) u := by
  induction f with
  | zero => intro u h; have h : u < 16 := by simpa using h
            rw [Hex.hexL_lt _ _ h]; exact num_one (dig16 ⟨u, h⟩).1 (dig16 ⟨u, h⟩).2
  | succ f ih =>
    intro u h
    by_cases h1 : u < 16
    · rw [Hex.hexL_lt _ _ h1]; exact num_one (dig16 ⟨u, h1⟩).1 (dig16 ⟨u, h1⟩).2
    · have hm : u % 16 < 16 := Nat.mod_lt _ (by decide)
      rw [Hex.hexL_ge _ _ h1]
      rw [Nat.pow_succ] at h
      exact num_app (ih (u / 16) (Nat.div_lt_of_lt_mul (by rw [Nat.mul_comm]; exact h))) (dig16 ⟨u % 16, hm⟩).1 (dig16 ⟨u % 16, hm⟩).2 (by simp only; omega)
theorem hexL_range (f : Nat) : ∀ u : Nat, ∀ x ∈ Hex.hexL f u, 0 ≤ x ∧ x < 256 := by
  induction f with
  | zero => intro u x hx; simp [Hex.hexL] at hx
  | succ f ih =>
    intro u x hx
    by_cases h1 : u < 16
    · rw [Hex.hexL_lt _ _ h1] at hx; rw [List.mem_singleton.mp hx]; have := Hex.dig_range h1; omega
    · rw [Hex.hexL_ge _ _ h1] at hx
      rcases List.mem_append.mp hx with e | e
      · exact ih _ x e
      · rw [List.mem_singleton.mp e]; have := Hex.dig_range (Nat.mod_lt u (show 0 < 16 by decide)); omega
def decB (n : Nat) : ByteArray := ⟨(Lib.decDigits n).toArray⟩
theorem decB_num (n : Nat) : Num 10 4 (bytesOf (decB n)) n := by
  have := dec_num n
  unfold bytesOf decB; exact this
theorem hexB_num (n : Nat) (h : n < 9223372036854775808) : Num 16 5 (bytesOf (Hex.hexB n)) n := by
  unfold Hex.hexB; rw [LowP.bytes_nums (hexL_range 17 n)]; exact hexL_num 16 n (by omega)
theorem put_some (a : Int) (h : a ≤ 9223372036854775807) : number_Put.f a = some (decB (mx a 0).toNat) := by
  have h0 : 0 ≤ mx a 0 := by unfold mx; split <;> omega
  have h1 : mx a 0 ≤ 9223372036854775807 := by unfold mx; split <;> omega
  unfold number_Put.f strconv_Itoa.f
  rw [if_pos ⟨by omega, h1⟩, Option.bind_some]
  unfold decB Lib.itoa; rw [if_neg (by omega)]
theorem puthex_some (a : Int) (h : a ≤ 9223372036854775807) : number_PutHex.f a = some (Hex.hexB (mx a 0).toNat) := by
  have h0 : 0 ≤ mx a 0 := by unfold mx; split <;> omega
  have h1 : mx a 0 ≤ 9223372036854775807 := by unfold mx; split <;> omega
  unfold number_PutHex.f strconv_FormatInt.f
  rw [if_pos ⟨rfl, h0, h1⟩, Option.bind_some]
theorem decB_size (n : Nat) (h : n < 9223372036854775808) : (decB n).size ≤ 21 := by
  have := Lib.itoa_length_le (n : Int) (by omega) (by omega)
  unfold Lib.itoa at this; rw [if_neg (by omega)] at this
  simpa [decB, ByteArray.size] using this
theorem hexL_len (f : Nat) : ∀ u, (Hex.hexL f u).length ≤ f := by
  induction f with
  | zero => intro u; simp [Hex.hexL]
  | succ f ih =>
    intro u
    by_cases h1 : u < 16
    · rw [Hex.hexL_lt _ _ h1]; simp
    · rw [Hex.hexL_ge _ _ h1]; have := ih (u / 16); simp; omega
theorem hexB_size (n : Nat) : (Hex.hexB n).size ≤ 17 := by
  unfold Hex.hexB; rw [strOfNums_size]; exact hexL_len 17 n
/-- a byte's value as a digit -/
def gV (b : UInt8) : Int := hexV (b.toNat : Int)
theorem valA_lt {b : Int} (hb : 1 ≤ b) (x : List Int) : ∀ (y : List Int) (n m : Int), x.length = y.length → (∀ d ∈ x, 0 ≤ d ∧ d < b) → (∀ d ∈ y, 0 ≤ d ∧ d < b) → n < m → valA b n x < valA b m y := by
  induction x with
  | nil => intro y n m hl _ _ h; rw [List.length_nil] at hl; rw [List.eq_nil_of_length_eq_zero hl.symm]; exact h
  | cons d x ih =>
    intro y n m hl hx hy h
    cases y with
    | nil => simp at hl
    | cons e y =>
      have h1 := hx d (by simp)
      have h2 := hy e (by simp)
      have h3 : (n + 1) * b ≤ m * b := Int.mul_le_mul_of_nonneg_right (by omega) (by omega)
      rw [Int.add_mul, Int.one_mul] at h3
      exact ih y (n * b + d) (m * b + e) (by simpa using hl) (fun z hz => hx z (by simp [hz])) (fun z hz => hy z (by simp [hz])) (by omega)
theorem less_val {b : Int} (hb : 1 ≤ b) (S : UInt8 → Prop) (hS : ∀ u, S u → 0 ≤ gV u ∧ gV u < b) (hlt : ∀ u v, S u → S v → (u < v ↔ gV u < gV v)) (hinj : ∀ u v, S u → S v → gV u = gV v → u = v) (x : List UInt8) : ∀ (y : List UInt8) (n : Int), x.length = y.length → (∀ u ∈ x, S u) → (∀ u ∈ y, S u) →
    Op.bytesLess x y = decide (valA b n (x.map gV) < valA b n (y.map gV)) := by
  induction x with
  | nil => intro y n hl _ _; rw [List.length_nil] at hl; rw [List.eq_nil_of_length_eq_zero hl.symm]; simp [Op.bytesLess]
  | cons u x ih =>
    intro y n hl hx hy
    cases y with
    | nil => simp at hl
    | cons v y =>
      have hu := hx u (by simp)
      have hv := hy v (by simp)
      have hl' : x.length = y.length := by simpa using hl
      have hx' : ∀ z ∈ x, S z := fun z hz => hx z (by simp [hz])
      have hy' : ∀ z ∈ y, S z := fun z hz => hy z (by simp [hz])
      have rx : ∀ d ∈ x.map gV, 0 ≤ d ∧ d < b := by intro d hd; obtain ⟨z, hz, rfl⟩ := List.mem_map.mp hd; exact hS z (hx' z hz)
      have ry : ∀ d ∈ y.map gV, 0 ≤ d ∧ d < b := by intro d hd; obtain ⟨z, hz, rfl⟩ := List.mem_map.mp hd; exact hS z (hy' z hz)
      have h1 := hlt u v hu hv
      have h2 := hlt v u hv hu
      show (decide (u < v) || (u == v && Op.bytesLess x y)) = decide (valA b (n * b + gV u) (x.map gV) < valA b (n * b + gV v) (y.map gV))
      rcases Int.lt_trichotomy (gV u) (gV v) with h | h | h
      · rw [decide_eq_true (h1.mpr h), Bool.true_or]
        exact (decide_eq_true (valA_lt hb _ _ _ _ (by simpa using hl') rx ry (by omega))).symm
      · have e := hinj u v hu hv h
        subst e
        rw [ih y (n * b + gV u) hl' hx' hy']
        have : ¬ u < u := fun z => by have := h1.mp z; omega
        simp [this]
      · have n1 : ¬ u < v := fun z => by have := h1.mp z; omega
        have n2 : ¬ u = v := fun z => by rw [z] at h; omega
        have := valA_lt hb _ _ _ _ (by simpa using hl'.symm) ry rx (show n * b + gV v < n * b + gV u by omega)
        rw [decide_eq_false n1, decide_eq_false (show ¬ valA b (n * b + gV u) (x.map gV) < valA b (n * b + gV v) (y.map gV) by omega)]
        simp [n2]
theorem valA_app (b n : Int) (x y : List Int) : valA b n (x ++ y) = valA b (valA b n x) y := by unfold valA; rw [List.foldl_append]
def Canon (l : List UInt8) : Prop := ∃ u r, l = u :: r ∧ (r ≠ [] → 1 ≤ gV u)
theorem len_val {b : Int} (hb : 1 ≤ b) (S : UInt8 → Prop) (hS : ∀ u, S u → 0 ≤ gV u ∧ gV u < b) (l m : List UInt8) (cl : Canon l) (cm : Canon m) (hl : ∀ u ∈ l, S u) (hm : ∀ u ∈ m, S u) (h : l.length < m.length) : valA b 0 (l.map gV) < valA b 0 (m.map gV) := by
  obtain ⟨u0, r0, e0, _⟩ := cl
  obtain ⟨u, r, e, hc⟩ := cm
  have h0 : 1 ≤ l.length := by rw [e0]; simp
  have hml : m.length = r.length + 1 := by rw [e]; rfl
  have hr : r ≠ [] := by rintro rfl; rw [List.length_nil] at hml; omega
  have hu := hc hr
  have hlr : l.length ≤ r.length := by omega
  have hsplit : m = (u :: r.take (r.length - l.length)) ++ r.drop (r.length - l.length) := by rw [e, List.cons_append, List.take_append_drop]
  have hr1 : ∀ z ∈ r, S z := fun z hz => hm z (by rw [e]; simp [hz])
  rw [hsplit, List.map_append, valA_app]
  have hp : 0 < valA b 0 ((u :: r.take (r.length - l.length)).map gV) := by
    rw [List.map_cons]
    show 0 < valA b (0 * b + gV u) _
    rw [Int.zero_mul, Int.zero_add]
    have := valA_ge hb ((r.take (r.length - l.length)).map gV) (gV u) (by omega) (fun d hd => by obtain ⟨z, hz, rfl⟩ := List.mem_map.mp hd; exact (hS z (hr1 z (List.mem_of_mem_take hz))).1)
    omega
  refine valA_lt hb _ _ _ _ (by simp; omega) (fun d hd => ?_) (fun d hd => ?_) hp
  · obtain ⟨z, hz, rfl⟩ := List.mem_map.mp hd; exact hS z (hl z hz)
  · obtain ⟨z, hz, rfl⟩ := List.mem_map.mp hd; exact hS z (hr1 z (List.mem_of_mem_drop hz))
theorem canon_app {b : Int} {l : List UInt8} (c : Canon l) {v : Int} (hv : valA b 0 (l.map gV) = v) (h1 : 1 ≤ v) (x : UInt8) : Canon (l ++ [x]) := by
  obtain ⟨u, r, e, hc⟩ := c
  refine ⟨u, r ++ [x], by rw [e]; rfl, fun _ => ?_⟩
  by_cases hr : r = []
  · rw [e, hr] at hv
    have : 0 * b + gV u = v := hv
    rw [Int.zero_mul] at this; omega
  · exact hc hr
theorem canon_one (x : UInt8) : Canon [x] := ⟨x, [], rfl, fun h => absurd rfl h⟩
theorem map_gV (l : List UInt8) : l.map gV = (l.map fun b => (b.toNat : Int)).map hexV := by rw [List.map_map]; rfl
theorem dec_val (n : Nat) : valA 10 0 ((Lib.decDigits n).map gV) = (n : Int) := by rw [map_gV]; exact (dec_num n).2.2
theorem dec_canon (u : Nat) : Canon (Lib.decDigits u) := by
  induction u using Nat.strongRecOn with
  | _ u ih =>
    rw [Lib.decDigits]
    by_cases h : u < 10
    · rw [dif_pos h]; exact canon_one _
    · rw [dif_neg h]; exact canon_app (ih (u / 10) (by omega)) (dec_val (u / 10)) (by omega) _
def S10 (u : UInt8) : Prop := 48 ≤ u.toNat ∧ u.toNat ≤ 57
def S16 (u : UInt8) : Prop := (48 ≤ u.toNat ∧ u.toNat ≤ 57) ∨ (97 ≤ u.toNat ∧ u.toNat ≤ 102)
theorem g10 : ∀ n : Fin 256, 48 ≤ n.val ∧ n.val ≤ 57 → hexV (n.val : Int) = (n.val : Int) - 48 := by decide +kernel
theorem g16 : ∀ n : Fin 256, 97 ≤ n.val ∧ n.val ≤ 102 → hexV (n.val : Int) = (n.val : Int) - 87 := by decide +kernel
theorem gV10 {u : UInt8} (h : 48 ≤ u.toNat ∧ u.toNat ≤ 57) : gV u = (u.toNat : Int) - 48 := g10 ⟨u.toNat, u.toNat_lt⟩ h
theorem gV16 {u : UInt8} (h : 97 ≤ u.toNat ∧ u.toNat ≤ 102) : gV u = (u.toNat : Int) - 87 := g16 ⟨u.toNat, u.toNat_lt⟩ h
theorem S10_16 {u : UInt8} (h : S10 u) : S16 u := .inl h
theorem s16_range (u : UInt8) (h : S16 u) : 0 ≤ gV u ∧ gV u < 16 := by
  rcases h with h | h
  · rw [gV10 h]; omega
  · rw [gV16 h]; omega
theorem s10_range (u : UInt8) (h : S10 u) : 0 ≤ gV u ∧ gV u < 10 := by rw [gV10 h]; have := h.1; have := h.2; omega
theorem s16_lt (u v : UInt8) (h : S16 u) (h' : S16 v) : u < v ↔ gV u < gV v := by
  rw [UInt8.lt_iff_toNat_lt]
  rcases h with h | h <;> rcases h' with k | k
  · rw [gV10 h, gV10 k]; omega
  · rw [gV10 h, gV16 k]; omega
  · rw [gV16 h, gV10 k]; omega
  · rw [gV16 h, gV16 k]; omega
theorem s16_inj (u v : UInt8) (h : S16 u) (h' : S16 v) (e : gV u = gV v) : u = v := by
  apply UInt8.toNat_inj.mp
  rcases h with h | h <;> rcases h' with k | k
  · rw [gV10 h, gV10 k] at e; omega
  · rw [gV10 h, gV16 k] at e; omega
  · rw [gV16 h, gV10 k] at e; omega
  · rw [gV16 h, gV16 k] at e; omega
theorem dec_S (u : Nat) : ∀ x ∈ Lib.decDigits u, S10 x := by
  induction u using Nat.strongRecOn with
  | _ u ih =>
    rw [Lib.decDigits]
    have one : ∀ d : Nat, d < 10 → S10 (UInt8.ofNat (48 + d)) := by
      intro d hd; unfold S10; rw [UInt8.toNat_ofNat_of_lt' (by show 48 + d < 256; omega)]; omega
    by_cases h : u < 10
    · rw [dif_pos h]; intro x hx; rw [List.mem_singleton.mp hx]; exact one u h
    · rw [dif_neg h]; intro x hx
      rcases List.mem_append.mp hx with e | e
      · exact ih (u / 10) (by omega) x e
      · rw [List.mem_singleton.mp e]; exact one _ (Nat.mod_lt _ (by decide))
def toU (x : Int) : UInt8 := UInt8.ofNat x.toNat
theorem dig_S {d : Nat} (h : d < 16) : S16 (toU (Hex.dig d)) := by
  have hr := Hex.dig_range h
  unfold S16 toU; rw [UInt8.toNat_ofNat_of_lt' (by show (Hex.dig d).toNat < 256; omega)]
  unfold Hex.dig; split <;> omega
theorem hexU_S (f : Nat) : ∀ u : Nat, ∀ x ∈ (Hex.hexL f u).map toU, S16 x := by
  induction f with
  | zero => intro u x hx; simp [Hex.hexL] at hx
  | succ f ih =>
    intro u x hx
    by_cases h : u < 16
    · rw [Hex.hexL_lt _ _ h, List.map_cons, List.map_nil] at hx; rw [List.mem_singleton.mp hx]; exact dig_S h
    · rw [Hex.hexL_ge _ _ h, List.map_append] at hx
      rcases List.mem_append.mp hx with e | e
      · exact ih _ x e
      · rw [List.map_cons, List.map_nil] at e; rw [List.mem_singleton.mp e]; exact dig_S (Nat.mod_lt _ (by decide))
theorem hexU_back {l : List Int} (h : ∀ x ∈ l, 0 ≤ x ∧ x < 256) : (l.map toU).map (fun b => (b.toNat : Int)) = l := by
  rw [List.map_map]
  have : ∀ x ∈ l, ((fun b : UInt8 => (b.toNat : Int)) ∘ toU) x = x := fun x hx => LowP.nat_u8 (h x hx).1 (h x hx).2
  exact (List.map_congr_left this).trans (List.map_id l)
theorem hexU_val (f u : Nat) (h : u < 16 ^ (f + 1)) : valA 16 0 (((Hex.hexL (f + 1) u).map toU).map gV) = (u : Int) := by
  rw [map_gV, hexU_back (hexL_range (f + 1) u)]; exact (hexL_num f u h).2.2
theorem hexU_canon (f : Nat) : ∀ u : Nat, u < 16 ^ (f + 1) → Canon ((Hex.hexL (f + 1) u).map toU) := by
  induction f with
  | zero => intro u h; have h : u < 16 := by simpa using h
            rw [Hex.hexL_lt _ _ h]; exact canon_one _
  | succ f ih =>
    intro u h
    by_cases h1 : u < 16
    · rw [Hex.hexL_lt _ _ h1]; exact canon_one _
    · rw [Hex.hexL_ge _ _ h1, List.map_append]
      rw [Nat.pow_succ] at h
      have h2 : u / 16 < 16 ^ (f + 1) := Nat.div_lt_of_lt_mul (by rw [Nat.mul_comm]; exact h)
      exact canon_app (ih (u / 16) h2) (hexU_val f (u / 16) h2) (by omega) _
theorem hexB_list (n : Nat) : (Hex.hexB n).toList = (Hex.hexL 17 n).map toU := by
  rw [ByteArray.toList_eq]; unfold Hex.hexB; rw [strOfNums_data]; rfl
theorem decB_list (n : Nat) : (decB n).toList = Lib.decDigits n := by rw [ByteArray.toList_eq]; rfl
theorem toList_size (s : ByteArray) : s.toList.length = s.size := by rw [ByteArray.toList_eq, data_length]
/-- what a greater one of two canonical numbers is -/
theorem order {b : Int} (hb : 1 ≤ b) (S : UInt8 → Prop) (hS : ∀ u, S u → 0 ≤ gV u ∧ gV u < b) (hlt : ∀ u v, S u → S v → (u < v ↔ gV u < gV v)) (hinj : ∀ u v, S u → S v → gV u = gV v → u = v) (s t : ByteArray) (x y : Int) (cs : Canon s.toList) (ct : Canon t.toList) (hs : ∀ u ∈ s.toList, S u) (ht : ∀ u ∈ t.toList, S u) (vx : valA b 0 (s.toList.map gV) = x) (vy : valA b 0 (t.toList.map gV) = y) :
    (s.size < t.size → x < y) ∧ (t.size < s.size → y < x) ∧ (s.size = t.size → Op.bytesLess s.toList t.toList = decide (x < y)) ∧ 0 < s.size := by
  rw [← toList_size s, ← toList_size t, ← vx, ← vy]
  refine ⟨fun h => len_val hb S hS _ _ cs ct hs ht h, fun h => len_val hb S hS _ _ ct cs ht hs h, fun h => less_val hb S hS hlt hinj _ _ 0 h hs ht, ?_⟩
  obtain ⟨u, r, e, _⟩ := cs
  rw [e]; simp
/-- is it a hexadecimal digit? -/
def hexK (c : Int) : Bool := ((octet_Hex.f c).getD (0, false)).2
theorem rhex_all : ∀ n : Fin 256, parallaxref1_Hex.f 2 (n.val : Int) = some (hexV (n.val : Int), hexK (n.val : Int)) := by decide +kernel
theorem rhex_ev {c : Int} (h : 0 ≤ c ∧ c < 256) : Ev (fun k => parallaxref1_Hex.f k c) (hexV c, hexK c) :=
  Ev.of (fun k => parallaxref1_Hex.mono _ k) (k := 2) (byte_all (p := fun c => parallaxref1_Hex.f 2 c = some (hexV c, hexK c)) rhex_all h.1 h.2)
/-- a kind's bytes are a base's digits -/
def BaseOf (b kind : Int) : Prop := ∀ c : Int, 0 ≤ c → c < 256 → ofB c kind = (hexK c && decide (hexV c < b))
theorem base10_all : ∀ n : Fin 256, ofB (n.val : Int) 4 = (hexK (n.val : Int) && decide (hexV (n.val : Int) < 10)) := by decide +kernel
theorem base16_all : ∀ n : Fin 256, ofB (n.val : Int) 5 = (hexK (n.val : Int) && decide (hexV (n.val : Int) < 16)) := by decide +kernel
theorem base10 : BaseOf 10 4 := fun _ h0 h1 => byte_all (p := fun c => ofB c 4 = (hexK c && decide (hexV c < 10))) base10_all h0 h1
theorem base16 : BaseOf 16 5 := fun _ h0 h1 => byte_all (p := fun c => ofB c 5 = (hexK c && decide (hexV c < 16))) base16_all h0 h1
/-- what a number's reader comes to behind n, of which bytes l are left -/
def numR (b most kind n : Int) (over : Bool) (l : List Int) : Int × Int := if l.all (fun c => ofB c kind) = true then (if over = true then (0, 23) else if valA b n (l.map hexV) ≤ most then (valA b n (l.map hexV), 0) else (0, 23)) else (0, 22)
theorem rnum_loop (s : ByteArray) (b most kind : Int) (hb : 2 ≤ b) (hb2 : b ≤ 16) (hB : BaseOf b kind) (hm0 : 0 ≤ most) (hm : most ≤ 9223372036854775807) (hs : s.size < 9223372036854775807) (d : Nat) : ∀ (i : Nat) (n : Int) (over : Bool), i + d = s.size → 0 ≤ n → n ≤ most →
    Ev (fun k => parallaxref1_number.l0 k s b most n over (i : Int)) (numR b most kind n over ((bytesOf s).drop i)) := by
  induction d with
  | zero =>
    intro i n over hi h0 h1
    rw [List.drop_of_length_le (by rw [bytesOf_length]; omega)]
    refine Ev.step (fun _ => parallaxref1_number.l0.eq_2 ..) (Ev.neg (by omega) ?_)
    unfold numR
    rw [if_pos (show (([] : List Int).all fun c => ofB c kind) = true from rfl)]
    cases over with
    | true => exact Ev.pos (show (true : Bool) = true from rfl) ((Ev.now _).to rfl)
    | false =>
      refine Ev.neg (show ¬ (false : Bool) = true by simp) ((Ev.now _).to ?_)
      rw [if_neg (show ¬ (false : Bool) = true by simp)]
      exact (if_pos (show valA b n (List.map hexV []) ≤ most from h1)).symm
  | succ d ih =>
    intro i n over hi h0 h1
    have h9 : i < 9223372036854775807 := by omega
    have hbt := bt_lt s (i : Int)
    have hx := rhex_ev hbt
    have hk := hB (bt s (i : Int)) hbt.1 hbt.2
    have hv := (hex_at hbt).2
    rw [drop_bytes s i (by omega)]
    refine Ev.step (fun _ => parallaxref1_number.l0.eq_2 ..) (Ev.pos (by omega) (Ev.pos (by omega) (Ev.bind hx ?_)))
    have IH := fun (n : Int) (over : Bool) (h0 : 0 ≤ n) (h1 : n ≤ most) => ih (i + 1) n over (by omega) h0 h1
    clear ih hx
    have hnn : ∀ x ∈ ((bytesOf s).drop (i + 1)).map hexV, 0 ≤ x := by rw [List.map_drop]; exact vals_nonneg s (i + 1)
    rw [← wrap_nat h9] at IH
    generalize (bytesOf s).drop (i + 1) = l at IH hnn ⊢
    generalize bt s (i : Int) = c at hk hv ⊢
    have stop : ∀ x36 : Bool, x36 = true → ofB c kind = false → Ev (fun k => parallaxref1_number.j1 k s b most n over (i : Int) (hexV c) x36) (numR b most kind n over (c :: l)) := by
      intro x36 hx hc
      refine Ev.step (fun _ => parallaxref1_number.j1.eq_2 ..) (Ev.pos hx ((Ev.now _).to ?_))
      unfold numR; rw [if_neg (by simp [hc])]
    cases hK : hexK c with
    | false => exact Ev.neg (by simp) (stop true rfl (by rw [hk, hK]; rfl))
    | true =>
      refine Ev.pos rfl ?_
      by_cases hlt : hexV c < b
      · have hof : ofB c kind = true := by rw [hk, hK]; simpa using hlt
        have hall : ∀ m o, numR b most kind m o l = (if (c :: l).all (fun c => ofB c kind) = true then (if o = true then (0, 23) else if valA b m (l.map hexV) ≤ most then (valA b m (l.map hexV), 0) else (0, 23)) else (0, 22)) := by
          intro m o; unfold numR; rw [List.all_cons, hof, Bool.true_and]
        have over_to : Ev (fun k => parallaxref1_number.l0 k s b most n true (wrap64 ((i : Int) + 1))) (if (c :: l).all (fun c => ofB c kind) = true then (0, 23) else (0, 22)) := (IH n true h0 h1).to (by rw [hall, if_pos rfl])
        refine Ev.step (fun _ => parallaxref1_number.j1.eq_2 ..) (Ev.neg (by simpa using hlt) ?_)
        cases over with
        | true => exact Ev.pos rfl (over_to.to (by unfold numR; rw [if_pos rfl]))
        | false =>
          refine Ev.neg (by simp) (Ev.neg (by omega) ?_)
          have hge := valA_ge (b := b) (by omega) (l.map hexV) (n * b + hexV c) (by have := Int.mul_nonneg h0 (show 0 ≤ b by omega); omega) hnn
          have hnb := Int.mul_nonneg h0 (show 0 ≤ b by omega)
          have over_n : most < n * b + hexV c → Ev (fun k => parallaxref1_number.l0 k s b most n true (wrap64 ((i : Int) + 1))) (numR b most kind n false (c :: l)) := by
            intro ho
            refine over_to.to ?_
            unfold numR
            rw [if_neg (show ¬ false = true by simp)]
            show _ = if _ then (if valA b (n * b + hexV c) (l.map hexV) ≤ most then _ else _) else _
            rw [if_neg (show ¬ valA b (n * b + hexV c) (l.map hexV) ≤ most by omega)]
          by_cases hvm : hexV c > most
          · by_cases hc1 : n > wrap64 (Int.tdiv (wrap64 (most - hexV c)) b)
            · exact Ev.pos hc1 (over_n (by omega))
            · exact Ev.neg hc1 (Ev.pos hvm (over_n (by omega)))
          · have hw1 : wrap64 (most - hexV c) = most - hexV c := wrap_in (by omega) (by omega)
            have hq : Int.tdiv (most - hexV c) b = (most - hexV c) / b := Int.tdiv_eq_ediv_of_nonneg (by omega)
            have hq2 : (most - hexV c) / b ≤ most - hexV c := Int.ediv_le_self _ (by omega)
            have hq3 : 0 ≤ (most - hexV c) / b := Int.ediv_nonneg (by omega) (by omega)
            have hw2 : wrap64 ((most - hexV c) / b) = (most - hexV c) / b := wrap_in (by omega) (by omega)
            rw [hw1, hq, hw2]
            clear hw1 hw2 hq
            have hiff := Int.ediv_lt_iff_lt_mul (a := most - hexV c) (b := n) (c := b) (by omega)
            clear hq2 hq3
            by_cases hc : n > (most - hexV c) / b
            · have := hiff.mp hc
              exact Ev.pos hc (over_n (by omega))
            · have h2 : ¬ most - hexV c < n * b := fun h => hc (hiff.mpr h)
              clear hiff
              refine Ev.neg hc (Ev.neg hvm ?_)
              have hw3 : wrap64 (n * b) = n * b := wrap_in (by omega) (by omega)
              rw [hw3]
              clear hw3
              have hw4 : wrap64 (n * b + hexV c) = n * b + hexV c := wrap_in (by omega) (by omega)
              rw [hw4]
              refine (IH (n * b + hexV c) false (by omega) (by omega)).to ?_
              rw [hall]; rfl
      · have : decide (hexV c ≥ b) = true := decide_eq_true (by omega)
        exact stop _ this (by rw [hk, hK]; simpa using hlt)
theorem rnumber_ev (s : ByteArray) (b most kind : Int) (hb : 2 ≤ b) (hb2 : b ≤ 16) (hB : BaseOf b kind) (hm : most ≤ 9223372036854775807) (hs : s.size < 9223372036854775807) : Ev (fun k => parallaxref1_number.f k s b most) (readB s b most kind) := by
  unfold parallaxref1_number.f readB
  by_cases h : s.toList = ([] : List UInt8)
  · rw [if_pos (.inl ((bytes_nil s).mp h))]
    exact Ev.pos h (Ev.now _)
  · have h' : ¬ bytesOf s = [] := fun e => h ((bytes_nil s).mpr e)
    have h0 : 0 ≤ mx most 0 := by unfold mx; split <;> omega
    have h1 : mx most 0 ≤ 9223372036854775807 := by unfold mx; split <;> omega
    refine Ev.neg h ((rnum_loop s b (mx most 0) kind hb hb2 hB h0 h1 hs s.size 0 0 false (by omega) (by omega) h0).to ?_)
    rw [List.drop_zero]
    unfold numR allB
    have e : (bytesOf s).all (fun c => [kind].any (ofB c)) = (bytesOf s).all (fun c => ofB c kind) := by congr 1; funext c; simp
    rw [e]
    cases (bytesOf s).all (fun c => ofB c kind) with
    | true => have h2 : ¬ (bytesOf s = [] ∨ true = false) := by simp [h']
              rw [if_pos rfl, if_neg (show ¬ false = true by simp), if_neg h2]
    | false => rw [if_neg (by simp), if_pos (.inr rfl)]
theorem rdec_ev (s : ByteArray) (most : Int) (hm : most ≤ 9223372036854775807) (hs : s.size < 9223372036854775807) : Ev (fun k => parallaxref1_Dec.f k s most) (readB s 10 most 4) := by
  unfold parallaxref1_Dec.f; exact Ev.bind (rnumber_ev s 10 most 4 (by omega) (by omega) base10 hm hs) (Ev.now _)
theorem rhexn_ev (s : ByteArray) (most : Int) (hm : most ≤ 9223372036854775807) (hs : s.size < 9223372036854775807) : Ev (fun k => parallaxref1_HexNumber.f k s most) (readB s 16 most 5) := by
  unfold parallaxref1_HexNumber.f; exact Ev.bind (rnumber_ev s 16 most 5 (by omega) (by omega) base16 hm hs) (Ev.now _)
theorem digit_at : ∀ d : Fin 16, (⟨#[48, 49, 50, 51, 52, 53, 54, 55, 56, 57, 97, 98, 99, 100, 101, 102]⟩ : ByteArray).extract d.val (d.val + 1) = strOfNums [Hex.dig d.val] := by decide +kernel
theorem digit_dec : ∀ d : Fin 10, strOfNums [Hex.dig d.val] = (⟨#[UInt8.ofNat (48 + d.val)]⟩ : ByteArray) := by decide +kernel
theorem rput_low (n b : Nat) (hb : b ≤ 16) (h : n < b) : Ev (fun k => parallaxref1_put.f k (n : Int) (b : Int)) (strOfNums [Hex.dig n]) := by
  have hm : mx (n : Int) 0 = (n : Int) := by unfold mx; rw [if_neg (by omega)]
  refine Ev.step (fun _ => parallaxref1_put.f.eq_2 ..) (Ev.pos (by omega) ?_)
  rw [hm, show wrap64 ((n : Int) + 1) = ((n + 1 : Nat) : Int) from wrap_nat (by omega)]
  refine Ev.pos (by omega) (Ev.pos (by omega) (Ev.pos (by omega) ((Ev.now _).to ?_)))
  rw [Int.toNat_natCast, Int.toNat_natCast]
  exact digit_at ⟨n, by omega⟩
theorem rput_neg (n : Int) (b : Nat) (h : n ≤ 0) (hb0 : 1 ≤ b) (hb : b ≤ 16) : Ev (fun k => parallaxref1_put.f k n (b : Int)) (strOfNums [Hex.dig 0]) := by
  have hm : mx n 0 = ((0 : Nat) : Int) := by unfold mx; split <;> omega
  refine Ev.step (fun _ => parallaxref1_put.f.eq_2 ..) (Ev.pos (by omega) ?_)
  rw [hm, show wrap64 (((0 : Nat) : Int) + 1) = ((0 + 1 : Nat) : Int) from wrap_nat (by omega)]
  refine Ev.pos (by omega) (Ev.pos (by omega) (Ev.pos (by omega) ((Ev.now _).to ?_)))
  exact digit_at ⟨0, by omega⟩
theorem rput_step (n b : Nat) (hb0 : 2 ≤ b) (hb : b ≤ 16) (hn : n < 9223372036854775808) (h : ¬ n < b) (s : ByteArray) (hs : s.size ≤ 1000) (hi : Ev (fun k => parallaxref1_put.f k ((n / b : Nat) : Int) (b : Int)) s) : Ev (fun k => parallaxref1_put.f k (n : Int) (b : Int)) (s ++ strOfNums [Hex.dig (n % b)]) := by
  have hmod : n % b < b := Nat.mod_lt _ (by omega)
  have hq : wrap64 (Int.tdiv (n : Int) (b : Int)) = ((n / b : Nat) : Int) := by
    rw [Int.tdiv_eq_ediv_of_nonneg (by omega), ← Int.natCast_ediv]
    have := Nat.div_le_self n b
    generalize n / b = q at this ⊢
    exact wrap_in (by omega) (by omega)
  have hr : Int.tmod (n : Int) (b : Int) = ((n % b : Nat) : Int) := by rw [Int.tmod_eq_emod_of_nonneg (by omega), ← Int.natCast_emod]
  refine Ev.step (fun _ => parallaxref1_put.f.eq_2 ..) (Ev.neg (by omega) (Ev.neg (by omega) ?_))
  rw [hq, hr]
  refine Ev.bind hi (Ev.bind (rput_low (n % b) b hb hmod) (Ev.pos ?_ (Ev.now _)))
  rw [strOfNums_size]; simp; omega
theorem decB_low (u : Nat) (h : u < 10) : decB u = strOfNums [Hex.dig u] := by
  rw [digit_dec ⟨u, h⟩]; unfold decB; rw [Lib.decDigits, dif_pos h]
theorem decB_step (u : Nat) (h : ¬ u < 10) : decB u = decB (u / 10) ++ strOfNums [Hex.dig (u % 10)] := by
  rw [digit_dec ⟨u % 10, Nat.mod_lt _ (by decide)⟩]
  apply ba_inj
  have e : (decB u).data.toList = Lib.decDigits u := rfl
  have e2 : (decB (u / 10)).data.toList = Lib.decDigits (u / 10) := rfl
  rw [e, Lib.decDigits, dif_neg h]
  rw [show (decB (u / 10) ++ (⟨#[UInt8.ofNat (48 + u % 10)]⟩ : ByteArray)).data.toList = (decB (u / 10)).data.toList ++ [UInt8.ofNat (48 + u % 10)] by simp [ByteArray.data_append], e2]
theorem rput_dec (n : Nat) : n < 9223372036854775808 → Ev (fun k => parallaxref1_put.f k (n : Int) 10) (decB n) := by
  induction n using Nat.strongRecOn with
  | _ n ih =>
    intro hn
    by_cases h : n < 10
    · rw [decB_low n h]; exact rput_low n 10 (by decide) h
    · rw [decB_step n h]
      have hd : n / 10 < n := by omega
      exact rput_step n 10 (by decide) (by decide) hn h _ (by have := decB_size (n / 10) (by omega); omega) (ih (n / 10) hd (by omega))
theorem hexL_more (f : Nat) : ∀ u : Nat, u < 16 ^ (f + 1) → Hex.hexL (f + 2) u = Hex.hexL (f + 1) u := by
  induction f with
  | zero => intro u h; have h : u < 16 := by simpa using h
            rw [Hex.hexL_lt _ _ h, Hex.hexL_lt _ _ h]
  | succ f ih =>
    intro u h
    by_cases h1 : u < 16
    · rw [Hex.hexL_lt _ _ h1, Hex.hexL_lt _ _ h1]
    · rw [Hex.hexL_ge _ _ h1, Hex.hexL_ge _ _ h1]
      rw [Nat.pow_succ] at h
      rw [ih (u / 16) (Nat.div_lt_of_lt_mul (by rw [Nat.mul_comm]; exact h))]
theorem nums_app (l m : List Int) : strOfNums (l ++ m) = strOfNums l ++ strOfNums m := by
  apply ba_inj
  rw [strOfNums_data, show (strOfNums l ++ strOfNums m).data.toList = (strOfNums l).data.toList ++ (strOfNums m).data.toList by simp [ByteArray.data_append], strOfNums_data, strOfNums_data, List.map_append]
theorem hexB_low (u : Nat) (h : u < 16) : Hex.hexB u = strOfNums [Hex.dig u] := by unfold Hex.hexB; rw [Hex.hexL_lt _ _ h]
theorem hexB_step (u : Nat) (h : ¬ u < 16) (hu : u < 9223372036854775808) : Hex.hexB u = Hex.hexB (u / 16) ++ strOfNums [Hex.dig (u % 16)] := by
  unfold Hex.hexB; rw [Hex.hexL_ge _ _ h, nums_app, hexL_more 15 (u / 16) (by omega)]
theorem rput_hex (n : Nat) : n < 9223372036854775808 → Ev (fun k => parallaxref1_put.f k (n : Int) 16) (Hex.hexB n) := by
  induction n using Nat.strongRecOn with
  | _ n ih =>
    intro hn
    by_cases h : n < 16
    · rw [hexB_low n h]; exact rput_low n 16 (by decide) h
    · rw [hexB_step n h hn]
      exact rput_step n 16 (by decide) (by decide) hn h _ (by have := hexB_size (n / 16); omega) (ih (n / 16) (by omega) (by omega))
theorem rPut_ev (n : Int) (h : n ≤ 9223372036854775807) : Ev (fun k => parallaxref1_Put.f k n) (decB (mx n 0).toNat) := by
  unfold parallaxref1_Put.f
  refine Ev.bind (a := decB (mx n 0).toNat) ?_ (Ev.now _)
  by_cases h0 : n ≤ 0
  · have hm : mx n 0 = ((0 : Nat) : Int) := by unfold mx; split <;> omega
    rw [hm, Int.toNat_natCast, decB_low 0 (by decide)]; exact rput_neg n 10 h0 (by decide) (by decide)
  · have hm : mx n 0 = n := by unfold mx; rw [if_neg (by omega)]
    obtain ⟨m, rfl⟩ : ∃ m : Nat, n = (m : Int) := ⟨n.toNat, by omega⟩
    rw [hm, Int.toNat_natCast]; exact rput_dec m (by omega)
theorem rPutHex_ev (n : Int) (h : n ≤ 9223372036854775807) : Ev (fun k => parallaxref1_PutHex.f k n) (Hex.hexB (mx n 0).toNat) := by
  unfold parallaxref1_PutHex.f
  refine Ev.bind (a := Hex.hexB (mx n 0).toNat) ?_ (Ev.now _)
  by_cases h0 : n ≤ 0
  · have hm : mx n 0 = ((0 : Nat) : Int) := by unfold mx; split <;> omega
    rw [hm, Int.toNat_natCast, hexB_low 0 (by decide)]; exact rput_neg n 16 h0 (by decide) (by decide)
  · have hm : mx n 0 = n := by unfold mx; rw [if_neg (by omega)]
    obtain ⟨m, rfl⟩ : ∃ m : Nat, n = (m : Int) := ⟨n.toNat, by omega⟩
    rw [hm, Int.toNat_natCast]; exact rput_hex m (by omega)
/-- a text put together of pieces, by numbers -/
def someB (p : List ByteArray) (acc : ByteArray) (l : List Int) : ByteArray := l.foldl (fun a x => a ++ p.getD (x.toNat % p.length) ByteArray.empty) acc
theorem someB_size (p : List ByteArray) (m : Nat) (hm : ∀ x ∈ p, x.size ≤ m) (l : List Int) : ∀ acc, (someB p acc l).size ≤ acc.size + m * l.length := by
  induction l with
  | nil => intro acc; exact Nat.le_add_right _ _
  | cons x l ih =>
    intro acc
    have := ih (acc ++ p.getD (x.toNat % p.length) ByteArray.empty)
    have hp : (p.getD (x.toNat % p.length) ByteArray.empty).size ≤ m := by
      rw [List.getD_eq_getElem?_getD]
      cases h : p[x.toNat % p.length]? with
      | none => exact Nat.zero_le _
      | some y => exact hm y (List.mem_of_getElem? h)
    rw [ByteArray.size_append] at this
    show (someB p (acc ++ p.getD (x.toNat % p.length) ByteArray.empty) l).size ≤ _
    rw [List.length_cons, Nat.mul_succ]; omega
theorem some_loop (p : List ByteArray) (m : Nat) (hp0 : 0 < p.length) (hp1 : p.length ≤ 1000) (hm : ∀ x ∈ p, x.size ≤ m) (l : List Int) (hl : l.length ≤ 1000000) (hw : ∀ x ∈ l, 0 ≤ x ∧ x < 256) (d : Nat) : ∀ (i : Nat) (acc : ByteArray), i + d = l.length → acc.size + m * d ≤ 9223372036854775807 →
    Ev (fun k => parallaxlaw2_some.l0 k l p acc (i : Int)) (someB p acc (l.drop i)) := by
  induction d with
  | zero =>
    intro i acc hi ha
    refine Ev.step (fun _ => parallaxlaw2_some.l0.eq_2 ..) (Ev.neg (by omega) ((Ev.now _).to ?_))
    rw [List.drop_of_length_le (by omega)]; rfl
  | succ d ih =>
    intro i acc hi ha
    have h9 : i < 9223372036854775807 := by omega
    have hx := hw (rd l (i : Int)) (by rw [rd_nat, List.getD_eq_getElem?_getD, List.getElem?_eq_getElem (by omega : i < l.length)]; exact List.getElem_mem _)
    rw [drop_rd l i (by omega)]
    have hq : Int.tmod (wrap64 (rd l (i : Int))) (p.length : Int) = (((rd l (i : Int)).toNat % p.length : Nat) : Int) := by
      rw [wrap_in (by omega) (by omega), Int.tmod_eq_emod_of_nonneg (by omega)]
      have e : rd l (i : Int) = (((rd l (i : Int)).toNat : Nat) : Int) := by omega
      rw [e, ← Int.natCast_emod, Int.toNat_natCast]
    have hmod : (rd l (i : Int)).toNat % p.length < p.length := Nat.mod_lt _ hp0
    refine Ev.step (fun _ => parallaxlaw2_some.l0.eq_2 ..) (Ev.pos (by omega) (Ev.pos (by omega) (Ev.neg (by omega) ?_)))
    rw [hq, wrap_nat h9]
    have he : rdOf ByteArray.empty p (((rd l (i : Int)).toNat % p.length : Nat) : Int) = p.getD ((rd l (i : Int)).toNat % p.length) ByteArray.empty := rfl
    have hs := hm _ (rdOf_mem p _ hmod)
    rw [he] at hs
    rw [he]
    rw [Nat.mul_succ] at ha
    refine Ev.pos (by omega) (Ev.pos (by omega) (Ev.pos (by omega) ?_))
    exact ih (i + 1) _ (by omega) (by rw [ByteArray.size_append]; omega)
def someP : List ByteArray := ([(⟨#[48]⟩ : ByteArray), (⟨#[49]⟩ : ByteArray), (⟨#[57]⟩ : ByteArray), (⟨#[48, 48]⟩ : ByteArray), (⟨#[97]⟩ : ByteArray), (⟨#[70]⟩ : ByteArray), (⟨#[120]⟩ : ByteArray), (⟨#[43]⟩ : ByteArray), (⟨#[32]⟩ : ByteArray), (⟨#[57, 50, 50, 51, 51, 55, 50, 48, 51, 54, 56, 53, 52, 55, 55, 53, 56, 48, 55]⟩ : ByteArray), (⟨#[102, 102, 102, 102, 102, 102, 102, 102, 102, 102, 102, 102, 102, 102, 102, 102]⟩ : ByteArray), (⟨#[55]⟩ : ByteArray), (⟨#[56]⟩ : ByteArray), (⟨#[103]⟩ : ByteArray)] : List ByteArray)
theorem some_ev (l : List Int) (hl : l.length ≤ 1000000) (hw : ∀ x ∈ l, 0 ≤ x ∧ x < 256) : Ev (fun k => parallaxlaw2_some.f k l) (someB someP ByteArray.empty l) := by
  unfold parallaxlaw2_some.f
  refine (some_loop someP 19 (by decide) (by decide) (by decide) l hl hw l.length 0 ByteArray.empty (by omega) ?_).to (by rw [List.drop_zero])
  show 0 + 19 * l.length ≤ _; omega
theorem some_size (l : List Int) : (someB someP ByteArray.empty l).size ≤ 19 * l.length := by
  have := someB_size someP 19 (by decide) l ByteArray.empty
  simpa using this
end Go.Proofs.YtnckmjdonbnpoaaDoor.PNumberTells
