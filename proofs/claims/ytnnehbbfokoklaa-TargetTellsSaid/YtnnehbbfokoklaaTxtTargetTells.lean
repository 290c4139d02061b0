/- What the printed functions of the text layer come to. -/
import Derived.Test.YtnnehbbfokoklaaPTargetTellsx
import Derived.Test.YtnnehbbfokoklaaParts
import Derived.Test.YtnnehbbfokoklaaLowP
import Derived.Test.YtnnehbbfokoklaaTrimP
import Derived.Test.YtnnehbbfokoklaaHex
import Derived.Lib.ItoaLen
namespace Go.Proofs.Ytnnehbbfokoklaa.PTargetTells
open Go.RowKit Go.Proofs.YtnnehbbfokoklaaW.PrintWords Go.Proofs.YtnnehbbfokoklaaW.PrintLast Go.Proofs.YtnnehbbfokoklaaW.PrintMore Go.Proofs.Ytnnehbbfokoklaa.Aid Go.Proofs.Ytnnehbbfokoklaa.Parts
set_option linter.unusedVariables false
set_option linter.unusedSimpArgs false
theorem rdOf_mem (l : List ByteArray) (j : Nat) (h : j < l.length) : rdOf ByteArray.empty l (j : Int) ∈ l := by
  unfold rdOf; simp [List.getD_eq_getElem?_getD, h]
theorem same_some {a b : ByteArray} (h : a.size ≤ 9223372036854775807) (h' : b.size ≤ 9223372036854775807) : text_Same.f a b = some (Hand.sameB a b) := by unfold text_Same.f; rw [if_pos ⟨h, h'⟩]
theorem rlower_some {s : ByteArray} (h : s.size ≤ 9223372036854775807) : parallaxref1_Lower.f s = some (Low.lower s) := by unfold parallaxref1_Lower.f; rw [if_pos h]
theorem rsame_some {a b : ByteArray} (h : a.size ≤ 9223372036854775807) (h' : b.size ≤ 9223372036854775807) : parallaxref1_Same.f a b = some (Hand.sameB a b) := by
  unfold parallaxref1_Same.f; rw [rlower_some h, Option.bind_some, rlower_some h', Option.bind_some]; rfl
theorem rsplit_loop (c : UInt8) (s : ByteArray) (hs : s.size ≤ 1000000000000) (d : Nat) : ∀ (f i : Nat) (acc : List ByteArray), i + d = s.size → f ≤ i → (∀ j, f ≤ j → j < i → bt s (j : Int) ≠ (c.toNat : Int)) → acc.length + d < 8000000000000 →
    Ev (fun k => parallaxref1_Split.l0 k s (c.toNat : Int) acc (f : Int) (i : Int)) (acc ++ (splitU c (s.data.toList.drop f)).map BA) := by
  have seg : ∀ (f i : Nat), f ≤ i → i ≤ s.size → (∀ j, f ≤ j → j < i → bt s (j : Int) ≠ (c.toNat : Int)) → c ∉ (s.data.toList.drop f).take (i - f) := by
    intro f i hfi his hno hm
    obtain ⟨n, hn, he⟩ := List.mem_iff_getElem.mp hm
    rw [List.length_take, List.length_drop, data_length] at hn
    rw [List.getElem_take, List.getElem_drop] at he
    have h1 := hno (f + n) (by omega) (by omega)
    rw [bt_nat s (f + n) (by omega)] at h1
    exact h1 (congrArg (fun z : UInt8 => (z.toNat : Int)) he)
  induction d with
  | zero =>
    intro f i acc hi hf hno ha
    have h9 : i < 9223372036854775807 := by omega
    refine Ev.step (fun _ => parallaxref1_Split.l0.eq_2 ..) (Ev.pos (by omega) (Ev.pos (by omega) (Ev.pos (by omega) (Ev.pos (by omega) (Ev.pos (by omega) ?_)))))
    rw [wrap_nat h9]
    refine Ev.step (fun _ => parallaxref1_Split.l0.eq_2 ..) (Ev.neg (by omega) ((Ev.now _).to ?_))
    have h1 := seg f i hf (by omega) hno
    rw [List.take_of_length_le (by rw [List.length_drop, data_length]; omega)] at h1
    rw [splitU_none c _ h1, Int.toNat_natCast, Int.toNat_natCast, ext_BA, List.take_of_length_le (by rw [List.length_drop, data_length]; omega)]; rfl
  | succ d ih =>
    intro f i acc hi hf hno ha
    have h9 : i < 9223372036854775807 := by omega
    refine Ev.step (fun _ => parallaxref1_Split.l0.eq_2 ..) (Ev.pos (by omega) (Ev.neg (by omega) (Ev.pos (by omega) (Ev.pos (by omega) ?_))))
    rw [wrap_nat h9]
    by_cases h : bt s (i : Int) = (c.toNat : Int)
    · refine Ev.pos h (Ev.pos (by omega) (Ev.pos (by omega) (Ev.pos (by omega) ?_)))
      refine (ih (i + 1) (i + 1) _ (by omega) (Nat.le_refl _) (fun j h1 h2 => by omega) (by simp; omega)).to ?_
      have h1 := seg f i hf (by omega) hno
      have hc : s.data.toList[i]'(by rw [data_length]; omega) = c := by
        rw [bt_nat s i (by omega)] at h
        have : (s[i]'(by omega)) = c := by apply UInt8.toNat_inj.mp; omega
        exact this
      have e : s.data.toList.drop f = (s.data.toList.drop f).take (i - f) ++ c :: s.data.toList.drop (i + 1) := by
        have e1 := List.take_append_drop (i - f) (s.data.toList.drop f)
        rw [List.drop_drop, show f + (i - f) = i by omega, List.drop_eq_getElem_cons (i := i) (by rw [data_length]; omega), hc] at e1
        exact e1.symm
      rw [e, splitU_at c _ _ h1, Int.toNat_natCast, Int.toNat_natCast, ext_BA, List.map_cons, List.append_assoc, List.singleton_append]
    · refine Ev.neg h ?_
      exact ih f (i + 1) acc (by omega) (by omega) (fun j h1 h2 => by
        by_cases e : j = i
        · subst e; exact h
        · exact hno j h1 (by omega)) (by omega)
theorem rsplit_ev (c : UInt8) (s : ByteArray) (hs : s.size ≤ 1000000000000) : Ev (fun k => parallaxref1_Split.f k s (c.toNat : Int)) (parts c s) := by
  unfold parallaxref1_Split.f
  exact (rsplit_loop c s hs s.size 0 0 [] (by omega) (Nat.le_refl _) (fun j h1 h2 => by omega) (by simp; omega)).to (by rw [List.drop_zero, List.nil_append]; rfl)
def ofB (c kind : Int) : Bool := (octet_of.f c kind).getD false
def allB (s : ByteArray) (l : List Int) : Bool := (bytesOf s).all fun c => l.any (ofB c)
theorem of_k (kind : Fin 8) : ∀ n : Fin 256, octet_of.f (n.val : Int) (kind.val : Int) = some (ofB (n.val : Int) (kind.val : Int)) := by
  revert kind; decide +kernel
theorem of_far {c kind : Int} (h : ¬ (1 ≤ kind ∧ kind ≤ 6)) : octet_of.f c kind = some false := by
  unfold octet_of.f
  rw [if_neg (by omega), if_neg (by omega), if_neg (by omega), if_neg (by omega), if_neg (by omega), if_neg (by omega)]
theorem of_some {c : Int} (h0 : 0 ≤ c) (h1 : c < 256) (kind : Int) : octet_of.f c kind = some (ofB c kind) := by
  by_cases hk : 0 ≤ kind ∧ kind < 8
  · have := byte_all (p := fun c => octet_of.f c kind = some (ofB c kind)) (fun n => by
      have := of_k ⟨kind.toNat, by omega⟩ n
      rwa [show ((⟨kind.toNat, by omega⟩ : Fin 8).val : Int) = kind by simp; omega] at this) h0 h1
    exact this
  · have := of_far (c := c) (kind := kind) (by omega)
    unfold ofB; rw [this]; rfl
theorem own_in (s : ByteArray) (l : List Int) (hl : l.length < 9223372036854775807) (hs : s.size < 9223372036854775807) (i : Nat) (hi : i < s.size) (R : Bool)
    (hR : Ev (fun k => octet_All.l0 k s l (s.size : Int) ((i + 1 : Nat) : Int)) R) (d : Nat) : ∀ (j : Nat) (b : Bool), j + d = l.length →
    Ev (fun k => octet_All.l1 k s l (i : Int) b (s.size : Int) (i : Int) l (l.length : Int) (j : Int)) (if (b || (l.drop j).any (ofB (bt s (i : Int)))) = true then R else false) := by
  induction d with
  | zero =>
    intro j b hj
    refine Ev.step (fun _ => octet_All.l1.eq_2 ..) (Ev.neg (by omega) ?_)
    rw [List.drop_of_length_le (by omega), List.any_nil, Bool.or_false, wrap_nat (by omega)]
    exact Ev.cond (fun _ => hR) (fun _ => Ev.now _)
  | succ d ih =>
    intro j b hj
    have hw : wrap64 ((j : Int) + 1) = ((j + 1 : Nat) : Int) := wrap_nat (by omega)
    refine Ev.step (fun _ => octet_All.l1.eq_2 ..) (Ev.pos (by omega) (Ev.pos (by omega) (Ev.pos (by omega) ?_)))
    rw [drop_rd l j (by omega), List.any_cons, hw]
    cases b with
    | true => exact Ev.pos rfl ((ih (j + 1) true (by omega)).to (by simp))
    | false =>
      refine Ev.neg (by simp) (Ev.pos (by omega) (Ev.pos (by omega) ?_))
      have := bt_lt s (i : Int)
      exact Ev.val (of_some this.1 this.2 _) ((ih (j + 1) _ (by omega)).to (by rw [Bool.false_or]))
theorem own_out (s : ByteArray) (l : List Int) (hl : l.length < 9223372036854775807) (hs : s.size < 9223372036854775807) (d : Nat) : ∀ (i : Nat), i + d = s.size →
    Ev (fun k => octet_All.l0 k s l (s.size : Int) (i : Int)) (((bytesOf s).drop i).all fun c => l.any (ofB c)) := by
  induction d with
  | zero =>
    intro i hi
    refine Ev.step (fun _ => octet_All.l0.eq_2 ..) (Ev.neg (by omega) ?_)
    rw [List.drop_of_length_le (by rw [bytesOf_length]; omega)]; exact Ev.now _
  | succ d ih =>
    intro i hi
    refine Ev.step (fun _ => octet_All.l0.eq_2 ..) (Ev.pos (by omega) ?_)
    refine (own_in s l hl hs i (by omega) _ (ih (i + 1) (by omega)) l.length 0 false (by omega)).to ?_
    rw [drop_bytes s i (by omega), List.all_cons, List.drop_zero, Bool.false_or]
    cases l.any (ofB (bt s (i : Int))) <;> simp
theorem own_ev (s : ByteArray) (l : List Int) (hl : l.length < 9223372036854775807) (hs : s.size < 9223372036854775807) : Ev (fun k => octet_All.f k s l) (allB s l) :=
  (own_out s l hl hs s.size 0 (by omega)).to (by rw [List.drop_zero]; rfl)
def hexV (c : Int) : Int := ((octet_Hex.f c).getD (0, false)).1
def valA (b : Int) (n : Int) (l : List Int) : Int := l.foldl (fun n d => n * b + d) n
theorem hex_all : ∀ n : Fin 256, octet_Hex.f (n.val : Int) = some (hexV (n.val : Int), ((octet_Hex.f (n.val : Int)).getD (0, false)).2) ∧ 0 ≤ hexV (n.val : Int) ∧ hexV (n.val : Int) ≤ 15 := by decide +kernel
theorem hex_at {c : Int} (h : 0 ≤ c ∧ c < 256) : octet_Hex.f c = some (hexV c, ((octet_Hex.f c).getD (0, false)).2) ∧ 0 ≤ hexV c ∧ hexV c ≤ 15 :=
  byte_all (p := fun c => octet_Hex.f c = some (hexV c, ((octet_Hex.f c).getD (0, false)).2) ∧ 0 ≤ hexV c ∧ hexV c ≤ 15) hex_all h.1 h.2
theorem valA_ge {b : Int} (hb : 1 ≤ b) (l : List Int) : ∀ n : Int, 0 ≤ n → (∀ d ∈ l, 0 ≤ d) → n ≤ valA b n l := by
  induction l with
  | nil => intro n _ _; exact Int.le_refl _
  | cons d l ih =>
    intro n hn hd
    have h0 := hd d (by simp)
    have h1 : n ≤ n * b := by have := Int.mul_le_mul_of_nonneg_left hb hn; rwa [Int.mul_one] at this
    have := ih (n * b + d) (by omega) (fun x hx => hd x (by simp [hx]))
    show n ≤ valA b (n * b + d) l
    omega
theorem vals_nonneg (s : ByteArray) (i : Nat) : ∀ d ∈ ((bytesOf s).map hexV).drop i, 0 ≤ d := by
  intro d hd
  obtain ⟨c, hc, rfl⟩ := List.mem_map.mp (List.mem_of_mem_drop hd)
  exact (hex_at (bytes_lt s hc)).2.1
theorem read_loop (s : ByteArray) (b most : Int) (hb : 2 ≤ b) (hb2 : b ≤ 16) (hm : most ≤ 9223372036854775807) (hs : s.size < 9223372036854775807) (d : Nat) : ∀ (i : Nat) (n : Int), i + d = s.size → 0 ≤ n → n ≤ most →
    Ev (fun k => number_read.l0 k s b most n (s.size : Int) (i : Int)) (if valA b n (((bytesOf s).map hexV).drop i) ≤ most then (valA b n (((bytesOf s).map hexV).drop i), 0) else (0, 23)) := by
  induction d with
  | zero =>
    intro i n hi h0 h1
    refine Ev.step (fun _ => number_read.l0.eq_2 ..) (Ev.neg (by omega) ((Ev.now _).to ?_))
    rw [List.drop_of_length_le (by rw [List.length_map, bytesOf_length]; omega)]
    exact (if_pos h1).symm
  | succ d ih =>
    intro i n hi h0 h1
    have h9 : i < 9223372036854775807 := by omega
    have hlt : i < ((bytesOf s).map hexV).length := by rw [List.length_map, bytesOf_length]; omega
    have hbt := bt_lt s (i : Int)
    obtain ⟨e1, e2, e3⟩ := hex_at hbt
    have hdrop : ((bytesOf s).map hexV).drop i = hexV (bt s (i : Int)) :: ((bytesOf s).map hexV).drop (i + 1) := by
      rw [← List.map_drop, drop_bytes s i (by omega), List.map_cons, List.map_drop]
    rw [hdrop]
    have hnn := vals_nonneg s (i + 1)
    refine Ev.step (fun _ => number_read.l0.eq_2 ..) (Ev.pos (by omega) (Ev.pos (by omega) (Ev.pos (by omega) (Ev.val e1 ?_))))
    show Ev (fun k => if hexV (bt s (i : Int)) > most then _ else _) (if valA b (n * b + hexV (bt s (i : Int))) (((bytesOf s).map hexV).drop (i + 1)) ≤ most then _ else _)
    rw [wrap_nat h9]
    generalize hexV (bt s (i : Int)) = v at e2 e3 ⊢
    have ih' := fun (n : Int) (h0 : 0 ≤ n) (h1 : n ≤ most) => ih (i + 1) n (by omega) h0 h1
    clear ih
    generalize ((bytesOf s).map hexV).drop (i + 1) = l at hnn ih' ⊢
    have hge := valA_ge (b := b) (by omega) l (n * b + v) (by have := Int.mul_nonneg h0 (show 0 ≤ b by omega); omega) hnn
    have hnb := Int.mul_nonneg h0 (show 0 ≤ b by omega)
    by_cases hv : v > most
    · exact Ev.pos hv ((Ev.now _).to (if_neg (by omega)).symm)
    · refine Ev.neg hv (Ev.neg (by omega) ?_)
      have hw1 : wrap64 (most - v) = most - v := wrap_in (by omega) (by omega)
      have hq : Int.tdiv (most - v) b = (most - v) / b := Int.tdiv_eq_ediv_of_nonneg (by omega)
      have hq2 : (most - v) / b ≤ most - v := Int.ediv_le_self _ (by omega)
      have hq3 : 0 ≤ (most - v) / b := Int.ediv_nonneg (by omega) (by omega)
      have hw2 : wrap64 ((most - v) / b) = (most - v) / b := wrap_in (by omega) (by omega)
      rw [hw1, hq, hw2]
      clear hw1 hw2 hq
      have hiff := Int.ediv_lt_iff_lt_mul (a := most - v) (b := n) (c := b) (by omega)
      clear hq2 hq3
      by_cases hc : n > (most - v) / b
      · have := hiff.mp hc
        exact Ev.pos hc ((Ev.now _).to (if_neg (by omega)).symm)
      · have h2 : ¬ most - v < n * b := fun h => hc (hiff.mpr h)
        clear hiff
        refine Ev.neg hc ?_
        have hw3 : wrap64 (n * b) = n * b := wrap_in (by omega) (by omega)
        rw [hw3]
        clear hw3
        have hw4 : wrap64 (n * b + v) = n * b + v := wrap_in (by omega) (by omega)
        rw [hw4]
        exact ih' (n * b + v) (by omega) (by omega)
def readB (s : ByteArray) (b most kind : Int) : Int × Int := if bytesOf s = [] ∨ allB s [kind] = false then (0, 22) else if valA b 0 ((bytesOf s).map hexV) ≤ mx most 0 then (valA b 0 ((bytesOf s).map hexV), 0) else (0, 23)
theorem bytes_nil (s : ByteArray) : s.toList = ([] : List UInt8) ↔ bytesOf s = [] := by rw [ByteArray.toList_eq]; unfold bytesOf; simp
theorem read_ev (s : ByteArray) (b most kind : Int) (hb : 2 ≤ b) (hb2 : b ≤ 16) (hm : most ≤ 9223372036854775807) (hs : s.size < 9223372036854775807) : Ev (fun k => number_read.f k s b most kind) (readB s b most kind) := by
  unfold number_read.f readB
  by_cases h : s.toList = ([] : List UInt8)
  · rw [if_pos (.inl ((bytes_nil s).mp h))]
    exact Ev.pos h (Ev.step (fun _ => number_read.j0.eq_2 ..) (Ev.pos rfl (Ev.now _)))
  · refine Ev.neg h (Ev.bind (own_ev s [kind] (by simp) hs) (Ev.step (fun _ => number_read.j0.eq_2 ..) ?_))
    have h' : ¬ bytesOf s = [] := fun e => h ((bytes_nil s).mpr e)
    cases ha : allB s [kind] with
    | false => rw [if_pos (.inr rfl)]; exact Ev.pos rfl (Ev.now _)
    | true =>
      rw [if_neg (by simp [h'])]
      have h0 : 0 ≤ mx most 0 := by unfold mx; split <;> omega
      have h1 : mx most 0 ≤ 9223372036854775807 := by unfold mx; split <;> omega
      exact Ev.neg (by simp) ((read_loop s b (mx most 0) hb hb2 h1 hs s.size 0 0 (by omega) (by omega) h0).to (by rw [List.drop_zero]))
theorem dec_ev (s : ByteArray) (most : Int) (hm : most ≤ 9223372036854775807) (hs : s.size < 9223372036854775807) : Ev (fun k => number_Dec.f k s most) (readB s 10 most 4) := by
  unfold number_Dec.f; exact Ev.bind (read_ev s 10 most 4 (by omega) (by omega) hm hs) (Ev.now _)
def hexK (c : Int) : Bool := ((octet_Hex.f c).getD (0, false)).2
theorem rhex_all : ∀ n : Fin 256, parallaxref1_Hex.f 2 (n.val : Int) = some (hexV (n.val : Int), hexK (n.val : Int)) := by decide +kernel
theorem rhex_ev {c : Int} (h : 0 ≤ c ∧ c < 256) : Ev (fun k => parallaxref1_Hex.f k c) (hexV c, hexK c) :=
  Ev.of (fun k => parallaxref1_Hex.mono _ k) (k := 2) (byte_all (p := fun c => parallaxref1_Hex.f 2 c = some (hexV c, hexK c)) rhex_all h.1 h.2)
def BaseOf (b kind : Int) : Prop := ∀ c : Int, 0 ≤ c → c < 256 → ofB c kind = (hexK c && decide (hexV c < b))
theorem base10_all : ∀ n : Fin 256, ofB (n.val : Int) 4 = (hexK (n.val : Int) && decide (hexV (n.val : Int) < 10)) := by decide +kernel
theorem base10 : BaseOf 10 4 := fun _ h0 h1 => byte_all (p := fun c => ofB c 4 = (hexK c && decide (hexV c < 10))) base10_all h0 h1
def numR (b most kind n : Int) (over : Bool) (l : List Int) : Int × Int := if l.all (fun c => ofB c kind) = true then (if over = true then (0, 23) else if valA b n (l.map hexV) ≤ most then (valA b n (l.map hexV), 0) else (0, 23)) else (0, 22)
theorem rnum_loop (s : ByteArray) (b most kind : Int) (hb : 2 ≤ b) (hb2 : b ≤ 16) (hB : BaseOf b kind) (hm0 : 0 ≤ most) (hm : most ≤ 9223372036854775807) (hs : s.size < 9223372036854775807) (d : Nat) : ∀ (i : Nat) (n : Int) (over : Bool), i + d = s.size → 0 ≤ n → n ≤ most →
    Ev (fun k => parallaxref1_number.l0 k s b most n over (i : Int)) (numR b most kind n over ((bytesOf s).drop i)) := by
  induction d with
  | zero =>
    intro i n over hi h0 h1
    rw [List.drop_of_length_le (by rw [bytesOf_length]; omega)]
    refine Ev.step (fun _ => parallaxref1_number.l0.eq_2 ..) (Ev.neg (by omega) ?_)
    unfold numR
    rw [if_pos (show (([] : List Int).all fun c => ofB c kind) = true from rfl)]
    cases over with
    | true => exact Ev.pos (show (true : Bool) = true from rfl) ((Ev.now _).to rfl)
    | false =>
      refine Ev.neg (show ¬ (false : Bool) = true by simp) ((Ev.now _).to ?_)
      rw [if_neg (show ¬ (false : Bool) = true by simp)]
      exact (if_pos (show valA b n (List.map hexV []) ≤ most from h1)).symm
  | succ d ih =>
    intro i n over hi h0 h1
    have h9 : i < 9223372036854775807 := by omega
    have hbt := bt_lt s (i : Int)
    have hx := rhex_ev hbt
    have hk := hB (bt s (i : Int)) hbt.1 hbt.2
    have hv := (hex_at hbt).2
    rw [drop_bytes s i (by omega)]
    refine Ev.step (fun _ => parallaxref1_number.l0.eq_2 ..) (Ev.pos (by omega) (Ev.pos (by omega) (Ev.bind hx ?_)))
    have IH := fun (n : Int) (over : Bool) (h0 : 0 ≤ n) (h1 : n ≤ most) => ih (i + 1) n over (by omega) h0 h1
    clear ih hx
    have hnn : ∀ x ∈ ((bytesOf s).drop (i + 1)).map hexV, 0 ≤ x := by rw [List.map_drop]; exact vals_nonneg s (i + 1)
    rw [← wrap_nat h9] at IH
    generalize (bytesOf s).drop (i + 1) = l at IH hnn ⊢
    generalize bt s (i : Int) = c at hk hv ⊢
    have stop : ∀ x36 : Bool, x36 = true → ofB c kind = false → Ev (fun k => parallaxref1_number.j1 k s b most n over (i : Int) (hexV c) x36) (numR b most kind n over (c :: l)) := by
      intro x36 hx hc
      refine Ev.step (fun _ => parallaxref1_number.j1.eq_2 ..) (Ev.pos hx ((Ev.now _).to ?_))
      unfold numR; rw [if_neg (by simp [hc])]
    cases hK : hexK c with
    | false => exact Ev.neg (by simp) (stop true rfl (by rw [hk, hK]; rfl))
    | true =>
      refine Ev.pos rfl ?_
      by_cases hlt : hexV c < b
      · have hof : ofB c kind = true := by rw [hk, hK]; simpa using hlt
        have hall : ∀ m o, numR b most kind m o l = (if (c :: l).all (fun c => ofB c kind) = true then (if o = true then (0, 23) else if valA b m (l.map hexV) ≤ most then (valA b m (l.map hexV), 0) else (0, 23)) else (0, 22)) := by
          intro m o; unfold numR; rw [List.all_cons, hof, Bool.true_and]
        have over_to : Ev (fun k => parallaxref1_number.l0 k s b most n true (wrap64 ((i : Int) + 1))) (if (c :: l).all (fun c => ofB c kind) = true then (0, 23) else (0, 22)) := (IH n true h0 h1).to (by rw [hall, if_pos rfl])
        refine Ev.step (fun _ => parallaxref1_number.j1.eq_2 ..) (Ev.neg (by simpa using hlt) ?_)
        cases over with
        | true => exact Ev.pos rfl (over_to.to (by unfold numR; rw [if_pos rfl]))
        | false =>
          refine Ev.neg (by simp) (Ev.neg (by omega) ?_)
          have hge := valA_ge (b := b) (by omega) (l.map hexV) (n * b + hexV c) (by have := Int.mul_nonneg h0 (show 0 ≤ b by omega); omega) hnn
          have hnb := Int.mul_nonneg h0 (show 0 ≤ b by omega)
          have over_n : most < n * b + hexV c → Ev (fun k => parallaxref1_number.l0 k s b most n true (wrap64 ((i : Int) + 1))) (numR b most kind n false (c :: l)) := by
            intro ho
            refine over_to.to ?_
            unfold numR
            rw [if_neg (show ¬ false = true by simp)]
            show _ = if _ then (if valA b (n * b + hexV c) (l.map hexV) ≤ most then _ else _) else _
            rw [if_neg (show ¬ valA b (n * b + hexV c) (l.map hexV) ≤ most by omega)]
          by_cases hvm : hexV c > most
          · by_cases hc1 : n > wrap64 (Int.tdiv (wrap64 (most - hexV c)) b)
            · exact Ev.pos hc1 (over_n (by omega))
            · exact Ev.neg hc1 (Ev.pos hvm (over_n (by omega)))
          · have hw1 : wrap64 (most - hexV c) = most - hexV c := wrap_in (by omega) (by omega)
            have hq : Int.tdiv (most - hexV c) b = (most - hexV c) / b := Int.tdiv_eq_ediv_of_nonneg (by omega)
            have hq2 : (most - hexV c) / b ≤ most - hexV c := Int.ediv_le_self _ (by omega)
            have hq3 : 0 ≤ (most - hexV c) / b := Int.ediv_nonneg (by omega) (by omega)
            have hw2 : wrap64 ((most - hexV c) / b) = (most - hexV c) / b := wrap_in (by omega) (by omega)
            rw [hw1, hq, hw2]
            clear hw1 hw2 hq
            have hiff := Int.ediv_lt_iff_lt_mul (a := most - hexV c) (b := n) (c := b) (by omega)
            clear hq2 hq3
            by_cases hc : n > (most - hexV c) / b
            · have := hiff.mp hc
              exact Ev.pos hc (over_n (by omega))
            · have h2 : ¬ most - hexV c < n * b := fun h => hc (hiff.mpr h)
              clear hiff
              refine Ev.neg hc (Ev.neg hvm ?_)
              have hw3 : wrap64 (n * b) = n * b := wrap_in (by omega) (by omega)
              rw [hw3]
              clear hw3
              have hw4 : wrap64 (n * b + hexV c) = n * b + hexV c := wrap_in (by omega) (by omega)
              rw [hw4]
              refine (IH (n * b + hexV c) false (by omega) (by omega)).to ?_
              rw [hall]; rfl
      · have : decide (hexV c ≥ b) = true := decide_eq_true (by omega)
        exact stop _ this (by rw [hk, hK]; simpa using hlt)
theorem rnumber_ev (s : ByteArray) (b most kind : Int) (hb : 2 ≤ b) (hb2 : b ≤ 16) (hB : BaseOf b kind) (hm : most ≤ 9223372036854775807) (hs : s.size < 9223372036854775807) : Ev (fun k => parallaxref1_number.f k s b most) (readB s b most kind) := by
  unfold parallaxref1_number.f readB
  by_cases h : s.toList = ([] : List UInt8)
  · rw [if_pos (.inl ((bytes_nil s).mp h))]
    exact Ev.pos h (Ev.now _)
  · have h' : ¬ bytesOf s = [] := fun e => h ((bytes_nil s).mpr e)
    have h0 : 0 ≤ mx most 0 := by unfold mx; split <;> omega
    have h1 : mx most 0 ≤ 9223372036854775807 := by unfold mx; split <;> omega
    refine Ev.neg h ((rnum_loop s b (mx most 0) kind hb hb2 hB h0 h1 hs s.size 0 0 false (by omega) (by omega) h0).to ?_)
    rw [List.drop_zero]
    unfold numR allB
    have e : (bytesOf s).all (fun c => [kind].any (ofB c)) = (bytesOf s).all (fun c => ofB c kind) := by congr 1; funext c; simp
    rw [e]
    cases (bytesOf s).all (fun c => ofB c kind) with
    | true => have h2 : ¬ (bytesOf s = [] ∨ true = false) := by simp [h']
              rw [if_pos rfl, if_neg (show ¬ false = true by simp), if_neg h2]
    | false => rw [if_neg (by simp), if_pos (.inr rfl)]
theorem rdec_ev (s : ByteArray) (most : Int) (hm : most ≤ 9223372036854775807) (hs : s.size < 9223372036854775807) : Ev (fun k => parallaxref1_Dec.f k s most) (readB s 10 most 4) := by
  unfold parallaxref1_Dec.f; exact Ev.bind (rnumber_ev s 10 most 4 (by omega) (by omega) base10 hm hs) (Ev.now _)
def someB (p : List ByteArray) (acc : ByteArray) (l : List Int) : ByteArray := l.foldl (fun a x => a ++ p.getD (x.toNat % p.length) ByteArray.empty) acc
theorem someB_size (p : List ByteArray) (m : Nat) (hm : ∀ x ∈ p, x.size ≤ m) (l : List Int) : ∀ acc, (someB p acc l).size ≤ acc.size + m * l.length := by
  induction l with
  | nil => intro acc; exact Nat.le_add_right _ _
  | cons x l ih =>
    intro acc
    have := ih (acc ++ p.getD (x.toNat % p.length) ByteArray.empty)
    have hp : (p.getD (x.toNat % p.length) ByteArray.empty).size ≤ m := by
      rw [List.getD_eq_getElem?_getD]
      cases h : p[x.toNat % p.length]? with
      | none => exact Nat.zero_le _
      | some y => exact hm y (List.mem_of_getElem? h)
    rw [ByteArray.size_append] at this
    show (someB p (acc ++ p.getD (x.toNat % p.length) ByteArray.empty) l).size ≤ _
    rw [List.length_cons, Nat.mul_succ]; omega
theorem some_loop (p : List ByteArray) (m : Nat) (hp0 : 0 < p.length) (hp1 : p.length ≤ 1000) (hm : ∀ x ∈ p, x.size ≤ m) (l : List Int) (hl : l.length ≤ 1000000) (hw : ∀ x ∈ l, 0 ≤ x ∧ x < 256) (d : Nat) : ∀ (i : Nat) (acc : ByteArray), i + d = l.length → acc.size + m * d ≤ 9223372036854775807 →
    Ev (fun k => parallaxlaw7_some.l0 k l p acc (i : Int)) (someB p acc (l.drop i)) := by
  induction d with
  | zero =>
    intro i acc hi ha
    refine Ev.step (fun _ => parallaxlaw7_some.l0.eq_2 ..) (Ev.neg (by omega) ((Ev.now _).to ?_))
    rw [List.drop_of_length_le (by omega)]; rfl
  | succ d ih =>
    intro i acc hi ha
    have h9 : i < 9223372036854775807 := by omega
    have hx := hw (rd l (i : Int)) (by rw [rd_nat, List.getD_eq_getElem?_getD, List.getElem?_eq_getElem (by omega : i < l.length)]; exact List.getElem_mem _)
    rw [drop_rd l i (by omega)]
    have hq : Int.tmod (wrap64 (rd l (i : Int))) (p.length : Int) = (((rd l (i : Int)).toNat % p.length : Nat) : Int) := by
      rw [wrap_in (by omega) (by omega), Int.tmod_eq_emod_of_nonneg (by omega)]
      have e : rd l (i : Int) = (((rd l (i : Int)).toNat : Nat) : Int) := by omega
      rw [e, ← Int.natCast_emod, Int.toNat_natCast]
    have hmod : (rd l (i : Int)).toNat % p.length < p.length := Nat.mod_lt _ hp0
    refine Ev.step (fun _ => parallaxlaw7_some.l0.eq_2 ..) (Ev.pos (by omega) (Ev.pos (by omega) (Ev.neg (by omega) ?_)))
    rw [hq, wrap_nat h9]
    have he : rdOf ByteArray.empty p (((rd l (i : Int)).toNat % p.length : Nat) : Int) = p.getD ((rd l (i : Int)).toNat % p.length) ByteArray.empty := rfl
    have hs := hm _ (rdOf_mem p _ hmod)
    rw [he] at hs
    rw [he]
    rw [Nat.mul_succ] at ha
    refine Ev.pos (by omega) (Ev.pos (by omega) (Ev.pos (by omega) ?_))
    exact ih (i + 1) _ (by omega) (by rw [ByteArray.size_append]; omega)
def someP : List ByteArray := ([(⟨#[47]⟩ : ByteArray), (⟨#[97]⟩ : ByteArray), (⟨#[63]⟩ : ByteArray), (⟨#[37, 52, 49]⟩ : ByteArray), (⟨#[37, 52]⟩ : ByteArray), (⟨#[104, 116, 116, 112, 58, 47, 47]⟩ : ByteArray), (⟨#[72, 84, 84, 80, 58, 47, 47]⟩ : ByteArray), (⟨#[104, 46, 111, 114, 103]⟩ : ByteArray), (⟨#[58, 56, 48]⟩ : ByteArray), (⟨#[58]⟩ : ByteArray), (⟨#[42]⟩ : ByteArray), (⟨#[35]⟩ : ByteArray), (⟨#[32]⟩ : ByteArray), (⟨#[46, 46]⟩ : ByteArray), (⟨#[38, 61]⟩ : ByteArray), (⟨#[128]⟩ : ByteArray), (⟨#[91]⟩ : ByteArray), (⟨#[55, 48, 48, 48, 48]⟩ : ByteArray), (⟨#[120, 58, 49]⟩ : ByteArray)] : List ByteArray)
theorem some_ev (l : List Int) (hl : l.length ≤ 1000000) (hw : ∀ x ∈ l, 0 ≤ x ∧ x < 256) : Ev (fun k => parallaxlaw7_some.f k l) (someB someP ByteArray.empty l) := by
  unfold parallaxlaw7_some.f
  refine (some_loop someP 7 (by decide) (by decide) (by decide) l hl hw l.length 0 ByteArray.empty (by omega) ?_).to (by rw [List.drop_zero])
  show 0 + 7 * l.length ≤ _; omega
theorem some_size (l : List Int) : (someB someP ByteArray.empty l).size ≤ 7 * l.length := by
  have := someB_size someP 7 (by decide) l ByteArray.empty
  simpa using this
theorem take_at (c : UInt8) (a r : List UInt8) (h : c ∉ a) : (a ++ c :: r).takeWhile (· != c) = a ∧ (a ++ c :: r).dropWhile (· != c) = c :: r := by
  induction a with
  | nil => simp
  | cons b a ih =>
    have hb : (b != c) = true := by simp only [bne_iff_ne]; intro e; exact h (by simp [e])
    obtain ⟨h1, h2⟩ := ih (fun hm => h (by simp [hm]))
    rw [List.cons_append, List.takeWhile_cons, List.dropWhile_cons, if_pos hb, if_pos hb, h1, h2]
    exact ⟨rfl, rfl⟩
theorem take_no (c : UInt8) (l : List UInt8) (h : c ∉ l) : l.takeWhile (· != c) = l ∧ l.dropWhile (· != c) = [] := by
  induction l with
  | nil => simp
  | cons b a ih =>
    have hb : (b != c) = true := by simp only [bne_iff_ne]; intro e; exact h (by simp [e])
    obtain ⟨h1, h2⟩ := ih (fun hm => h (by simp [hm]))
    rw [List.takeWhile_cons, List.dropWhile_cons, if_pos hb, if_pos hb, h1, h2]
    exact ⟨rfl, rfl⟩
def beforeB (c : UInt8) (s : ByteArray) : ByteArray := BA (s.data.toList.takeWhile (· != c))
def restB (c : UInt8) (s : ByteArray) : ByteArray := BA (s.data.toList.dropWhile (· != c))
def afterB (c : UInt8) (s : ByteArray) : ByteArray := BA ((s.data.toList.dropWhile (· != c)).drop 1)
def hasC (c : UInt8) (s : ByteArray) : Bool := decide (c ∈ s.data.toList)
theorem before_size (c : UInt8) (s : ByteArray) : (beforeB c s).size ≤ s.size := by
  unfold beforeB; rw [size_BA, ← data_length s]; exact (List.takeWhile_sublist _).length_le
theorem after_size (c : UInt8) (s : ByteArray) : (afterB c s).size ≤ s.size := by
  unfold afterB; rw [size_BA, ← data_length s, List.length_drop]; have := (List.dropWhile_sublist (l := s.data.toList) (· != c)).length_le; omega
theorem cut_yes (c : UInt8) (s : ByteArray) (i : Nat) (hi : i < s.size) (hc : bt s (i : Int) = (c.toNat : Int)) (hno : ∀ j, j < i → bt s (j : Int) ≠ (c.toNat : Int)) :
    beforeB c s = s.extract 0 i ∧ restB c s = s.extract i s.size ∧ afterB c s = s.extract (i + 1) s.size ∧ hasC c s = true := by
  have hl : i < s.data.toList.length := by rw [data_length]; exact hi
  have hci : s.data.toList[i] = c := by
    rw [bt_nat s i hi] at hc
    have : (s[i]'hi) = c := by apply UInt8.toNat_inj.mp; omega
    exact this
  have hnm : c ∉ s.data.toList.take i := by
    intro hm
    obtain ⟨n, hn, he⟩ := List.mem_iff_getElem.mp hm
    rw [List.length_take, data_length] at hn
    rw [List.getElem_take] at he
    have h1 := hno n (by omega)
    rw [bt_nat s n (by omega)] at h1
    exact h1 (congrArg (fun z : UInt8 => (z.toNat : Int)) he)
  have e : s.data.toList = s.data.toList.take i ++ c :: s.data.toList.drop (i + 1) := by
    conv => lhs; rw [← List.take_append_drop i s.data.toList, List.drop_eq_getElem_cons hl, hci]
  obtain ⟨t1, t2⟩ := take_at c _ (s.data.toList.drop (i + 1)) hnm
  rw [← e] at t1 t2
  unfold beforeB restB afterB hasC
  rw [t1, t2]
  refine ⟨?_, ?_, ?_, ?_⟩
  · rw [ext_BA, List.drop_zero, Nat.sub_zero]
  · rw [ext_BA, ← hci, ← List.drop_eq_getElem_cons hl, List.take_of_length_le (by rw [List.length_drop, data_length]; omega)]
  · rw [ext_BA, List.take_of_length_le (by rw [List.length_drop, data_length]; omega)]; rfl
  · rw [decide_eq_true_eq, e]; simp
theorem cut_no (c : UInt8) (s : ByteArray) (hno : ∀ j, j < s.size → bt s (j : Int) ≠ (c.toNat : Int)) : beforeB c s = s ∧ restB c s = BA [] ∧ afterB c s = BA [] ∧ hasC c s = false := by
  have hnm : c ∉ s.data.toList := by
    intro hm
    obtain ⟨n, hn, he⟩ := List.mem_iff_getElem.mp hm
    rw [data_length] at hn
    have h1 := hno n hn
    rw [bt_nat s n hn] at h1
    exact h1 (congrArg (fun z : UInt8 => (z.toNat : Int)) he)
  obtain ⟨t1, t2⟩ := take_no c _ hnm
  unfold beforeB restB afterB hasC
  rw [t1, t2, BA_data]
  exact ⟨rfl, rfl, rfl, decide_eq_false hnm⟩
theorem cut_some (c : UInt8) (s : ByteArray) (hs : s.size < 4611686018427387904) : strings_Cut.f s (BA [c]) = some (beforeB c s, afterB c s, hasC c s) := by
  have h1 : (BA [c]).size = 1 := rfl
  have hI : stringslite_Index.f s (BA [c]) = some (Lib.indexByte s.data.toList c) := by
    unfold stringslite_Index.f; rw [if_pos h1, data_BA]; rfl
  unfold strings_Cut.f stringslite_Cut.f
  rw [hI, Option.bind_some]
  rcases Int.lt_or_le (Lib.indexByte s.data.toList c) 0 with x | x
  · have hn := index_no c _ x
    obtain ⟨t1, t2⟩ := take_no c _ hn
    rw [if_neg (by omega), Option.bind_some]
    unfold beforeB afterB hasC
    rw [t1, t2, decide_eq_false hn, BA_data]; rfl
  · obtain ⟨a, r, e, hn, hi⟩ := index_yes c _ x
    obtain ⟨t1, t2⟩ := take_at c a r hn
    have hsz : s.size = a.length + (r.length + 1) := by rw [← data_length s, e]; simp
    have hw : wrap64 (Lib.indexByte s.data.toList c + ((BA [c]).size : Int)) = ((a.length + 1 : Nat) : Int) := by
      rw [hi, h1]; exact wrap_nat (by omega)
    rw [if_pos x, if_pos x, hw, hi, if_pos (by omega), if_pos (by omega), if_pos (by omega), Option.bind_some]
    unfold beforeB afterB hasC
    rw [e, t1, t2, decide_eq_true (by simp), Int.toNat_natCast, Int.toNat_natCast]
    have e1 : s.extract 0 a.length = BA a := by rw [ext_BA, e]; simp
    have e2 : s.extract (a.length + 1) s.size = BA r := by
      rw [ext_BA, e, show (a ++ c :: r).drop (a.length + 1) = r by simp, List.take_of_length_le (by omega)]
    rw [e1, e2]; rfl
def prefB (s t : ByteArray) : Bool := (s.extract 0 t.size).toList == t.toList
theorem prefix_some (s t : ByteArray) : strings_HasPrefix.f s t = some (prefB s t) := by
  unfold strings_HasPrefix.f stringslite_HasPrefix.f prefB
  by_cases h : (s.size : Int) ≥ (t.size : Int)
  · rw [if_pos h, if_pos (by omega), if_pos (by omega), Option.bind_some]
  · rw [if_neg h, Option.bind_some]
    congr 1
    symm
    rw [beq_eq_false_iff_ne]
    intro e
    have := congrArg List.length e
    rw [ByteArray.toList_eq, ByteArray.toList_eq, data_length, data_length, ByteArray.size_extract] at this
    omega
def letterB (c : Int) : Bool := decide (97 ≤ Go.bits .or .u8 c 32) && decide (Go.bits .or .u8 c 32 ≤ 122)
def digitB (c : Int) : Bool := decide (48 ≤ c) && decide (c ≤ 57)
def plainB (o : ByteArray) (c : Int) : Bool := digitB c || letterB c || decide (0 ≤ Lib.indexByte o.data.toList c.toNat.toUInt8)
theorem digit_some (c : Int) : octet_Digit.f c = some (digitB c) := by
  unfold octet_Digit.f digitB
  by_cases h : c ≥ 48
  · rw [if_pos h, decide_eq_true (show 48 ≤ c from h), Bool.true_and]
  · rw [if_neg h, decide_eq_false (show ¬ 48 ≤ c from h), Bool.false_and]
def signsB (o : ByteArray) (p : Bool) : List Int → Bool
  | [] => true
  | [c] => plainB o c
  | [c, a] => plainB o c && plainB o a
  | c :: a :: b :: r => if plainB o c = true then signsB o p (a :: b :: r) else p && (c == 37) && (ofB a 5 && ofB b 5) && signsB o p r
theorem signs_plain {o : ByteArray} {p : Bool} {c : Int} (h : plainB o c = true) (l : List Int) : signsB o p (c :: l) = signsB o p l := by
  cases l with
  | nil => simp [signsB, h]
  | cons a l => cases l with
    | nil => simp [signsB, h]
    | cons b l => simp [signsB, h]
theorem signs_no {o : ByteArray} {p : Bool} {c : Int} (h : plainB o c = false) (a b : Int) (r : List Int) : signsB o p (c :: a :: b :: r) = (p && (c == 37) && (ofB a 5 && ofB b 5) && signsB o p r) := by
  simp [signsB, h]
theorem signs_short {o : ByteArray} {p : Bool} {c : Int} (h : plainB o c = false) (l : List Int) (hl : l.length < 2) : signsB o p (c :: l) = false := by
  cases l with
  | nil => simp [signsB, h]
  | cons a l => cases l with
    | nil => simp [signsB, h]
    | cons b l => simp at hl; omega
theorem signs_flat (o : ByteArray) (l : List Int) : signsB o false l = l.all (plainB o) := by
  induction l with
  | nil => rfl
  | cons c l ih =>
    rw [List.all_cons]
    cases h : plainB o c with
    | true => rw [signs_plain h, ih, Bool.true_and]
    | false =>
      rw [Bool.false_and]
      by_cases hl : l.length < 2
      · exact signs_short h l hl
      · match l, hl with
        | [], hl => simp at hl
        | [_], hl => simp at hl
        | a :: b :: r, _ => rw [signs_no h]; simp
theorem two_bytes (s : ByteArray) (i : Nat) (h : i + 1 < s.size) : bytesOf (s.extract i (i + 2)) = [bt s (i : Int), bt s ((i + 1 : Nat) : Int)] := by
  have e : bytesOf (s.extract i (i + 2)) = ((bytesOf s).drop i).take 2 := by
    unfold bytesOf; rw [ext_data, show i + 2 - i = 2 by omega, List.map_take, List.map_drop]
  rw [e, drop_bytes s i (by omega), drop_bytes s (i + 1) (by omega)]; rfl
theorem signs_loop (s o : ByteArray) (p : Bool) (hs : s.size < 4611686018427387904) (d : Nat) : ∀ i : Nat, i + d = s.size →
    Ev (fun k => target_signs.l0 k s o p (i : Int)) (signsB o p ((bytesOf s).drop i)) := by
  induction d using Nat.strongRecOn with
  | ind d ih =>
    intro i hi
    by_cases hd : d = 0
    · refine Ev.step (fun _ => target_signs.l0.eq_2 ..) (Ev.neg (by omega) ((Ev.now _).to ?_))
      rw [List.drop_of_length_le (by rw [bytesOf_length]; omega)]; rfl
    have hw1 : wrap64 ((i : Int) + 1) = ((i + 1 : Nat) : Int) := wrap_nat (by omega)
    have hw2 : wrap64 ((i : Int) + 2) = ((i + 2 : Nat) : Int) := by rw [wrap_in (by omega) (by omega)]; omega
    have hw3 : wrap64 ((i : Int) + 3) = ((i + 3 : Nat) : Int) := by rw [wrap_in (by omega) (by omega)]; omega
    have hw4 : wrap64 (((i + 2 : Nat) : Int) + 1) = ((i + 3 : Nat) : Int) := wrap_nat (by omega)
    have hj : ∀ b, b = plainB o (bt s (i : Int)) → Ev (fun k => target_signs.j1 k s o p (i : Int) (bt s (i : Int)) b) (signsB o p ((bytesOf s).drop i)) := by
      intro b hb
      rw [drop_bytes s i (by omega)]
      refine Ev.step (fun _ => target_signs.j1.eq_2 ..) ?_
      rw [hw1, hw2, hw3, hw4]
      cases b with
      | true =>
        rw [signs_plain hb.symm]
        exact Ev.pos rfl (ih (d - 1) (by omega) (i + 1) (by omega))
      | false =>
        refine Ev.neg (by simp) ?_
        by_cases hl : i + 2 < s.size
        · rw [drop_bytes s (i + 1) (by omega), drop_bytes s (i + 1 + 1) (by omega), signs_no hb.symm]
          cases p with
          | false => exact Ev.neg (by simp) ((Ev.now _).to (by simp))
          | true =>
            refine Ev.pos rfl ?_
            by_cases h37 : bt s (i : Int) = 37
            · refine Ev.pos h37 (Ev.pos (by omega) (Ev.pos (by omega) (Ev.pos (by omega) (Ev.pos (by omega) ?_))))
              rw [Int.toNat_natCast, Int.toNat_natCast]
              refine Ev.bind (own_ev _ [5] (by simp) (by rw [ByteArray.size_extract]; omega)) ?_
              have e : allB (s.extract (i + 1) (i + 3)) [5] = (ofB (bt s ((i + 1 : Nat) : Int)) 5 && ofB (bt s ((i + 1 + 1 : Nat) : Int)) 5) := by
                unfold allB; rw [two_bytes s (i + 1) (by omega)]; simp
              rw [e, h37]
              cases (ofB (bt s ((i + 1 : Nat) : Int)) 5 && ofB (bt s ((i + 1 + 1 : Nat) : Int)) 5) with
              | true => exact Ev.pos rfl ((ih (d - 3) (by omega) (i + 3) (by omega)).to (by simp))
              | false => exact Ev.neg (by simp) ((Ev.now _).to (by simp))
            · refine Ev.neg h37 ((Ev.now _).to ?_)
              rw [show (bt s (i : Int) == 37) = false by simp [h37]]; simp
        · rw [signs_short hb.symm _ (by rw [List.length_drop, bytesOf_length]; omega)]
          cases p with
          | false => exact Ev.neg (by simp) (Ev.now _)
          | true =>
            refine Ev.pos rfl ?_
            by_cases h37 : bt s (i : Int) = 37
            · exact Ev.pos h37 (Ev.neg (by omega) (Ev.now _))
            · exact Ev.neg h37 (Ev.now _)
    have hx : ∀ b, b = (digitB (bt s (i : Int)) || letterB (bt s (i : Int))) → b = false → Ev (fun k => (strings_IndexByte.f o (bt s (i : Int))).bind fun t => target_signs.j1 k s o p (i : Int) (bt s (i : Int)) (decide (t ≥ 0))) (signsB o p ((bytesOf s).drop i)) := by
      intro b hb h0
      refine Ev.val rfl (hj _ ?_)
      unfold plainB; rw [← hb, h0, Bool.false_or]
    refine Ev.step (fun _ => target_signs.l0.eq_2 ..) (Ev.pos (by omega) (Ev.pos (by omega) (Ev.val (digit_some _) ?_)))
    cases hdg : digitB (bt s (i : Int)) with
    | true => exact Ev.pos rfl (hj true (by unfold plainB; rw [hdg]; rfl))
    | false =>
      refine Ev.neg (by simp) ?_
      by_cases h1 : (Go.bits .or .u8 (bt s (i : Int)) 32) ≥ 97
      · refine Ev.pos h1 ?_
        by_cases h2 : (Go.bits .or .u8 (bt s (i : Int)) 32) ≤ 122
        · exact Ev.pos h2 (hj true (by have h1' : (97 : Int) ≤ Go.bits .or .u8 (bt s (i : Int)) 32 := h1; unfold plainB letterB; simp [h1', h2]))
        · exact Ev.neg h2 (hx false (by unfold letterB; rw [hdg, decide_eq_false h2]; simp) rfl)
      · exact Ev.neg h1 (hx false (by have h1' : ¬ (97 : Int) ≤ Go.bits .or .u8 (bt s (i : Int)) 32 := h1; unfold letterB; simp [hdg, h1']) rfl)
theorem signs_ev (s o : ByteArray) (p : Bool) (hs : s.size < 4611686018427387904) : Ev (fun k => target_signs.f k s o p) (signsB o p (bytesOf s)) :=
  (signs_loop s o p hs s.size 0 (by omega)).to (by rw [List.drop_zero])
def hostB (s : ByteArray) : Bool := (if hasC 58 s = true then ((readB (afterB 58 s) 10 65535 4).2 == 0) && decide ((afterB 58 s).size ≤ 5) else true) && (decide (0 < (beforeB 58 s).size) && (decide ((beforeB 58 s).size ≤ 255) && signsB (⟨#[45, 46, 95, 126]⟩ : ByteArray) false (bytesOf (beforeB 58 s))))
theorem nil_size (s : ByteArray) : s.toList = ([] : List UInt8) ↔ s.size = 0 := by
  rw [bytes_nil, ← bytesOf_length]; exact List.length_eq_zero_iff.symm
theorem host_ev (s : ByteArray) (hs : s.size < 4611686018427387904) : Ev (fun k => target_Host.f k s) (hostB s) := by
  unfold target_Host.f hostB
  have hb := before_size 58 s
  have ha := after_size 58 s
  have main : Ev (fun k => if (beforeB 58 s).toList = ([] : List UInt8) then (some false) else (if ((beforeB 58 s).size : Int) ≤ 255 then ((target_signs.f k (beforeB 58 s) (⟨#[45, 46, 95, 126]⟩ : ByteArray) false).bind fun t141 => (some t141)) else (some false))) (decide (0 < (beforeB 58 s).size) && (decide ((beforeB 58 s).size ≤ 255) && signsB (⟨#[45, 46, 95, 126]⟩ : ByteArray) false (bytesOf (beforeB 58 s)))) := by
    by_cases h0 : (beforeB 58 s).toList = ([] : List UInt8)
    · refine Ev.pos h0 ((Ev.now _).to ?_)
      rw [decide_eq_false (by have := (nil_size _).mp h0; omega)]; rfl
    · refine Ev.neg h0 ?_
      rw [decide_eq_true (Nat.pos_of_ne_zero fun e => h0 ((nil_size (beforeB 58 s)).mpr e)), Bool.true_and]
      by_cases h1 : ((beforeB 58 s).size : Int) ≤ 255
      · rw [decide_eq_true (by omega : (beforeB 58 s).size ≤ 255), Bool.true_and]
        exact Ev.pos h1 (Ev.bind (signs_ev _ _ false (by omega)) (Ev.now _))
      · rw [decide_eq_false (by omega), Bool.false_and]
        exact Ev.neg h1 (Ev.now _)
  refine Ev.val (cut_some 58 s hs) ?_
  cases hc : hasC 58 s with
  | false => exact Ev.neg (by simp) (main.to (by simp))
  | true =>
    refine Ev.pos rfl (Ev.bind (dec_ev (afterB 58 s) 65535 (by decide) (Nat.lt_of_le_of_lt ha (Nat.lt_trans hs (by decide)))) ?_)
    rw [if_pos rfl]
    by_cases he : (readB (afterB 58 s) 10 65535 4).2 = 0
    · rw [show ((readB (afterB 58 s) 10 65535 4).2 == 0) = true by simp [he], Bool.true_and]
      refine Ev.pos he ?_
      by_cases h5 : ((afterB 58 s).size : Int) > 5
      · rw [decide_eq_false (by omega)]; exact Ev.pos h5 (Ev.now _)
      · rw [decide_eq_true (by omega : (afterB 58 s).size ≤ 5), Bool.true_and]; exact Ev.neg h5 main
    · rw [show ((readB (afterB 58 s) 10 65535 4).2 == 0) = false by simp [he]]
      exact Ev.neg he (Ev.now _)
def innerT : ByteArray := ⟨#[45, 46, 95, 126, 33, 36, 38, 39, 40, 41, 42, 43, 44, 59, 61, 58, 64, 47]⟩
def askedT : ByteArray := ⟨#[45, 46, 95, 126, 33, 36, 38, 39, 40, 41, 42, 43, 44, 59, 61, 58, 64, 47, 63]⟩
def pathB (s : ByteArray) : Bool := prefB s (⟨#[47]⟩ : ByteArray) && signsB innerT true (bytesOf s)
def queryB (s : ByteArray) : Bool := signsB askedT true (bytesOf s)
theorem path_ev (s : ByteArray) (hs : s.size < 4611686018427387904) : Ev (fun k => target_Path.f k s) (pathB s) := by
  unfold target_Path.f pathB
  refine Ev.val (prefix_some s _) ?_
  cases prefB s (⟨#[47]⟩ : ByteArray) with
  | true => exact Ev.pos rfl (Ev.bind (signs_ev s innerT true hs) (Ev.now _))
  | false => exact Ev.neg (by simp) (Ev.now _)
theorem query_ev (s : ByteArray) (hs : s.size < 4611686018427387904) : Ev (fun k => target_Query.f k s) (queryB s) :=
  Ev.bind (signs_ev s askedT true hs) (Ev.now _)
def badT : Int × ByteArray × ByteArray × ByteArray × Bool × Int := (0, (⟨#[]⟩ : ByteArray), (⟨#[]⟩ : ByteArray), (⟨#[]⟩ : ByteArray), false, 400)
def pathOf (form : Int) (s : ByteArray) : ByteArray := if form = 2 ∧ (beforeB 63 s).size = 0 then (⟨#[47]⟩ : ByteArray) else beforeB 63 s
def originB (form : Int) (host s : ByteArray) : Int × ByteArray × ByteArray × ByteArray × Bool × Int :=
  if (pathB (pathOf form s) && queryB (afterB 63 s)) = true then (form, host, pathOf form s, afterB 63 s, hasC 63 s, 0) else badT
theorem origin_j1 (form : Int) (host p q : ByteArray) (a : Bool) (hp : p.size < 4611686018427387904) (hq : q.size < 4611686018427387904) :
    Ev (fun k => target_origin.j1 k form host p q a) (if (pathB p && queryB q) = true then (form, host, p, q, a, 0) else badT) := by
  refine Ev.step (fun _ => target_origin.j1.eq_2 ..) (Ev.bind (path_ev p hp) ?_)
  cases pathB p with
  | false => exact Ev.neg (by simp) (Ev.now _)
  | true =>
    refine Ev.pos rfl (Ev.bind (query_ev q hq) ?_)
    cases queryB q with
    | false => exact Ev.neg (by simp) (Ev.now _)
    | true => exact Ev.pos rfl (Ev.now _)
theorem origin_ev (form : Int) (host s : ByteArray) (hs : s.size < 4611686018427387904) : Ev (fun k => target_origin.f k form host s) (originB form host s) := by
  have hb := before_size 63 s
  have ha := after_size 63 s
  unfold target_origin.f originB
  refine Ev.val (cut_some 63 s hs) ?_
  show Ev (fun k => if form = 2 then target_origin.j0 k ((beforeB 63 s).toList == ([] : List UInt8)) form host (beforeB 63 s) (afterB 63 s) (hasC 63 s) else target_origin.j0 k false form host (beforeB 63 s) (afterB 63 s) (hasC 63 s)) _
  by_cases h2 : form = 2
  · refine Ev.pos h2 (Ev.step (fun _ => target_origin.j0.eq_2 ..) ?_)
    by_cases h0 : (beforeB 63 s).toList = ([] : List UInt8)
    · rw [show pathOf form s = (⟨#[47]⟩ : ByteArray) from if_pos ⟨h2, (nil_size _).mp h0⟩]
      exact Ev.pos (by simp [h0]) (origin_j1 _ _ _ _ _ (by decide) (by omega))
    · rw [show pathOf form s = beforeB 63 s from if_neg (fun h => h0 ((nil_size _).mpr h.2))]
      exact Ev.neg (by simp [h0]) (origin_j1 _ _ _ _ _ (by omega) (by omega))
  · rw [show pathOf form s = beforeB 63 s from if_neg (fun h => h2 h.1)]
    exact Ev.neg h2 (Ev.step (fun _ => target_origin.j0.eq_2 ..) (Ev.neg (by simp) (origin_j1 _ _ _ _ _ (by omega) (by omega))))
def putT (form : Int) (h p q : ByteArray) (a : Bool) : ByteArray :=
  let y := if a = true then (⟨#[63]⟩ : ByteArray) ++ q else (⟨#[]⟩ : ByteArray)
  if form = 1 then p ++ y else if form = 2 then (((⟨#[104, 116, 116, 112, 58, 47, 47]⟩ : ByteArray) ++ h) ++ p) ++ y else if form = 3 then h else if form = 4 then (⟨#[42]⟩ : ByteArray) else (⟨#[]⟩ : ByteArray)
theorem putT_ev (form : Int) (h p q : ByteArray) (a : Bool) (hh : h.size < 1000000000000) (hp : p.size < 1000000000000) (hq : q.size < 1000000000000) : Ev (fun k => target_Put.f k form h p q a) (putT form h p q a) := by
  unfold target_Put.f putT
  have main : ∀ y : ByteArray, y.size < 1000000000001 → Ev (fun k => target_Put.j0 k y form h p q a) (if form = 1 then p ++ y else if form = 2 then (((⟨#[104, 116, 116, 112, 58, 47, 47]⟩ : ByteArray) ++ h) ++ p) ++ y else if form = 3 then h else if form = 4 then (⟨#[42]⟩ : ByteArray) else (⟨#[]⟩ : ByteArray)) := by
    intro y hy
    refine Ev.step (fun _ => target_Put.j0.eq_2 ..) (Ev.cond (fun _ => Ev.pos (by omega) (Ev.now _)) (fun _ => Ev.cond (fun _ => Ev.pos (by omega) (Ev.pos ?_ (Ev.pos ?_ (Ev.now _)))) (fun _ => Ev.cond (fun _ => Ev.now _) (fun _ => Ev.cond (fun _ => Ev.now _) (fun _ => Ev.now _)))))
    · rw [ByteArray.size_append]; show 7 + _ + _ ≤ _; omega
    · rw [ByteArray.size_append, ByteArray.size_append]; show 7 + _ + _ + _ ≤ _; omega
  cases a with
  | true => exact Ev.pos rfl (Ev.pos (by omega) (main _ (by rw [ByteArray.size_append]; show 1 + _ < _; omega)))
  | false => exact Ev.neg (by simp) (main _ (by decide))
theorem contains_some (c : UInt8) (s : ByteArray) : strings_Contains.f s (BA [c]) = some (hasC c s) := by
  have hI : strings_Index.f s (BA [c]) = some (Lib.indexByte s.data.toList c) := by
    unfold strings_Index.f; rw [if_pos (show (BA [c]).size = 1 from rfl), data_BA]; rfl
  unfold strings_Contains.f hasC
  rw [hI, Option.bind_some]
  congr 1
  rcases Int.lt_or_le (Lib.indexByte s.data.toList c) 0 with x | x
  · rw [decide_eq_false (by omega), decide_eq_false (index_no c _ x)]
  · obtain ⟨a, r, e, _, _⟩ := index_yes c _ x
    rw [decide_eq_true (by omega), e, decide_eq_true (by simp)]
def hostEnd (s : ByteArray) : Nat := (Lib.indexAny (s ++ (⟨#[47]⟩ : ByteArray)).data.toList [47, 63]).toNat
def wholeB (s : ByteArray) : Bool := decide (7 ≤ s.size) && Hand.sameB (s.extract 0 7) (⟨#[104, 116, 116, 112, 58, 47, 47]⟩ : ByteArray)
def parseB (m s : ByteArray) : Int × ByteArray × ByteArray × ByteArray × Bool × Int :=
  if m.toList = ([67, 79, 78, 78, 69, 67, 84] : List UInt8) then (if (hostB s && hasC 58 s) = true then (3, s, (⟨#[]⟩ : ByteArray), (⟨#[]⟩ : ByteArray), false, 0) else badT)
  else if m.toList = ([79, 80, 84, 73, 79, 78, 83] : List UInt8) ∧ s.toList = ([42] : List UInt8) then (4, (⟨#[]⟩ : ByteArray), (⟨#[]⟩ : ByteArray), (⟨#[]⟩ : ByteArray), false, 0)
  else if prefB s (⟨#[47]⟩ : ByteArray) = true then originB 1 (⟨#[]⟩ : ByteArray) s
  else if wholeB s = true then (if hostB ((s.extract 7 s.size).extract 0 (hostEnd (s.extract 7 s.size))) = true then originB 2 ((s.extract 7 s.size).extract 0 (hostEnd (s.extract 7 s.size))) ((s.extract 7 s.size).extract (hostEnd (s.extract 7 s.size)) (s.extract 7 s.size).size) else badT)
  else badT
theorem hostEnd_le (s : ByteArray) : 0 ≤ Lib.indexAny (s ++ (⟨#[47]⟩ : ByteArray)).data.toList [47, 63] ∧ hostEnd s ≤ s.size := by
  have key : ∀ l : List UInt8, 0 ≤ Lib.indexAny (l ++ [47]) [47, 63] ∧ Lib.indexAny (l ++ [47]) [47, 63] ≤ l.length := by
    intro l
    induction l with
    | nil => decide
    | cons b l ih =>
      rw [List.cons_append]
      unfold Lib.indexAny
      split
      · exact ⟨by omega, by simp; omega⟩
      · have h1 : ¬ (Lib.indexAny (l ++ [47]) [47, 63] == -1) = true := by simp; omega
        simp only [h1]
        simp only [List.length_cons]
        constructor <;> (simp; omega)
  have := key s.data.toList
  have e : (s ++ (⟨#[47]⟩ : ByteArray)).data.toList = s.data.toList ++ [47] := by rw [data_app]
  unfold hostEnd
  rw [e]
  rw [data_length] at this
  exact ⟨this.1, by omega⟩
theorem parse_ev (m s : ByteArray) (hs : s.size < 1000000000000) (hI : wholeB s = true → prefB s (⟨#[47]⟩ : ByteArray) = false → strings_IndexAny.f ((s.extract 7 s.size) ++ (⟨#[47]⟩ : ByteArray)) (⟨#[47, 63]⟩ : ByteArray) = some (Lib.indexAny ((s.extract 7 s.size) ++ (⟨#[47]⟩ : ByteArray)).data.toList [47, 63])) :
    Ev (fun k => target_Parse.f k m s) (parseB m s) := by
  have hext : (s.extract 7 s.size).size ≤ s.size := by rw [ByteArray.size_extract]; omega
  have j1 : ∀ b, b = wholeB s → prefB s (⟨#[47]⟩ : ByteArray) = false → Ev (fun k => target_Parse.j1 k s b) (if wholeB s = true then (if hostB ((s.extract 7 s.size).extract 0 (hostEnd (s.extract 7 s.size))) = true then originB 2 ((s.extract 7 s.size).extract 0 (hostEnd (s.extract 7 s.size))) ((s.extract 7 s.size).extract (hostEnd (s.extract 7 s.size)) (s.extract 7 s.size).size) else badT) else badT) := by
    intro b hb hpre
    refine Ev.step (fun _ => target_Parse.j1.eq_2 ..) ?_
    rw [← hb]
    cases hw : b with
    | false => exact Ev.neg (by simp) (Ev.now _)
    | true =>
      have hw' : wholeB s = true := by rw [← hb, hw]
      have h7 : 7 ≤ s.size := by unfold wholeB at hw'; simp at hw'; exact hw'.1
      obtain ⟨e0, e1⟩ := hostEnd_le (s.extract 7 s.size)
      rw [if_pos rfl]
      refine Ev.pos rfl (Ev.pos (by omega) (Ev.pos (by omega) (Ev.val (hI hw' hpre) (Ev.pos e0 (Ev.pos (by unfold hostEnd at e1; omega) ?_)))))
      show Ev (fun k => (target_Host.f k ((s.extract 7 s.size).extract 0 (hostEnd (s.extract 7 s.size)))).bind _) _
      refine Ev.bind (host_ev _ (by rw [ByteArray.size_extract]; omega)) ?_
      cases hostB ((s.extract 7 s.size).extract 0 (hostEnd (s.extract 7 s.size))) with
      | false => exact Ev.neg (by simp) (Ev.now _)
      | true => exact Ev.pos rfl (Ev.bind (origin_ev _ _ _ (by rw [ByteArray.size_extract]; show _ < 4611686018427387904; omega)) (Ev.now _))
  have j0 : ∀ b : Bool, Ev (fun k => target_Parse.j0 k s b) (if b = true then (4, (⟨#[]⟩ : ByteArray), (⟨#[]⟩ : ByteArray), (⟨#[]⟩ : ByteArray), false, 0) else if prefB s (⟨#[47]⟩ : ByteArray) = true then originB 1 (⟨#[]⟩ : ByteArray) s else if wholeB s = true then (if hostB ((s.extract 7 s.size).extract 0 (hostEnd (s.extract 7 s.size))) = true then originB 2 ((s.extract 7 s.size).extract 0 (hostEnd (s.extract 7 s.size))) ((s.extract 7 s.size).extract (hostEnd (s.extract 7 s.size)) (s.extract 7 s.size).size) else badT) else badT) := by
    intro b
    refine Ev.step (fun _ => target_Parse.j0.eq_2 ..) (Ev.cond (fun _ => Ev.now _) (fun _ => Ev.val (prefix_some s _) ?_))
    refine Ev.cond (fun _ => Ev.bind (origin_ev _ _ _ (by omega)) (Ev.now _)) (fun hp => ?_)
    have hpf : prefB s (⟨#[47]⟩ : ByteArray) = false := by simpa using hp
    by_cases h7 : (s.size : Int) ≥ 7
    · refine Ev.pos h7 (Ev.pos (by omega) (Ev.pos (by omega) (Ev.val (same_some (by rw [ByteArray.size_extract]; omega) (by decide)) (j1 _ ?_ hpf))))
      unfold wholeB; rw [decide_eq_true (by omega : 7 ≤ s.size), Bool.true_and]
    · refine Ev.neg h7 (j1 false ?_ hpf)
      unfold wholeB; rw [decide_eq_false (by omega : ¬ 7 ≤ s.size), Bool.false_and]
  unfold target_Parse.f parseB
  refine Ev.cond (fun _ => Ev.bind (host_ev s (by omega)) ?_) (fun _ => ?_)
  · cases hostB s with
    | false => exact Ev.neg (by simp) (Ev.now _)
    | true =>
      refine Ev.pos rfl (Ev.val (contains_some 58 s) ?_)
      cases hasC 58 s with
      | false => exact Ev.neg (by simp) (Ev.now _)
      | true => exact Ev.pos rfl (Ev.now _)
  · by_cases ho : m.toList = ([79, 80, 84, 73, 79, 78, 83] : List UInt8)
    · refine Ev.pos ho ((j0 _).to ?_)
      by_cases hz : s.toList = ([42] : List UInt8)
      · exact (if_pos (by simp [hz])).trans (if_pos ⟨ho, hz⟩).symm
      · exact (if_neg (by simp [hz])).trans (if_neg (fun h => hz h.2)).symm
    · exact Ev.neg ho ((j0 false).to ((if_neg (by simp)).trans (if_neg (fun h => ho h.1)).symm))
end Go.Proofs.Ytnnehbbfokoklaa.PTargetTells
