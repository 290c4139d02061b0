/- What the printed functions of the text layer come to. -/
import Derived.Test.YtihcmknbdjmcdaaDoorPChunkTellsx
import Derived.Test.YtihcmknbdjmcdaaDoorParts
import Derived.Test.YtihcmknbdjmcdaaDoorLowP
import Derived.Test.YtihcmknbdjmcdaaDoorTrimP
import Derived.Test.YtihcmknbdjmcdaaDoorHex
import Derived.Lib.ItoaLen
namespace Go.Proofs.YtihcmknbdjmcdaaDoor.PChunkTells
open Go.RowKit Go.Proofs.YtihcmknbdjmcdaaDoorW.PrintWords Go.Proofs.YtihcmknbdjmcdaaDoorW.PrintLast Go.Proofs.YtihcmknbdjmcdaaDoorW.PrintMore Go.Proofs.YtihcmknbdjmcdaaDoor.Aid Go.Proofs.YtihcmknbdjmcdaaDoor.Parts

theorem rdOf_mem (l : List ByteArray) (j : Nat) (h : j < l.length) : rdOf ByteArray.empty l (j : Int) ∈ l := by
  unfold rdOf; simp [List.getD_eq_getElem?_getD, h]
theorem trim_some {s : ByteArray} (h : s.size ≤ 9223372036854775807) : text_Trim.f s = some (Trim.trimB Trim.blankB s) := by unfold text_Trim.f; rw [if_pos h]
theorem rin_loop (t : ByteArray) (c : Int) (ht : t.size < 9223372036854775807) (d : Nat) : ∀ i : Nat, i + d = t.size → Ev (fun k => parallaxref1_in.l0 k c t (i : Int)) (((bytesOf t).drop i).any fun b => b == c) := by
  induction d with
  | zero =>
    intro i hi
    refine Ev.step (fun _ => parallaxref1_in.l0.eq_2 ..) (Ev.neg (by omega) ((Ev.now _).to ?_))
    rw [List.drop_of_length_le (by rw [bytesOf_length]; omega)]; rfl
  | succ d ih =>
    intro i hi
    have h9 : i < 9223372036854775807 := by omega
    rw [drop_bytes t i (by omega), List.any_cons]
    refine Ev.step (fun _ => parallaxref1_in.l0.eq_2 ..) (Ev.pos (by omega) (Ev.pos (by omega) ?_))
    by_cases h : bt t (i : Int) = c
    · exact Ev.pos h ((Ev.now _).to (by simp [h]))
    · refine Ev.neg h ?_
      rw [wrap_nat h9]
      exact (ih (i + 1) (by omega)).to (by simp [h])
theorem inB_any (t : ByteArray) (c : Int) (hc : 0 ≤ c ∧ c < 256) : Trim.inB t c = (bytesOf t).any fun b => b == c := by
  unfold Trim.inB
  rw [Bool.eq_iff_iff, decide_eq_true_eq, index_nil_iff, List.any_eq_true]
  unfold bytesOf
  constructor
  · intro h
    refine ⟨c, List.mem_map.mpr ⟨_, h, ?_⟩, by simp⟩
    rw [show c.toNat.toUInt8 = UInt8.ofNat c.toNat from rfl, UInt8.toNat_ofNat_of_lt' (by show c.toNat < 256; omega)]; omega
  · rintro ⟨x, hx, he⟩
    obtain ⟨b, hb, rfl⟩ := List.mem_map.mp hx
    have : (b.toNat : Int) = c := by simpa using he
    have e : c.toNat.toUInt8 = b := by rw [← this]; simp
    rw [e]; exact hb
theorem rin_ev (t : ByteArray) (c : Int) (hc : 0 ≤ c ∧ c < 256) (ht : t.size < 9223372036854775807) : Ev (fun k => parallaxref1_in.f k c t) (Trim.inB t c) := by
  unfold parallaxref1_in.f
  exact (rin_loop t c ht t.size 0 (by omega)).to (by rw [List.drop_zero, inB_any t c hc])
theorem rtrim_l1 (t : ByteArray) (ht : t.size < 9223372036854775807) (n : Nat) : ∀ s : ByteArray, s.size = n → s.size < 9223372036854775807 → Ev (fun k => parallaxref1_TrimOf.l1 k s t) (Trim.trimR (Trim.inB t) s) := by
  induction n with
  | zero =>
    intro s hs _
    have e : s = ByteArray.empty := ByteArray.size_eq_zero_iff.mp hs
    refine Ev.step (fun _ => parallaxref1_TrimOf.l1.eq_2 ..) (Ev.pos (by rw [e, ByteArray.toList_eq]; rfl) ((Ev.now _).to ?_))
    apply ba_inj; rw [TrimP.trimR_data, e]; rfl
  | succ n ih =>
    intro s hs hb
    have hne : ¬ s.toList = [] := by rw [ByteArray.toList_eq]; intro h; have := data_length s; rw [h] at this; simp at this; omega
    have hw : wrap64 ((s.size : Int) - 1) = ((n : Nat) : Int) := by rw [wrap_in (i := (s.size : Int) - 1) (by omega) (by omega)]; omega
    have hn9 : n < s.size := by omega
    have hbt := bt_lt s (n : Int)
    obtain ⟨b, hb1, hb2⟩ : ∃ b : UInt8, s.data.toList = s.data.toList.take n ++ [b] ∧ bt s (n : Int) = (b.toNat : Int) := by
      have hl : n < s.data.toList.length := by rw [data_length]; exact hn9
      refine ⟨s.data.toList[n], ?_, ?_⟩
      · rw [← List.take_succ_eq_append_getElem hl, List.take_of_length_le (by rw [data_length]; omega)]
      · rw [bt_nat s n hn9]; rfl
    refine Ev.step (fun _ => parallaxref1_TrimOf.l1.eq_2 ..) (Ev.neg hne ?_)
    rw [hw]
    refine Ev.pos (by omega) (Ev.pos (by omega) (Ev.bind (rin_ev t _ hbt ht) ?_))
    have hrd : s.data.toList.reverse.dropWhile (TrimP.asU (Trim.inB t)) = if Trim.inB t (bt s (n : Int)) = true then (s.data.toList.take n).reverse.dropWhile (TrimP.asU (Trim.inB t)) else s.data.toList.reverse := by
      conv => lhs; rw [hb1]
      rw [List.reverse_append, List.reverse_singleton, List.singleton_append, List.dropWhile_cons]
      have e : TrimP.asU (Trim.inB t) b = Trim.inB t (bt s (n : Int)) := by unfold TrimP.asU; rw [hb2]
      rw [e]
      by_cases h : Trim.inB t (bt s (n : Int)) = true
      · rw [if_pos h, if_pos h]
      · rw [if_neg h, if_neg h]
        conv => rhs; rw [hb1]
        rw [List.reverse_append, List.reverse_singleton, List.singleton_append]
    by_cases h : Trim.inB t (bt s (n : Int)) = true
    · refine Ev.pos h (Ev.pos (by omega) ?_)
      rw [Int.toNat_natCast]
      refine (ih (s.extract 0 n) (by rw [Trim.ext_size _ _ _ (by omega)]; omega) (by rw [Trim.ext_size _ _ _ (by omega)]; omega)).to ?_
      apply ba_inj
      rw [TrimP.trimR_data, TrimP.trimR_data, hrd, if_pos h, ext_data, List.drop_zero, Nat.sub_zero]
    · refine Ev.neg h ((Ev.now _).to ?_)
      apply ba_inj
      rw [TrimP.trimR_data, hrd, if_neg h, List.reverse_reverse]
theorem rtrim_l0 (t : ByteArray) (ht : t.size < 9223372036854775807) (n : Nat) : ∀ s : ByteArray, s.size = n → s.size < 9223372036854775807 → Ev (fun k => parallaxref1_TrimOf.l0 k s t) (Trim.trimB (Trim.inB t) s) := by
  induction n with
  | zero =>
    intro s hs hb
    have e : s = ByteArray.empty := ByteArray.size_eq_zero_iff.mp hs
    refine Ev.step (fun _ => parallaxref1_TrimOf.l0.eq_2 ..) (Ev.pos (by rw [e, ByteArray.toList_eq]; rfl) (Ev.step (fun _ => parallaxref1_TrimOf.j1.eq_2 ..) ?_))
    refine (rtrim_l1 t ht 0 s hs hb).to ?_
    apply ba_inj; unfold Trim.trimB; rw [TrimP.trimR_data, TrimP.trimR_data, TrimP.trimL_data, e]; rfl
  | succ n ih =>
    intro s hs hb
    have hne : ¬ s.toList = [] := by rw [ByteArray.toList_eq]; intro h; have := data_length s; rw [h] at this; simp at this; omega
    have hbt := bt_lt s (((0 : Nat) : Int))
    have h0 : (0 : Nat) < s.size := by omega
    obtain ⟨b, l, hb1, hb2⟩ : ∃ (b : UInt8) (l : List UInt8), s.data.toList = b :: l ∧ bt s ((0 : Nat) : Int) = (b.toNat : Int) := by
      cases hd : s.data.toList with
      | nil => have := data_length s; rw [hd] at this; simp at this; omega
      | cons b l =>
        refine ⟨b, l, rfl, ?_⟩
        rw [bt_nat s 0 h0]
        have : s[0] = s.data.toList[0]'(by rw [data_length]; exact h0) := rfl
        rw [this]; simp [hd]
    have e : TrimP.asU (Trim.inB t) b = Trim.inB t (bt s ((0 : Nat) : Int)) := by unfold TrimP.asU; rw [hb2]
    have hx : (s.extract 1 s.size).data.toList = l := by rw [ext_data, hb1]; simp; rw [List.take_of_length_le]; have := data_length s; rw [hb1] at this; simp at this; omega
    refine Ev.step (fun _ => parallaxref1_TrimOf.l0.eq_2 ..) (Ev.neg hne (Ev.pos (by omega) (Ev.bind (rin_ev t _ hbt ht) ?_)))
    by_cases h : Trim.inB t (bt s ((0 : Nat) : Int)) = true
    · refine Ev.pos h (Ev.pos (by omega) ?_)
      refine (ih (s.extract 1 s.size) (by rw [Trim.ext_size _ _ _ (Nat.le_refl _)]; omega) (by rw [Trim.ext_size _ _ _ (Nat.le_refl _)]; omega)).to ?_
      rw [TrimP.trimB_eq, TrimP.trimB_eq, hx, hb1]
      congr 1
      unfold TrimP.trimU
      rw [List.dropWhile_cons, if_pos (by rw [e]; exact h)]
    · refine Ev.neg h (Ev.step (fun _ => parallaxref1_TrimOf.j1.eq_2 ..) ?_)
      refine (rtrim_l1 t ht (n + 1) s hs hb).to ?_
      apply ba_inj; unfold Trim.trimB
      rw [TrimP.trimR_data, TrimP.trimR_data, TrimP.trimL_data, hb1, List.dropWhile_cons, if_neg (by rw [e]; exact h)]
theorem rtrimOf_ev (s t : ByteArray) (hs : s.size < 9223372036854775807) (ht : t.size < 9223372036854775807) : Ev (fun k => parallaxref1_TrimOf.f k s t) (Trim.trimB (Trim.inB t) s) := by
  unfold parallaxref1_TrimOf.f; exact rtrim_l0 t ht s.size s rfl hs
theorem blank_in : Trim.inB (⟨#[32, 9]⟩ : ByteArray) = fun c => Trim.inB (⟨#[32, 9]⟩ : ByteArray) c := rfl
theorem blank_eq : ∀ n : Fin 256, Trim.inB (⟨#[32, 9]⟩ : ByteArray) (n.val : Int) = Trim.blankB (n.val : Int) := by decide +kernel
theorem trimB_congr (p q : Int → Bool) (s : ByteArray) (h : ∀ c : Int, 0 ≤ c → c < 256 → p c = q c) : Trim.trimB p s = Trim.trimB q s := by
  have e : TrimP.asU p = TrimP.asU q := by
    funext b; unfold TrimP.asU; have := b.toNat_lt; exact h _ (by omega) (by omega)
  rw [TrimP.trimB_eq, TrimP.trimB_eq, e]
theorem rtrim_ev (s : ByteArray) (hs : s.size < 9223372036854775807) : Ev (fun k => parallaxref1_Trim.f k s) (Trim.trimB Trim.blankB s) := by
  unfold parallaxref1_Trim.f
  refine Ev.bind (rtrimOf_ev s _ hs (by decide)) ((Ev.now _).to ?_)
  exact trimB_congr _ _ s (fun c h0 h1 => byte_all (p := fun c => Trim.inB (⟨#[32, 9]⟩ : ByteArray) c = Trim.blankB c) blank_eq h0 h1)
/-- is a byte of a kind? -/
def ofB (c kind : Int) : Bool := (octet_of.f c kind).getD false
/-- is each byte of a text of one of some kinds? -/
def allB (s : ByteArray) (l : List Int) : Bool := (bytesOf s).all fun c => l.any (ofB c)


theorem of_k (kind : Fin 8) : ∀ n : Fin 256, octet_of.f (n.val : Int) (kind.val : Int) = some (ofB (n.val : Int) (kind.val : Int)) := by
  revert kind; decide +kernel

theorem of_far {c kind : Int} (h : ¬ (1 ≤ kind ∧ kind ≤ 6)) : octet_of.f c kind = some false := by
  unfold octet_of.f
  rw [if_neg (by omega), if_neg (by omega), if_neg (by omega), if_neg (by omega), if_neg (by omega), if_neg (by omega)]

theorem of_some {c : Int} (h0 : 0 ≤ c) (h1 : c < 256) (kind : Int) : octet_of.f c kind = some (ofB c kind) := by
  by_cases hk : 0 ≤ kind ∧ kind < 8
  · have := byte_all (p := fun c => octet_of.f c kind = some (ofB c kind)) (fun n => by
      have := of_k ⟨kind.toNat, by omega⟩ n
      rwa [show ((⟨kind.toNat, by omega⟩ : Fin 8).val : Int) = kind by simp; omega] at this) h0 h1
    exact this
  · have := of_far (c := c) (kind := kind) (by omega)
    unfold ofB; rw [this]; rfl

/-- one text's byte against the kinds from the j-th on -/
theorem own_in (s : ByteArray) (l : List Int) (hl : l.length < 9223372036854775807) (hs : s.size < 9223372036854775807) (i : Nat) (hi : i < s.size) (R : Bool)
    (hR : Ev (fun k => octet_All.l0 k s l (s.size : Int) ((i + 1 : Nat) : Int)) R) (d : Nat) : ∀ (j : Nat) (b : Bool), j + d = l.length →
    Ev (fun k => octet_All.l1 k s l (i : Int) b (s.size : Int) (i : Int) l (l.length : Int) (j : Int)) (if (b || (l.drop j).any (ofB (bt s (i : Int)))) = true then R else false) := by
  induction d with
  | zero =>
    intro j b hj
    refine Ev.step (fun _ => octet_All.l1.eq_2 ..) (Ev.neg (by omega) ?_)
    rw [List.drop_of_length_le (by omega), List.any_nil, Bool.or_false, wrap_nat (by omega)]
    exact Ev.cond (fun _ => hR) (fun _ => Ev.now _)
  | succ d ih =>
    intro j b hj
    have hw : wrap64 ((j : Int) + 1) = ((j + 1 : Nat) : Int) := wrap_nat (by omega)
    refine Ev.step (fun _ => octet_All.l1.eq_2 ..) (Ev.pos (by omega) (Ev.pos (by omega) (Ev.pos (by omega) ?_)))
    rw [drop_rd l j (by omega), List.any_cons, hw]
    cases b with
    | true => exact Ev.pos rfl ((ih (j + 1) true (by omega)).to (by simp))
    | false =>
      refine Ev.neg (by simp) (Ev.pos (by omega) (Ev.pos (by omega) ?_))
      have := bt_lt s (i : Int)
      exact Ev.val (of_some this.1 this.2 _) ((ih (j + 1) _ (by omega)).to (by rw [Bool.false_or]))

theorem own_out (s : ByteArray) (l : List Int) (hl : l.length < 9223372036854775807) (hs : s.size < 9223372036854775807) (d : Nat) : ∀ (i : Nat), i + d = s.size →
    Ev (fun k => octet_All.l0 k s l (s.size : Int) (i : Int)) (((bytesOf s).drop i).all fun c => l.any (ofB c)) := by
  induction d with
  | zero =>
    intro i hi
    refine Ev.step (fun _ => octet_All.l0.eq_2 ..) (Ev.neg (by omega) ?_)
    rw [List.drop_of_length_le (by rw [bytesOf_length]; omega)]; exact Ev.now _
  | succ d ih =>
    intro i hi
    refine Ev.step (fun _ => octet_All.l0.eq_2 ..) (Ev.pos (by omega) ?_)
    refine (own_in s l hl hs i (by omega) _ (ih (i + 1) (by omega)) l.length 0 false (by omega)).to ?_
    rw [drop_bytes s i (by omega), List.all_cons, List.drop_zero, Bool.false_or]
    cases l.any (ofB (bt s (i : Int))) <;> simp

theorem own_ev (s : ByteArray) (l : List Int) (hl : l.length < 9223372036854775807) (hs : s.size < 9223372036854775807) : Ev (fun k => octet_All.f k s l) (allB s l) :=
  (own_out s l hl hs s.size 0 (by omega)).to (by rw [List.drop_zero]; rfl)

theorem all_app (s t : ByteArray) (l : List Int) : allB (s ++ t) l = (allB s l && allB t l) := by
  unfold allB bytesOf
  rw [show (s ++ t).data.toList = s.data.toList ++ t.data.toList by simp [ByteArray.data_append], List.map_append, List.all_append]
/-- a digit's value -/
def hexV (c : Int) : Int := ((octet_Hex.f c).getD (0, false)).1
def valA (b : Int) (n : Int) (l : List Int) : Int := l.foldl (fun n d => n * b + d) n
theorem hex_all : ∀ n : Fin 256, octet_Hex.f (n.val : Int) = some (hexV (n.val : Int), ((octet_Hex.f (n.val : Int)).getD (0, false)).2) ∧ 0 ≤ hexV (n.val : Int) ∧ hexV (n.val : Int) ≤ 15 := by decide +kernel
theorem hex_at {c : Int} (h : 0 ≤ c ∧ c < 256) : octet_Hex.f c = some (hexV c, ((octet_Hex.f c).getD (0, false)).2) ∧ 0 ≤ hexV c ∧ hexV c ≤ 15 :=
  byte_all (p := fun c => octet_Hex.f c = some (hexV c, ((octet_Hex.f c).getD (0, false)).2) ∧ 0 ≤ hexV c ∧ hexV c ≤ 15) hex_all h.1 h.2
theorem valA_ge {b : Int} (hb : 1 ≤ b) (l : List Int) : ∀ n : Int, 0 ≤ n → (∀ d ∈ l, 0 ≤ d) → n ≤ valA b n l := by
  induction l with
  | nil => intro n _ _; exact Int.le_refl _
  | cons d l ih =>
    intro n hn hd
    have h0 := hd d (by simp)
    have h1 : n ≤ n * b := by have := Int.mul_le_mul_of_nonneg_left hb hn; rwa [Int.mul_one] at this
    have := ih (n * b + d) (by omega) (fun x hx => hd x (by simp [hx]))
    show n ≤ valA b (n * b + d) l
    omega
theorem vals_nonneg (s : ByteArray) (i : Nat) : ∀ d ∈ ((bytesOf s).map hexV).drop i, 0 ≤ d := by
  intro d hd
  obtain ⟨c, hc, rfl⟩ := List.mem_map.mp (List.mem_of_mem_drop hd)
  exact (hex_at (bytes_lt s hc)).2.1
theorem read_loop (s : ByteArray) (b most : Int) (hb : 2 ≤ b) (hb2 : b ≤ 16) (hm : most ≤ 9223372036854775807) (hs : s.size < 9223372036854775807) (d : Nat) : ∀ (i : Nat) (n : Int), i + d = s.size → 0 ≤ n → n ≤ most →
    Ev (fun k => number_read.l0 k s b most n (s.size : Int) (i : Int)) (if valA b n (((bytesOf s).map hexV).drop i) ≤ most then (valA b n (((bytesOf s).map hexV).drop i), 0) else (0, 23)) := by
  induction d with
  | zero =>
    intro i n hi h0 h1
    refine Ev.step (fun _ => number_read.l0.eq_2 ..) (Ev.neg (by omega) ((Ev.now _).to ?_))
    rw [List.drop_of_length_le (by rw [List.length_map, bytesOf_length]; omega)]
    exact (if_pos h1).symm
  | succ d ih =>
    intro i n hi h0 h1
    have h9 : i < 9223372036854775807 := by omega
    have hlt : i < ((bytesOf s).map hexV).length := by rw [List.length_map, bytesOf_length]; omega
    have hbt := bt_lt s (i : Int)
    obtain ⟨e1, e2, e3⟩ := hex_at hbt
    have hdrop : ((bytesOf s).map hexV).drop i = hexV (bt s (i : Int)) :: ((bytesOf s).map hexV).drop (i + 1) := by
      rw [← List.map_drop, drop_bytes s i (by omega), List.map_cons, List.map_drop]
    rw [hdrop]
    have hnn := vals_nonneg s (i + 1)
    refine Ev.step (fun _ => number_read.l0.eq_2 ..) (Ev.pos (by omega) (Ev.pos (by omega) (Ev.pos (by omega) (Ev.val e1 ?_))))
    show Ev (fun k => if hexV (bt s (i : Int)) > most then _ else _) (if valA b (n * b + hexV (bt s (i : Int))) (((bytesOf s).map hexV).drop (i + 1)) ≤ most then _ else _)
    rw [wrap_nat h9]
    generalize hexV (bt s (i : Int)) = v at e2 e3 ⊢
    have ih' := fun (n : Int) (h0 : 0 ≤ n) (h1 : n ≤ most) => ih (i + 1) n (by omega) h0 h1
    clear ih
    generalize ((bytesOf s).map hexV).drop (i + 1) = l at hnn ih' ⊢
    have hge := valA_ge (b := b) (by omega) l (n * b + v) (by have := Int.mul_nonneg h0 (show 0 ≤ b by omega); omega) hnn
    have hnb := Int.mul_nonneg h0 (show 0 ≤ b by omega)
    by_cases hv : v > most
    · exact Ev.pos hv ((Ev.now _).to (if_neg (by omega)).symm)
    · refine Ev.neg hv (Ev.neg (by omega) ?_)
      have hw1 : wrap64 (most - v) = most - v := wrap_in (by omega) (by omega)
      have hq : Int.tdiv (most - v) b = (most - v) / b := Int.tdiv_eq_ediv_of_nonneg (by omega)
      have hq2 : (most - v) / b ≤ most - v := Int.ediv_le_self _ (by omega)
      have hq3 : 0 ≤ (most - v) / b := Int.ediv_nonneg (by omega) (by omega)
      have hw2 : wrap64 ((most - v) / b) = (most - v) / b := wrap_in (by omega) (by omega)
      rw [hw1, hq, hw2]
      clear hw1 hw2 hq
      have hiff := Int.ediv_lt_iff_lt_mul (a := most - v) (b := n) (c := b) (by omega)
      clear hq2 hq3
      by_cases hc : n > (most - v) / b
      · have := hiff.mp hc
        exact Ev.pos hc ((Ev.now _).to (if_neg (by omega)).symm)
      · have h2 : ¬ most - v < n * b := fun h => hc (hiff.mpr h)
        clear hiff
        refine Ev.neg hc ?_
        have hw3 : wrap64 (n * b) = n * b := wrap_in (by omega) (by omega)
        rw [hw3]
        clear hw3
        have hw4 : wrap64 (n * b + v) = n * b + v := wrap_in (by omega) (by omega)
        rw [hw4]
        exact ih' (n * b + v) (by omega) (by omega)
/-- the number that a text says -/
def readB (s : ByteArray) (b most kind : Int) : Int × Int := if bytesOf s = [] ∨ allB s [kind] = false then (0, 22) else if valA b 0 ((bytesOf s).map hexV) ≤ mx most 0 then (valA b 0 ((bytesOf s).map hexV), 0) else (0, 23)
theorem bytes_nil (s : ByteArray) : s.toList = ([] : List UInt8) ↔ bytesOf s = [] := by rw [ByteArray.toList_eq]; unfold bytesOf; simp
theorem read_ev (s : ByteArray) (b most kind : Int) (hb : 2 ≤ b) (hb2 : b ≤ 16) (hm : most ≤ 9223372036854775807) (hs : s.size < 9223372036854775807) : Ev (fun k => number_read.f k s b most kind) (readB s b most kind) := by
  unfold number_read.f readB
  by_cases h : s.toList = ([] : List UInt8)
  · rw [if_pos (.inl ((bytes_nil s).mp h))]
    exact Ev.pos h (Ev.step (fun _ => number_read.j0.eq_2 ..) (Ev.pos rfl (Ev.now _)))
  · refine Ev.neg h (Ev.bind (own_ev s [kind] (by simp) hs) (Ev.step (fun _ => number_read.j0.eq_2 ..) ?_))
    have h' : ¬ bytesOf s = [] := fun e => h ((bytes_nil s).mpr e)
    cases ha : allB s [kind] with
    | false => rw [if_pos (.inr rfl)]; exact Ev.pos rfl (Ev.now _)
    | true =>
      rw [if_neg (by simp [h'])]
      have h0 : 0 ≤ mx most 0 := by unfold mx; split <;> omega
      have h1 : mx most 0 ≤ 9223372036854775807 := by unfold mx; split <;> omega
      exact Ev.neg (by simp) ((read_loop s b (mx most 0) hb hb2 h1 hs s.size 0 0 (by omega) (by omega) h0).to (by rw [List.drop_zero]))
theorem hexn_ev (s : ByteArray) (most : Int) (hm : most ≤ 9223372036854775807) (hs : s.size < 9223372036854775807) : Ev (fun k => number_Hex.f k s most) (readB s 16 most 5) := by
  unfold number_Hex.f; exact Ev.bind (read_ev s 16 most 5 (by omega) (by omega) hm hs) (Ev.now _)
/-- these bytes are a number's digits -/
def Num (b kind : Int) (l : List Int) (n : Nat) : Prop := l ≠ [] ∧ (∀ c ∈ l, ofB c kind = true) ∧ valA b 0 (l.map hexV) = (n : Int)
theorem num_one {b kind : Int} {c : Int} {d : Nat} (h : ofB c kind = true) (hv : hexV c = d) : Num b kind [c] d := ⟨by simp, by simp [h], by simp [valA, hv]⟩
theorem num_app {b kind : Int} {l : List Int} {n : Nat} (h : Num b kind l n) {c : Int} {d : Nat} (hk : ofB c kind = true) (hv : hexV c = d) {m : Nat} (hm : (m : Int) = n * b + d) : Num b kind (l ++ [c]) m := by
  obtain ⟨h1, h2, h3⟩ := h
  refine ⟨by simp, fun x hx => ?_, ?_⟩
  · rcases List.mem_append.mp hx with e | e
    · exact h2 x e
    · rw [List.mem_singleton.mp e]; exact hk
  · unfold valA at h3 ⊢
    rw [List.map_append, List.foldl_append, h3, hm]; simp [hv]
theorem num_zero {b kind : Int} {l : List Int} {n : Nat} (h : Num b kind l n) (hk : ofB 48 kind = true) (hv : hexV 48 = 0) : Num b kind (48 :: l) n := by
  obtain ⟨h1, h2, h3⟩ := h
  refine ⟨by simp, fun x hx => ?_, ?_⟩
  · rcases List.mem_cons.mp hx with e | e
    · rw [e]; exact hk
    · exact h2 x e
  · rw [← h3]; simp [valA, hv]
theorem num_read {b kind : Int} {s : ByteArray} {n : Nat} (h : Num b kind (bytesOf s) n) (most : Int) : readB s b most kind = if (n : Int) ≤ mx most 0 then ((n : Int), 0) else (0, 23) := by
  unfold readB
  have ha : allB s [kind] = true := by
    unfold allB; rw [List.all_eq_true]; intro c hc; simp [h.2.1 c hc]
  rw [if_neg (by simp [h.1, ha]), h.2.2]
theorem dig10 : ∀ d : Fin 10, ofB (48 + (d.val : Int)) 4 = true ∧ hexV (48 + (d.val : Int)) = (d.val : Int) := by decide +kernel
theorem dig16 : ∀ d : Fin 16, ofB (Hex.dig d.val) 5 = true ∧ hexV (Hex.dig d.val) = (d.val : Int) := by decide +kernel
theorem nought : (ofB 48 4 = true ∧ ofB 48 5 = true) ∧ hexV 48 = 0 := by decide +kernel
theorem dec_byte (d : Nat) (h : d < 10) : (((UInt8.ofNat (48 + d)).toNat : Nat) : Int) = 48 + (d : Int) := by
  rw [UInt8.toNat_ofNat_of_lt' (by show 48 + d < 256; omega)]; omega
theorem dec_num (u : Nat) : Num 10 4 ((Lib.decDigits u).map fun b => (b.toNat : Int)) u := by
  induction u using Nat.strongRecOn with
  | _ u ih =>
    have hm : u % 10 < 10 := Nat.mod_lt _ (by decide)
    rw [Lib.decDigits]
    by_cases h : u < 10
    · rw [dif_pos h, List.map_cons, List.map_nil, dec_byte u h]
      exact num_one (dig10 ⟨u, h⟩).1 (dig10 ⟨u, h⟩).2
    · rw [dif_neg h, List.map_append, List.map_cons, List.map_nil, dec_byte _ hm]
      exact num_app (ih (u / 10) (by omega)) (dig10 ⟨u % 10, hm⟩).1 (dig10 ⟨u % 10, hm⟩).2 (by simp only; omega)
theorem hexL_num (f : Nat) : ∀ u : Nat, u < 16 ^ (f + 1) → Num 16 5 (Hex.hexL (f + 1) u) u := by
  induction f with
  | zero => intro u h; have h : u < 16 := by simpa using h
            rw [Hex.hexL_lt _ _ h]; exact num_one (dig16 ⟨u, h⟩).1 (dig16 ⟨u, h⟩).2
  | succ f ih =>
    intro u h
    by_cases h1 : u < 16
    · rw [Hex.hexL_lt _ _ h1]; exact num_one (dig16 ⟨u, h1⟩).1 (dig16 ⟨u, h1⟩).2
    · have hm : u % 16 < 16 := Nat.mod_lt _ (by decide)
      rw [Hex.hexL_ge _ _ h1]
      rw [Nat.pow_succ] at h
      exact num_app (ih (u / 16) (Nat.div_lt_of_lt_mul (by rw [Nat.mul_comm]; exact h))) (dig16 ⟨u % 16, hm⟩).1 (dig16 ⟨u % 16, hm⟩).2 (by simp only; omega)
theorem hexL_range (f : Nat) : ∀ u : Nat, ∀ x ∈ Hex.hexL f u, 0 ≤ x ∧ x < 256 := by
  induction f with
  | zero => intro u x hx; simp [Hex.hexL] at hx
  | succ f ih =>
    intro u x hx
    by_cases h1 : u < 16
    · rw [Hex.hexL_lt _ _ h1] at hx; rw [List.mem_singleton.mp hx]; have := Hex.dig_range h1; omega
    · rw [Hex.hexL_ge _ _ h1] at hx
      rcases List.mem_append.mp hx with e | e
      · exact ih _ x e
      · rw [List.mem_singleton.mp e]; have := Hex.dig_range (Nat.mod_lt u (show 0 < 16 by decide)); omega
def decB (n : Nat) : ByteArray := ⟨(Lib.decDigits n).toArray⟩
theorem decB_num (n : Nat) : Num 10 4 (bytesOf (decB n)) n := by
  have := dec_num n
  unfold bytesOf decB; exact this
theorem hexB_num (n : Nat) (h : n < 9223372036854775808) : Num 16 5 (bytesOf (Hex.hexB n)) n := by
  unfold Hex.hexB; rw [LowP.bytes_nums (hexL_range 17 n)]; exact hexL_num 16 n (by omega)
theorem decB_size (n : Nat) (h : n < 9223372036854775808) : (decB n).size ≤ 21 := by
  have := Lib.itoa_length_le (n : Int) (by omega) (by omega)
  unfold Lib.itoa at this; rw [if_neg (by omega)] at this
  simpa [decB, ByteArray.size] using this
theorem hexL_len (f : Nat) : ∀ u, (Hex.hexL f u).length ≤ f := by
  induction f with
  | zero => intro u; simp [Hex.hexL]
  | succ f ih =>
    intro u
    by_cases h1 : u < 16
    · rw [Hex.hexL_lt _ _ h1]; simp
    · rw [Hex.hexL_ge _ _ h1]; have := ih (u / 16); simp; omega
theorem hexB_size (n : Nat) : (Hex.hexB n).size ≤ 17 := by
  unfold Hex.hexB; rw [strOfNums_size]; exact hexL_len 17 n
theorem puthex_some (a : Int) (h : a ≤ 9223372036854775807) : number_PutHex.f a = some (Hex.hexB (mx a 0).toNat) := by
  have h0 : 0 ≤ mx a 0 := by unfold mx; split <;> omega
  have h1 : mx a 0 ≤ 9223372036854775807 := by unfold mx; split <;> omega
  unfold number_PutHex.f strconv_FormatInt.f
  rw [if_pos ⟨rfl, h0, h1⟩, Option.bind_some]
/-- is it a hexadecimal digit? -/
def hexK (c : Int) : Bool := ((octet_Hex.f c).getD (0, false)).2
theorem rhex_all : ∀ n : Fin 256, parallaxref1_Hex.f 2 (n.val : Int) = some (hexV (n.val : Int), hexK (n.val : Int)) := by decide +kernel
theorem rhex_ev {c : Int} (h : 0 ≤ c ∧ c < 256) : Ev (fun k => parallaxref1_Hex.f k c) (hexV c, hexK c) :=
  Ev.of (fun k => parallaxref1_Hex.mono _ k) (k := 2) (byte_all (p := fun c => parallaxref1_Hex.f 2 c = some (hexV c, hexK c)) rhex_all h.1 h.2)
/-- a kind's bytes are a base's digits -/
def BaseOf (b kind : Int) : Prop := ∀ c : Int, 0 ≤ c → c < 256 → ofB c kind = (hexK c && decide (hexV c < b))
theorem base10_all : ∀ n : Fin 256, ofB (n.val : Int) 4 = (hexK (n.val : Int) && decide (hexV (n.val : Int) < 10)) := by decide +kernel
theorem base16_all : ∀ n : Fin 256, ofB (n.val : Int) 5 = (hexK (n.val : Int) && decide (hexV (n.val : Int) < 16)) := by decide +kernel
theorem base10 : BaseOf 10 4 := fun _ h0 h1 => byte_all (p := fun c => ofB c 4 = (hexK c && decide (hexV c < 10))) base10_all h0 h1
theorem base16 : BaseOf 16 5 := fun _ h0 h1 => byte_all (p := fun c => ofB c 5 = (hexK c && decide (hexV c < 16))) base16_all h0 h1
/-- what a number's reader comes to behind n, of which bytes l are left -/
def numR (b most kind n : Int) (over : Bool) (l : List Int) : Int × Int := if l.all (fun c => ofB c kind) = true then (if over = true then (0, 23) else if valA b n (l.map hexV) ≤ most then (valA b n (l.map hexV), 0) else (0, 23)) else (0, 22)
theorem rnum_loop (s : ByteArray) (b most kind : Int) (hb : 2 ≤ b) (hb2 : b ≤ 16) (hB : BaseOf b kind) (hm0 : 0 ≤ most) (hm : most ≤ 9223372036854775807) (hs : s.size < 9223372036854775807) (d : Nat) : ∀ (i : Nat) (n : Int) (over : Bool), i + d = s.size → 0 ≤ n → n ≤ most →
    Ev (fun k => parallaxref1_number.l0 k s b most n over (i : Int)) (numR b most kind n over ((bytesOf s).drop i)) := by
  induction d with
  | zero =>
    intro i n over hi h0 h1
    rw [List.drop_of_length_le (by rw [bytesOf_length]; omega)]
    refine Ev.step (fun _ => parallaxref1_number.l0.eq_2 ..) (Ev.neg (by omega) ?_)
    unfold numR
    rw [if_pos (show (([] : List Int).all fun c => ofB c kind) = true from rfl)]
    cases over with
    | true => exact Ev.pos (show (true : Bool) = true from rfl) ((Ev.now _).to rfl)
    | false =>
      refine Ev.neg (show ¬ (false : Bool) = true by simp) ((Ev.now _).to ?_)
      rw [if_neg (show ¬ (false : Bool) = true by simp)]
      exact (if_pos (show valA b n (List.map hexV []) ≤ most from h1)).symm
  | succ d ih =>
    intro i n over hi h0 h1
    have h9 : i < 9223372036854775807 := by omega
    have hbt := bt_lt s (i : Int)
    have hx := rhex_ev hbt
    have hk := hB (bt s (i : Int)) hbt.1 hbt.2
    have hv := (hex_at hbt).2
    rw [drop_bytes s i (by omega)]
    refine Ev.step (fun _ => parallaxref1_number.l0.eq_2 ..) (Ev.pos (by omega) (Ev.pos (by omega) (Ev.bind hx ?_)))
    have IH := fun (n : Int) (over : Bool) (h0 : 0 ≤ n) (h1 : n ≤ most) => ih (i + 1) n over (by omega) h0 h1
    clear ih hx
    have hnn : ∀ x ∈ ((bytesOf s).drop (i + 1)).map hexV, 0 ≤ x := by rw [List.map_drop]; exact vals_nonneg s (i + 1)
    rw [← wrap_nat h9] at IH
    generalize (bytesOf s).drop (i + 1) = l at IH hnn ⊢
    generalize bt s (i : Int) = c at hk hv ⊢
    have stop : ∀ x36 : Bool, x36 = true → ofB c kind = false → Ev (fun k => parallaxref1_number.j1 k s b most n over (i : Int) (hexV c) x36) (numR b most kind n over (c :: l)) := by
      intro x36 hx hc
      refine Ev.step (fun _ => parallaxref1_number.j1.eq_2 ..) (Ev.pos hx ((Ev.now _).to ?_))
      unfold numR; rw [if_neg (by simp [hc])]
    cases hK : hexK c with
    | false => exact Ev.neg (by simp) (stop true rfl (by rw [hk, hK]; rfl))
    | true =>
      refine Ev.pos rfl ?_
      by_cases hlt : hexV c < b
      · have hof : ofB c kind = true := by rw [hk, hK]; simpa using hlt
        have hall : ∀ m o, numR b most kind m o l = (if (c :: l).all (fun c => ofB c kind) = true then (if o = true then (0, 23) else if valA b m (l.map hexV) ≤ most then (valA b m (l.map hexV), 0) else (0, 23)) else (0, 22)) := by
          intro m o; unfold numR; rw [List.all_cons, hof, Bool.true_and]
        have over_to : Ev (fun k => parallaxref1_number.l0 k s b most n true (wrap64 ((i : Int) + 1))) (if (c :: l).all (fun c => ofB c kind) = true then (0, 23) else (0, 22)) := (IH n true h0 h1).to (by rw [hall, if_pos rfl])
        refine Ev.step (fun _ => parallaxref1_number.j1.eq_2 ..) (Ev.neg (by simpa using hlt) ?_)
        cases over with
        | true => exact Ev.pos rfl (over_to.to (by unfold numR; rw [if_pos rfl]))
        | false =>
          refine Ev.neg (by simp) (Ev.neg (by omega) ?_)
          have hge := valA_ge (b := b) (by omega) (l.map hexV) (n * b + hexV c) (by have := Int.mul_nonneg h0 (show 0 ≤ b by omega); omega) hnn
          have hnb := Int.mul_nonneg h0 (show 0 ≤ b by omega)
          have over_n : most < n * b + hexV c → Ev (fun k => parallaxref1_number.l0 k s b most n true (wrap64 ((i : Int) + 1))) (numR b most kind n false (c :: l)) := by
            intro ho
            refine over_to.to ?_
            unfold numR
            rw [if_neg (show ¬ false = true by simp)]
            show _ = if _ then (if valA b (n * b + hexV c) (l.map hexV) ≤ most then _ else _) else _
            rw [if_neg (show ¬ valA b (n * b + hexV c) (l.map hexV) ≤ most by omega)]
          by_cases hvm : hexV c > most
          · by_cases hc1 : n > wrap64 (Int.tdiv (wrap64 (most - hexV c)) b)
            · exact Ev.pos hc1 (over_n (by omega))
            · exact Ev.neg hc1 (Ev.pos hvm (over_n (by omega)))
          · have hw1 : wrap64 (most - hexV c) = most - hexV c := wrap_in (by omega) (by omega)
            have hq : Int.tdiv (most - hexV c) b = (most - hexV c) / b := Int.tdiv_eq_ediv_of_nonneg (by omega)
            have hq2 : (most - hexV c) / b ≤ most - hexV c := Int.ediv_le_self _ (by omega)
            have hq3 : 0 ≤ (most - hexV c) / b := Int.ediv_nonneg (by omega) (by omega)
            have hw2 : wrap64 ((most - hexV c) / b) = (most - hexV c) / b := wrap_in (by omega) (by omega)
            rw [hw1, hq, hw2]
            clear hw1 hw2 hq
            have hiff := Int.ediv_lt_iff_lt_mul (a := most - hexV c) (b := n) (c := b) (by omega)
            clear hq2 hq3
            by_cases hc : n > (most - hexV c) / b
            · have := hiff.mp hc
              exact Ev.pos hc (over_n (by omega))
            · have h2 : ¬ most - hexV c < n * b := fun h => hc (hiff.mpr h)
              clear hiff
              refine Ev.neg hc (Ev.neg hvm ?_)
              have hw3 : wrap64 (n * b) = n * b := wrap_in (by omega) (by omega)
              rw [hw3]
              clear hw3
              have hw4 : wrap64 (n * b + hexV c) = n * b + hexV c := wrap_in (by omega) (by omega)
              rw [hw4]
              refine (IH (n * b + hexV c) false (by omega) (by omega)).to ?_
              rw [hall]; rfl
      · have : decide (hexV c ≥ b) = true := decide_eq_true (by omega)
        exact stop _ this (by rw [hk, hK]; simpa using hlt)
theorem rnumber_ev (s : ByteArray) (b most kind : Int) (hb : 2 ≤ b) (hb2 : b ≤ 16) (hB : BaseOf b kind) (hm : most ≤ 9223372036854775807) (hs : s.size < 9223372036854775807) : Ev (fun k => parallaxref1_number.f k s b most) (readB s b most kind) := by
  unfold parallaxref1_number.f readB
  by_cases h : s.toList = ([] : List UInt8)
  · rw [if_pos (.inl ((bytes_nil s).mp h))]
    exact Ev.pos h (Ev.now _)
  · have h' : ¬ bytesOf s = [] := fun e => h ((bytes_nil s).mpr e)
    have h0 : 0 ≤ mx most 0 := by unfold mx; split <;> omega
    have h1 : mx most 0 ≤ 9223372036854775807 := by unfold mx; split <;> omega
    refine Ev.neg h ((rnum_loop s b (mx most 0) kind hb hb2 hB h0 h1 hs s.size 0 0 false (by omega) (by omega) h0).to ?_)
    rw [List.drop_zero]
    unfold numR allB
    have e : (bytesOf s).all (fun c => [kind].any (ofB c)) = (bytesOf s).all (fun c => ofB c kind) := by congr 1; funext c; simp
    rw [e]
    cases (bytesOf s).all (fun c => ofB c kind) with
    | true => have h2 : ¬ (bytesOf s = [] ∨ true = false) := by simp [h']
              rw [if_pos rfl, if_neg (show ¬ false = true by simp), if_neg h2]
    | false => rw [if_neg (by simp), if_pos (.inr rfl)]
theorem rhexn_ev (s : ByteArray) (most : Int) (hm : most ≤ 9223372036854775807) (hs : s.size < 9223372036854775807) : Ev (fun k => parallaxref1_HexNumber.f k s most) (readB s 16 most 5) := by
  unfold parallaxref1_HexNumber.f; exact Ev.bind (rnumber_ev s 16 most 5 (by omega) (by omega) base16 hm hs) (Ev.now _)
theorem digit_at : ∀ d : Fin 16, (⟨#[48, 49, 50, 51, 52, 53, 54, 55, 56, 57, 97, 98, 99, 100, 101, 102]⟩ : ByteArray).extract d.val (d.val + 1) = strOfNums [Hex.dig d.val] := by decide +kernel
theorem digit_dec : ∀ d : Fin 10, strOfNums [Hex.dig d.val] = (⟨#[UInt8.ofNat (48 + d.val)]⟩ : ByteArray) := by decide +kernel
theorem rput_low (n b : Nat) (hb : b ≤ 16) (h : n < b) : Ev (fun k => parallaxref1_put.f k (n : Int) (b : Int)) (strOfNums [Hex.dig n]) := by
  have hm : mx (n : Int) 0 = (n : Int) := by unfold mx; rw [if_neg (by omega)]
  refine Ev.step (fun _ => parallaxref1_put.f.eq_2 ..) (Ev.pos (by omega) ?_)
  rw [hm, show wrap64 ((n : Int) + 1) = ((n + 1 : Nat) : Int) from wrap_nat (by omega)]
  refine Ev.pos (by omega) (Ev.pos (by omega) (Ev.pos (by omega) ((Ev.now _).to ?_)))
  rw [Int.toNat_natCast, Int.toNat_natCast]
  exact digit_at ⟨n, by omega⟩
theorem rput_neg (n : Int) (b : Nat) (h : n ≤ 0) (hb0 : 1 ≤ b) (hb : b ≤ 16) : Ev (fun k => parallaxref1_put.f k n (b : Int)) (strOfNums [Hex.dig 0]) := by
  have hm : mx n 0 = ((0 : Nat) : Int) := by unfold mx; split <;> omega
  refine Ev.step (fun _ => parallaxref1_put.f.eq_2 ..) (Ev.pos (by omega) ?_)
  rw [hm, show wrap64 (((0 : Nat) : Int) + 1) = ((0 + 1 : Nat) : Int) from wrap_nat (by omega)]
  refine Ev.pos (by omega) (Ev.pos (by omega) (Ev.pos (by omega) ((Ev.now _).to ?_)))
  exact digit_at ⟨0, by omega⟩
theorem rput_step (n b : Nat) (hb0 : 2 ≤ b) (hb : b ≤ 16) (hn : n < 9223372036854775808) (h : ¬ n < b) (s : ByteArray) (hs : s.size ≤ 1000) (hi : Ev (fun k => parallaxref1_put.f k ((n / b : Nat) : Int) (b : Int)) s) : Ev (fun k => parallaxref1_put.f k (n : Int) (b : Int)) (s ++ strOfNums [Hex.dig (n % b)]) := by
  have hmod : n % b < b := Nat.mod_lt _ (by omega)
  have hq : wrap64 (Int.tdiv (n : Int) (b : Int)) = ((n / b : Nat) : Int) := by
    rw [Int.tdiv_eq_ediv_of_nonneg (by omega), ← Int.natCast_ediv]
    have := Nat.div_le_self n b
    generalize n / b = q at this ⊢
    exact wrap_in (by omega) (by omega)
  have hr : Int.tmod (n : Int) (b : Int) = ((n % b : Nat) : Int) := by rw [Int.tmod_eq_emod_of_nonneg (by omega), ← Int.natCast_emod]
  refine Ev.step (fun _ => parallaxref1_put.f.eq_2 ..) (Ev.neg (by omega) (Ev.neg (by omega) ?_))
  rw [hq, hr]
  refine Ev.bind hi (Ev.bind (rput_low (n % b) b hb hmod) (Ev.pos ?_ (Ev.now _)))
  rw [strOfNums_size]; simp; omega
theorem decB_low (u : Nat) (h : u < 10) : decB u = strOfNums [Hex.dig u] := by
  rw [digit_dec ⟨u, h⟩]; unfold decB; rw [Lib.decDigits, dif_pos h]
theorem decB_step (u : Nat) (h : ¬ u < 10) : decB u = decB (u / 10) ++ strOfNums [Hex.dig (u % 10)] := by
  rw [digit_dec ⟨u % 10, Nat.mod_lt _ (by decide)⟩]
  apply ba_inj
  have e : (decB u).data.toList = Lib.decDigits u := rfl
  have e2 : (decB (u / 10)).data.toList = Lib.decDigits (u / 10) := rfl
  rw [e, Lib.decDigits, dif_neg h]
  rw [show (decB (u / 10) ++ (⟨#[UInt8.ofNat (48 + u % 10)]⟩ : ByteArray)).data.toList = (decB (u / 10)).data.toList ++ [UInt8.ofNat (48 + u % 10)] by simp [ByteArray.data_append], e2]
theorem rput_dec (n : Nat) : n < 9223372036854775808 → Ev (fun k => parallaxref1_put.f k (n : Int) 10) (decB n) := by
  induction n using Nat.strongRecOn with
  | _ n ih =>
    intro hn
    by_cases h : n < 10
    · rw [decB_low n h]; exact rput_low n 10 (by decide) h
    · rw [decB_step n h]
      have hd : n / 10 < n := by omega
      exact rput_step n 10 (by decide) (by decide) hn h _ (by have := decB_size (n / 10) (by omega); omega) (ih (n / 10) hd (by omega))
theorem hexL_more (f : Nat) : ∀ u : Nat, u < 16 ^ (f + 1) → Hex.hexL (f + 2) u = Hex.hexL (f + 1) u := by
  induction f with
  | zero => intro u h; have h : u < 16 := by simpa using h
            rw [Hex.hexL_lt _ _ h, Hex.hexL_lt _ _ h]
  | succ f ih =>
    intro u h
    by_cases h1 : u < 16
    · rw [Hex.hexL_lt _ _ h1, Hex.hexL_lt _ _ h1]
    · rw [Hex.hexL_ge _ _ h1, Hex.hexL_ge _ _ h1]
      rw [Nat.pow_succ] at h
      rw [ih (u / 16) (Nat.div_lt_of_lt_mul (by rw [Nat.mul_comm]; exact h))]
theorem nums_app (l m : List Int) : strOfNums (l ++ m) = strOfNums l ++ strOfNums m := by
  apply ba_inj
  rw [strOfNums_data, show (strOfNums l ++ strOfNums m).data.toList = (strOfNums l).data.toList ++ (strOfNums m).data.toList by simp [ByteArray.data_append], strOfNums_data, strOfNums_data, List.map_append]
theorem hexB_low (u : Nat) (h : u < 16) : Hex.hexB u = strOfNums [Hex.dig u] := by unfold Hex.hexB; rw [Hex.hexL_lt _ _ h]
theorem hexB_step (u : Nat) (h : ¬ u < 16) (hu : u < 9223372036854775808) : Hex.hexB u = Hex.hexB (u / 16) ++ strOfNums [Hex.dig (u % 16)] := by
  unfold Hex.hexB; rw [Hex.hexL_ge _ _ h, nums_app, hexL_more 15 (u / 16) (by omega)]
theorem rput_hex (n : Nat) : n < 9223372036854775808 → Ev (fun k => parallaxref1_put.f k (n : Int) 16) (Hex.hexB n) := by
  induction n using Nat.strongRecOn with
  | _ n ih =>
    intro hn
    by_cases h : n < 16
    · rw [hexB_low n h]; exact rput_low n 16 (by decide) h
    · rw [hexB_step n h hn]
      exact rput_step n 16 (by decide) (by decide) hn h _ (by have := hexB_size (n / 16); omega) (ih (n / 16) (by omega) (by omega))
theorem rPutHex_ev (n : Int) (h : n ≤ 9223372036854775807) : Ev (fun k => parallaxref1_PutHex.f k n) (Hex.hexB (mx n 0).toNat) := by
  unfold parallaxref1_PutHex.f
  refine Ev.bind (a := Hex.hexB (mx n 0).toNat) ?_ (Ev.now _)
  by_cases h0 : n ≤ 0
  · have hm : mx n 0 = ((0 : Nat) : Int) := by unfold mx; split <;> omega
    rw [hm, Int.toNat_natCast, hexB_low 0 (by decide)]; exact rput_neg n 16 h0 (by decide) (by decide)
  · have hm : mx n 0 = n := by unfold mx; rw [if_neg (by omega)]
    obtain ⟨m, rfl⟩ : ∃ m : Nat, n = (m : Int) := ⟨n.toNat, by omega⟩
    rw [hm, Int.toNat_natCast]; exact rput_hex m (by omega)
/-- a text put together of pieces, by numbers -/
def someB (p : List ByteArray) (acc : ByteArray) (l : List Int) : ByteArray := l.foldl (fun a x => a ++ p.getD (x.toNat % p.length) ByteArray.empty) acc
theorem someB_size (p : List ByteArray) (m : Nat) (hm : ∀ x ∈ p, x.size ≤ m) (l : List Int) : ∀ acc, (someB p acc l).size ≤ acc.size + m * l.length := by
  induction l with
  | nil => intro acc; exact Nat.le_add_right _ _
  | cons x l ih =>
    intro acc
    have := ih (acc ++ p.getD (x.toNat % p.length) ByteArray.empty)
    have hp : (p.getD (x.toNat % p.length) ByteArray.empty).size ≤ m := by
      rw [List.getD_eq_getElem?_getD]
      cases h : p[x.toNat % p.length]? with
      | none => exact Nat.zero_le _
      | some y => exact hm y (List.mem_of_getElem? h)
    rw [ByteArray.size_append] at this
    show (someB p (acc ++ p.getD (x.toNat % p.length) ByteArray.empty) l).size ≤ _
    rw [List.length_cons, Nat.mul_succ]; omega
theorem some_loop (p : List ByteArray) (m : Nat) (hp0 : 0 < p.length) (hp1 : p.length ≤ 1000) (hm : ∀ x ∈ p, x.size ≤ m) (l : List Int) (hl : l.length ≤ 1000000) (hw : ∀ x ∈ l, 0 ≤ x ∧ x < 256) (d : Nat) : ∀ (i : Nat) (acc : ByteArray), i + d = l.length → acc.size + m * d ≤ 9223372036854775807 →
    Ev (fun k => parallaxlaw11_some.l0 k l p acc (i : Int)) (someB p acc (l.drop i)) := by
  induction d with
  | zero =>
    intro i acc hi ha
    refine Ev.step (fun _ => parallaxlaw11_some.l0.eq_2 ..) (Ev.neg (by omega) ((Ev.now _).to ?_))
    rw [List.drop_of_length_le (by omega)]; rfl
  | succ d ih =>
    intro i acc hi ha
    have h9 : i < 9223372036854775807 := by omega
    have hx := hw (rd l (i : Int)) (by rw [rd_nat, List.getD_eq_getElem?_getD, List.getElem?_eq_getElem (by omega : i < l.length)]; exact List.getElem_mem _)
    rw [drop_rd l i (by omega)]
    have hq : Int.tmod (wrap64 (rd l (i : Int))) (p.length : Int) = (((rd l (i : Int)).toNat % p.length : Nat) : Int) := by
      rw [wrap_in (by omega) (by omega), Int.tmod_eq_emod_of_nonneg (by omega)]
      have e : rd l (i : Int) = (((rd l (i : Int)).toNat : Nat) : Int) := by omega
      rw [e, ← Int.natCast_emod, Int.toNat_natCast]
    have hmod : (rd l (i : Int)).toNat % p.length < p.length := Nat.mod_lt _ hp0
    refine Ev.step (fun _ => parallaxlaw11_some.l0.eq_2 ..) (Ev.pos (by omega) (Ev.pos (by omega) (Ev.neg (by omega) ?_)))
    rw [hq, wrap_nat h9]
    have he : rdOf ByteArray.empty p (((rd l (i : Int)).toNat % p.length : Nat) : Int) = p.getD ((rd l (i : Int)).toNat % p.length) ByteArray.empty := rfl
    have hs := hm _ (rdOf_mem p _ hmod)
    rw [he] at hs
    rw [he]
    rw [Nat.mul_succ] at ha
    refine Ev.pos (by omega) (Ev.pos (by omega) (Ev.pos (by omega) ?_))
    exact ih (i + 1) _ (by omega) (by rw [ByteArray.size_append]; omega)
def someP : List ByteArray := ([(⟨#[48]⟩ : ByteArray), (⟨#[97]⟩ : ByteArray), (⟨#[70]⟩ : ByteArray), (⟨#[48, 120]⟩ : ByteArray), (⟨#[32]⟩ : ByteArray), (⟨#[9]⟩ : ByteArray), (⟨#[59]⟩ : ByteArray), (⟨#[120, 61, 121]⟩ : ByteArray), (⟨#[0]⟩ : ByteArray), (⟨#[49, 48, 48, 48, 48]⟩ : ByteArray), (⟨#[102, 102, 102, 102, 102, 102, 102, 102, 102, 102, 102, 102, 102, 102, 102, 102, 102]⟩ : ByteArray), (⟨#[195, 169]⟩ : ByteArray), (⟨#[48, 88, 49]⟩ : ByteArray), (⟨#[59, 59]⟩ : ByteArray)] : List ByteArray)
theorem some_ev (l : List Int) (hl : l.length ≤ 1000000) (hw : ∀ x ∈ l, 0 ≤ x ∧ x < 256) : Ev (fun k => parallaxlaw11_some.f k l) (someB someP ByteArray.empty l) := by
  unfold parallaxlaw11_some.f
  refine (some_loop someP 17 (by decide) (by decide) (by decide) l hl hw l.length 0 ByteArray.empty (by omega) ?_).to (by rw [List.drop_zero])
  show 0 + 17 * l.length ≤ _; omega
theorem some_size (l : List Int) : (someB someP ByteArray.empty l).size ≤ 17 * l.length := by
  have := someB_size someP 17 (by decide) l ByteArray.empty
  simpa using this
theorem bits_and32 (a b : Nat) (ha : a < 4294967296) (hb : b < 4294967296) : Go.bits .and .u32 (a : Int) (b : Int) = ((a &&& b : Nat) : Int) :=
  (Go.bits_nat .u32 32 (by decide) (fun n h0 h1 => by rw [IntKind.wrap_u32]; omega) a b ha hb).1
theorem bits_or32 (a b : Nat) (ha : a < 4294967296) (hb : b < 4294967296) : Go.bits .or .u32 (a : Int) (b : Int) = ((a ||| b : Nat) : Int) :=
  (Go.bits_nat .u32 32 (by decide) (fun n h0 h1 => by rw [IntKind.wrap_u32]; omega) a b ha hb).2
theorem bits_shr32 (a c : Nat) (hc : c ≤ 32) : shr .u32 (a : Int) (c : Int) = ((a >>> c : Nat) : Int) := by
  unfold shr
  rw [Int.toNat_natCast, show min c IntKind.u32.bits = c from Nat.min_eq_left hc, Nat.shiftRight_eq_div_pow]
  simp
theorem shr_le (a c : Nat) : a >>> c ≤ a := by rw [Nat.shiftRight_eq_div_pow]; exact Nat.div_le_self _ _
/-- is a bit set? -/
theorem bit_at (a c : Nat) (ha : a < 4294967296) (hc : c ≤ 32) : (Go.bits .and .u32 (shr .u32 (a : Int) (c : Int)) 1 == 1) = a.testBit c := by
  have := shr_le a c
  rw [bits_shr32 a c hc, show (1 : Int) = ((1 : Nat) : Int) from rfl, bits_and32 _ _ (by omega) (by omega)]
  unfold Nat.testBit
  rw [Nat.and_comm]
  have h : 1 &&& (a >>> c) = 0 ∨ 1 &&& (a >>> c) = 1 := by rw [Nat.and_comm, Nat.and_one_is_mod]; omega
  rcases h with h | h <;> rw [h] <;> rfl
/-- is a clause in a profile? -/
def hasB (n : Nat) (c : Int) : Bool := decide (0 ≤ c ∧ c < 30) && n.testBit c.toNat
theorem hasB_far {n : Nat} {c : Int} (h : ¬ (0 ≤ c ∧ c < 30)) : hasB n c = false := by unfold hasB; rw [decide_eq_false h]; rfl
theorem hasB_nat (n c : Nat) (h : c < 30) : hasB n (c : Int) = n.testBit c := by unfold hasB; rw [decide_eq_true (by omega)]; simp
theorem mask30 (a : Nat) : a &&& 1073741823 = a % 1073741824 := Nat.and_two_pow_sub_one_eq_mod a 30
theorem bits_mask32 (a : Nat) (ha : a < 4294967296) : Go.bits .and .u32 (a : Int) 1073741823 = ((a % 1073741824 : Nat) : Int) := by
  rw [← mask30]; exact bits_and32 a 1073741823 ha (by decide)
theorem bit_beyond {n c : Nat} (hn : n < 1073741824) (hc : 30 ≤ c) : n.testBit c = false :=
  Nat.testBit_lt_two_pow (Nat.lt_of_lt_of_le hn (Nat.pow_le_pow_right (n := 2) (by decide) hc))
theorem qknown (c : Int) : quirks_known.f c = some (decide (0 ≤ c ∧ c < 30)) := by
  unfold quirks_known.f
  by_cases h : c ≥ 0
  · rw [if_pos h]; congr 1; simp; omega
  · rw [if_neg h]; congr 1; simp; omega
theorem qhas_some (n : Nat) (hn : n < 4294967296) (c : Int) : quirks_Has.f (n : Int) c = some (hasB n c) := by
  unfold quirks_Has.f
  rw [qknown, Option.bind_some]
  by_cases h : 0 ≤ c ∧ c < 30
  · obtain ⟨m, rfl⟩ : ∃ m : Nat, c = (m : Int) := ⟨c.toNat, by omega⟩
    rw [if_pos (decide_eq_true h), if_pos h.1, bit_at n m hn (by omega), hasB_nat n m (by omega)]
  · rw [if_neg (by simpa using h), hasB_far h]
/-- the profile of clauses -/
def profB (l : List Int) (n : Nat) : Nat := l.foldl (fun p c => if 0 ≤ c ∧ c < 30 then p ||| 2 ^ c.toNat else p) n
theorem or_lt {a b : Nat} (ha : a < 1073741824) (hb : b < 1073741824) : a ||| b < 1073741824 := Nat.or_lt_two_pow (n := 30) ha hb
theorem pow_lt30 {c : Nat} (h : c < 30) : 2 ^ c < 1073741824 := Nat.pow_lt_pow_right (by decide) h
theorem profB_lt (l : List Int) : ∀ n, n < 1073741824 → profB l n < 1073741824 := by
  induction l with
  | nil => intro n h; exact h
  | cons c l ih =>
    intro n h
    refine ih _ ?_
    show (if 0 ≤ c ∧ c < 30 then n ||| 2 ^ c.toNat else n) < 1073741824
    by_cases hc : 0 ≤ c ∧ c < 30
    · rw [if_pos hc]; exact or_lt h (pow_lt30 (by omega))
    · rw [if_neg hc]; exact h
theorem profB_bit (l : List Int) : ∀ (n i : Nat), (profB l n).testBit i = (n.testBit i || l.any fun c => decide (0 ≤ c ∧ c < 30 ∧ c.toNat = i)) := by
  induction l with
  | nil => intro n i; simp [profB]
  | cons c l ih =>
    intro n i
    show (profB l (if 0 ≤ c ∧ c < 30 then n ||| 2 ^ c.toNat else n)).testBit i = _
    rw [ih, List.any_cons, ← Bool.or_assoc]
    congr 1
    by_cases hc : 0 ≤ c ∧ c < 30
    · rw [if_pos hc, Nat.testBit_or, Nat.testBit_two_pow]
      congr 1
      have e : (0 ≤ c ∧ c < 30 ∧ c.toNat = i) ↔ c.toNat = i := ⟨fun h => h.2.2, fun h => ⟨hc.1, hc.2, h⟩⟩
      rw [decide_eq_decide.mpr e]
    · rw [if_neg hc, decide_eq_false (fun h => hc ⟨h.1, h.2.1⟩), Bool.or_false]
theorem bits_shl32 (c : Nat) (h : c < 30) : shl .u32 1 (c : Int) = ((2 ^ c : Nat) : Int) := by
  have h1 := pow_lt30 h
  unfold shl
  rw [Int.toNat_natCast, show min c IntKind.u32.bits = c from Nat.min_eq_left (by show c ≤ 32; omega), IntKind.wrap_u32, Int.one_mul, show ((2 : Int) ^ c) = ((2 ^ c : Nat) : Int) by simp]
  generalize 2 ^ c = q at h1 ⊢
  omega
theorem take_at (c : UInt8) (a r : List UInt8) (h : c ∉ a) : (a ++ c :: r).takeWhile (· != c) = a ∧ (a ++ c :: r).dropWhile (· != c) = c :: r := by
  induction a with
  | nil => simp
  | cons b a ih =>
    have hb : (b != c) = true := by simp only [bne_iff_ne]; intro e; exact h (by simp [e])
    obtain ⟨h1, h2⟩ := ih (fun hm => h (by simp [hm]))
    rw [List.cons_append, List.takeWhile_cons, List.dropWhile_cons, if_pos hb, if_pos hb, h1, h2]
    exact ⟨rfl, rfl⟩
theorem take_no (c : UInt8) (l : List UInt8) (h : c ∉ l) : l.takeWhile (· != c) = l ∧ l.dropWhile (· != c) = [] := by
  induction l with
  | nil => simp
  | cons b a ih =>
    have hb : (b != c) = true := by simp only [bne_iff_ne]; intro e; exact h (by simp [e])
    obtain ⟨h1, h2⟩ := ih (fun hm => h (by simp [hm]))
    rw [List.takeWhile_cons, List.dropWhile_cons, if_pos hb, if_pos hb, h1, h2]
    exact ⟨rfl, rfl⟩
/-- what stands ahead of a byte, what stands from it on, what stands behind it; is it there? -/
def beforeB (c : UInt8) (s : ByteArray) : ByteArray := BA (s.data.toList.takeWhile (· != c))
def restB (c : UInt8) (s : ByteArray) : ByteArray := BA (s.data.toList.dropWhile (· != c))
def afterB (c : UInt8) (s : ByteArray) : ByteArray := BA ((s.data.toList.dropWhile (· != c)).drop 1)
def hasC (c : UInt8) (s : ByteArray) : Bool := decide (c ∈ s.data.toList)
theorem before_size (c : UInt8) (s : ByteArray) : (beforeB c s).size ≤ s.size := by
  unfold beforeB; rw [size_BA, ← data_length s]; exact (List.takeWhile_sublist _).length_le
theorem rest_size (c : UInt8) (s : ByteArray) : (restB c s).size ≤ s.size := by
  unfold restB; rw [size_BA, ← data_length s]; exact (List.dropWhile_sublist _).length_le
theorem after_size (c : UInt8) (s : ByteArray) : (afterB c s).size ≤ s.size := by
  unfold afterB; rw [size_BA, ← data_length s, List.length_drop]; have := (List.dropWhile_sublist (l := s.data.toList) (· != c)).length_le; omega
theorem rest_ext (c : UInt8) (s : ByteArray) : s.extract (beforeB c s).size s.size = restB c s := by
  apply ba_inj
  unfold beforeB restB
  rw [ext_data, data_BA, size_BA, ← data_length s]
  rw [TrimP.drop_take_while, List.take_of_length_le]
  rw [← TrimP.drop_take_while, List.length_drop]
  exact Nat.le_refl _
theorem cut_yes (c : UInt8) (s : ByteArray) (i : Nat) (hi : i < s.size) (hc : bt s (i : Int) = (c.toNat : Int)) (hno : ∀ j, j < i → bt s (j : Int) ≠ (c.toNat : Int)) :
    beforeB c s = s.extract 0 i ∧ restB c s = s.extract i s.size ∧ afterB c s = s.extract (i + 1) s.size ∧ hasC c s = true := by
  have hl : i < s.data.toList.length := by rw [data_length]; exact hi
  have hci : s.data.toList[i] = c := by
    rw [bt_nat s i hi] at hc
    have : (s[i]'hi) = c := by apply UInt8.toNat_inj.mp; omega
    exact this
  have hnm : c ∉ s.data.toList.take i := by
    intro hm
    obtain ⟨n, hn, he⟩ := List.mem_iff_getElem.mp hm
    rw [List.length_take, data_length] at hn
    rw [List.getElem_take] at he
    have h1 := hno n (by omega)
    rw [bt_nat s n (by omega)] at h1
    exact h1 (congrArg (fun z : UInt8 => (z.toNat : Int)) he)
  have e : s.data.toList = s.data.toList.take i ++ c :: s.data.toList.drop (i + 1) := by
    conv => lhs; rw [← List.take_append_drop i s.data.toList, List.drop_eq_getElem_cons hl, hci]
  obtain ⟨t1, t2⟩ := take_at c _ (s.data.toList.drop (i + 1)) hnm
  rw [← e] at t1 t2
  unfold beforeB restB afterB hasC
  rw [t1, t2]
  refine ⟨?_, ?_, ?_, ?_⟩
  · rw [ext_BA, List.drop_zero, Nat.sub_zero]
  · rw [ext_BA, ← hci, ← List.drop_eq_getElem_cons hl, List.take_of_length_le (by rw [List.length_drop, data_length]; omega)]
  · rw [ext_BA, List.take_of_length_le (by rw [List.length_drop, data_length]; omega)]; rfl
  · rw [decide_eq_true_eq, e]; simp
theorem cut_no (c : UInt8) (s : ByteArray) (hno : ∀ j, j < s.size → bt s (j : Int) ≠ (c.toNat : Int)) : beforeB c s = s ∧ restB c s = BA [] ∧ afterB c s = BA [] ∧ hasC c s = false := by
  have hnm : c ∉ s.data.toList := by
    intro hm
    obtain ⟨n, hn, he⟩ := List.mem_iff_getElem.mp hm
    rw [data_length] at hn
    have h1 := hno n hn
    rw [bt_nat s n hn] at h1
    exact h1 (congrArg (fun z : UInt8 => (z.toNat : Int)) he)
  obtain ⟨t1, t2⟩ := take_no c _ hnm
  unfold beforeB restB afterB hasC
  rw [t1, t2, BA_data]
  exact ⟨rfl, rfl, rfl, decide_eq_false hnm⟩
theorem cut_some (c : UInt8) (s : ByteArray) (hs : s.size < 4611686018427387904) : strings_Cut.f s (BA [c]) = some (beforeB c s, afterB c s, hasC c s) := by
  have h1 : (BA [c]).size = 1 := rfl
  have hI : stringslite_Index.f s (BA [c]) = some (Lib.indexByte s.data.toList c) := by
    unfold stringslite_Index.f; rw [if_pos h1, data_BA]; rfl
  unfold strings_Cut.f stringslite_Cut.f
  rw [hI, Option.bind_some]
  rcases Int.lt_or_le (Lib.indexByte s.data.toList c) 0 with x | x
  · have hn := index_no c _ x
    obtain ⟨t1, t2⟩ := take_no c _ hn
    rw [if_neg (by omega), Option.bind_some]
    unfold beforeB afterB hasC
    rw [t1, t2, decide_eq_false hn, BA_data]; rfl
  · obtain ⟨a, r, e, hn, hi⟩ := index_yes c _ x
    obtain ⟨t1, t2⟩ := take_at c a r hn
    have hsz : s.size = a.length + (r.length + 1) := by rw [← data_length s, e]; simp
    have hw : wrap64 (Lib.indexByte s.data.toList c + ((BA [c]).size : Int)) = ((a.length + 1 : Nat) : Int) := by
      rw [hi, h1]; exact wrap_nat (by omega)
    rw [if_pos x, if_pos x, hw, hi, if_pos (by omega), if_pos (by omega), if_pos (by omega), Option.bind_some]
    unfold beforeB afterB hasC
    rw [e, t1, t2, decide_eq_true (by simp), Int.toNat_natCast, Int.toNat_natCast]
    have e1 : s.extract 0 a.length = BA a := by rw [ext_BA, e]; simp
    have e2 : s.extract (a.length + 1) s.size = BA r := by
      rw [ext_BA, e, show (a ++ c :: r).drop (a.length + 1) = r by simp, List.take_of_length_le (by omega)]
    rw [e1, e2]; rfl
/-- does a text begin with another one? -/
def prefB (s t : ByteArray) : Bool := (s.extract 0 t.size).toList == t.toList
theorem prefix_some (s t : ByteArray) : strings_HasPrefix.f s t = some (prefB s t) := by
  unfold strings_HasPrefix.f stringslite_HasPrefix.f prefB
  by_cases h : (s.size : Int) ≥ (t.size : Int)
  · rw [if_pos h, if_pos (by omega), if_pos (by omega), Option.bind_some]
  · rw [if_neg h, Option.bind_some]
    congr 1
    symm
    rw [beq_eq_false_iff_ne]
    intro e
    have := congrArg List.length e
    rw [ByteArray.toList_eq, ByteArray.toList_eq, data_length, data_length, ByteArray.size_extract] at this
    omega
theorem pref_size {s t : ByteArray} (h : prefB s t = true) : t.size ≤ s.size := by
  unfold prefB at h
  have := congrArg List.length (beq_iff_eq.mp h)
  rw [ByteArray.toList_eq, ByteArray.toList_eq, data_length, data_length, ByteArray.size_extract] at this
  omega
theorem ris_k (kind : Fin 8) : ∀ n : Fin 256, parallaxref1_is.f 40 (n.val : Int) (kind.val : Int) = some (ofB (n.val : Int) (kind.val : Int)) := by
  revert kind; decide +kernel
theorem ris_ev {c : Int} (h : 0 ≤ c ∧ c < 256) (kind : Int) (hk : 0 ≤ kind ∧ kind < 8) : Ev (fun k => parallaxref1_is.f k c kind) (ofB c kind) :=
  Ev.of (fun k => parallaxref1_is.mono _ _ k) (k := 40) (byte_all (p := fun c => parallaxref1_is.f 40 c kind = some (ofB c kind)) (fun n => by
    have := ris_k ⟨kind.toNat, by omega⟩ n
    rwa [show ((⟨kind.toNat, by omega⟩ : Fin 8).val : Int) = kind by simp; omega] at this) h.1 h.2)
theorem rall_in (s : ByteArray) (l : List Int) (hk : ∀ x ∈ l, 0 ≤ x ∧ x < 8) (hl : l.length < 9223372036854775807) (hs : s.size < 9223372036854775807) (i : Nat) (hi : i < s.size) (R : Bool)
    (hR : Ev (fun k => parallaxref1_All.l0 k s l ((i + 1 : Nat) : Int)) R) (d : Nat) : ∀ (j : Nat) (b : Bool), j + d = l.length →
    Ev (fun k => parallaxref1_All.l1 k s l (i : Int) b (j : Int)) (if (b || (l.drop j).any (ofB (bt s (i : Int)))) = true then R else false) := by
  induction d with
  | zero =>
    intro j b hj
    refine Ev.step (fun _ => parallaxref1_All.l1.eq_2 ..) (Ev.neg (by omega) ?_)
    rw [List.drop_of_length_le (by omega), List.any_nil, Bool.or_false, wrap_nat (by omega)]
    exact Ev.cond (fun _ => hR) (fun _ => Ev.now _)
  | succ d ih =>
    intro j b hj
    have hw : wrap64 ((j : Int) + 1) = ((j + 1 : Nat) : Int) := wrap_nat (by omega)
    refine Ev.step (fun _ => parallaxref1_All.l1.eq_2 ..) (Ev.pos (by omega) ?_)
    rw [drop_rd l j (by omega), List.any_cons, hw]
    cases b with
    | true => exact Ev.pos rfl ((ih (j + 1) true (by omega)).to (by simp))
    | false =>
      have hm := hk (rd l (j : Int)) (by rw [rd_nat, List.getD_eq_getElem?_getD, List.getElem?_eq_getElem (by omega : j < l.length)]; exact List.getElem_mem _)
      refine Ev.neg (by simp) (Ev.pos (by omega) (Ev.pos (by omega) (Ev.pos (by omega) ?_)))
      exact Ev.bind (ris_ev (bt_lt s (i : Int)) _ hm) ((ih (j + 1) _ (by omega)).to (by rw [Bool.false_or]))
theorem rall_out (s : ByteArray) (l : List Int) (hk : ∀ x ∈ l, 0 ≤ x ∧ x < 8) (hl : l.length < 9223372036854775807) (hs : s.size < 9223372036854775807) (d : Nat) : ∀ (i : Nat), i + d = s.size →
    Ev (fun k => parallaxref1_All.l0 k s l (i : Int)) (((bytesOf s).drop i).all fun c => l.any (ofB c)) := by
  induction d with
  | zero =>
    intro i hi
    refine Ev.step (fun _ => parallaxref1_All.l0.eq_2 ..) (Ev.neg (by omega) ?_)
    rw [List.drop_of_length_le (by rw [bytesOf_length]; omega)]; exact Ev.now _
  | succ d ih =>
    intro i hi
    refine Ev.step (fun _ => parallaxref1_All.l0.eq_2 ..) (Ev.pos (by omega) ?_)
    refine (rall_in s l hk hl hs i (by omega) _ (ih (i + 1) (by omega)) l.length 0 false (by omega)).to ?_
    rw [drop_bytes s i (by omega), List.all_cons, List.drop_zero, Bool.false_or]
    cases l.any (ofB (bt s (i : Int))) <;> simp
theorem rall_ev (s : ByteArray) (l : List Int) (hk : ∀ x ∈ l, 0 ≤ x ∧ x < 8) (hl : l.length < 9223372036854775807) (hs : s.size < 9223372036854775807) : Ev (fun k => parallaxref1_All.f k s l) (allB s l) :=
  (rall_out s l hk hl hs s.size 0 (by omega)).to (by rw [List.drop_zero]; rfl)
theorem rhas_some (n : Nat) (hn : n < 4294967296) (c : Int) : parallaxref4_Has.f (n : Int) c = some (hasB n c) := by
  unfold parallaxref4_Has.f
  by_cases h0 : c ≥ 0
  · by_cases h1 : c < 30
    · obtain ⟨m, rfl⟩ : ∃ m : Nat, c = (m : Int) := ⟨c.toNat, by omega⟩
      rw [if_pos h0, if_pos h1, if_pos h0, bit_at n m hn (by omega), hasB_nat n m (by omega)]
    · rw [if_pos h0, if_neg h1, hasB_far (by omega)]
  · rw [if_neg h0, hasB_far (by omega)]
theorem rof_loop (l : List Int) (hl : l.length < 9223372036854775807) (d : Nat) : ∀ (i n : Nat), n < 1073741824 → i + d = l.length → Ev (fun k => parallaxref4_Of.l0 k l (n : Int) (i : Int)) ((profB (l.drop i) n : Nat) : Int) := by
  induction d with
  | zero =>
    intro i n hn hi
    refine Ev.step (fun _ => parallaxref4_Of.l0.eq_2 ..) (Ev.neg (by omega) ((Ev.now _).to ?_))
    rw [List.drop_of_length_le (by omega)]; rfl
  | succ d ih =>
    intro i n hn hi
    have h9 : i < 9223372036854775807 := by omega
    rw [drop_rd l i (by omega)]
    refine Ev.step (fun _ => parallaxref4_Of.l0.eq_2 ..) (Ev.pos (by omega) (Ev.pos (by omega) ?_))
    rw [wrap_nat h9]
    have hskip : ¬ (0 ≤ rd l (i : Int) ∧ rd l (i : Int) < 30) → Ev (fun k => parallaxref4_Of.l0 k l (n : Int) ((i + 1 : Nat) : Int)) ((profB (rd l (i : Int) :: l.drop (i + 1)) n : Nat) : Int) := by
      intro hc
      refine (ih (i + 1) n hn (by omega)).to ?_
      show _ = ((profB (l.drop (i + 1)) (if _ then _ else _) : Nat) : Int)
      rw [if_neg hc]
    by_cases h0 : rd l (i : Int) ≥ 0
    · refine Ev.pos h0 ?_
      by_cases h1 : rd l (i : Int) < 30
      · refine Ev.pos h1 (Ev.pos h0 ?_)
        obtain ⟨m, hm⟩ : ∃ m : Nat, rd l (i : Int) = (m : Int) := ⟨(rd l (i : Int)).toNat, by omega⟩
        have hp := pow_lt30 (c := m) (by omega)
        have e : profB (rd l (i : Int) :: l.drop (i + 1)) n = profB (l.drop (i + 1)) (n ||| 2 ^ m) := by
          show profB (l.drop (i + 1)) (if _ then _ else _) = _
          rw [if_pos ⟨h0, h1⟩, hm, Int.toNat_natCast]
        rw [e, hm, bits_shl32 m (by omega), bits_or32 n (2 ^ m) (by omega) (by omega)]
        exact ih (i + 1) _ (or_lt hn hp) (by omega)
      · exact Ev.neg h1 (hskip (by omega))
    · exact Ev.neg h0 (hskip (by omega))
theorem rof_ev (l : List Int) (hl : l.length < 9223372036854775807) : Ev (fun k => parallaxref4_Of.f k l) ((profB l 0 : Nat) : Int) := by
  unfold parallaxref4_Of.f
  exact (rof_loop l hl l.length 0 0 (by decide) (by omega)).to (by rw [List.drop_zero])
theorem profile_ev (a b : Nat) (ha : a < 4294967296) : ∃ p : Nat, p < 1073741824 ∧ Ev (fun k => parallaxseat_Profile.f k (a : Int) (b : Int)) (p : Int) := by
  unfold parallaxseat_Profile.f
  have hm := bits_mask32 a ha
  have hlt : a % 1073741824 < 1073741824 := Nat.mod_lt _ (by decide)
  by_cases h0 : Int.tmod (b : Int) 4 = 0
  · exact ⟨_, profB_lt _ 0 (by decide), Ev.pos h0 (Ev.bind (rof_ev _ (by simp)) (Ev.now _))⟩
  by_cases h1 : Int.tmod (b : Int) 4 = 1
  · exact ⟨_, profB_lt _ 0 (by decide), Ev.neg h0 (Ev.pos h1 (Ev.bind (rof_ev _ (by simp)) (Ev.now _)))⟩
  rw [hm]
  by_cases h2 : Int.tmod (b : Int) 4 = 2
  · refine ⟨(a % 1073741824 &&& (a % 1073741824 / 128)) &&& (a % 1073741824 / 8192), ?_, Ev.neg h0 (Ev.neg h1 (Ev.pos h2 ((Ev.now _).to ?_)))⟩
    · exact Nat.lt_of_le_of_lt Nat.and_le_left (Nat.lt_of_le_of_lt Nat.and_le_left hlt)
    · have d1 : a % 1073741824 / 128 ≤ a % 1073741824 := Nat.div_le_self _ _
      have d2 : a % 1073741824 / 8192 ≤ a % 1073741824 := Nat.div_le_self _ _
      have d3 : a % 1073741824 &&& (a % 1073741824 / 128) ≤ a % 1073741824 := Nat.and_le_left
      rw [show ((a % 1073741824 : Nat) : Int) / 128 = ((a % 1073741824 / 128 : Nat) : Int) by simp, show ((a % 1073741824 : Nat) : Int) / 8192 = ((a % 1073741824 / 8192 : Nat) : Int) by simp, bits_and32 _ _ (by omega) (by omega), bits_and32 _ _ (by omega) (by omega)]
  · exact ⟨_, hlt, Ev.neg h0 (Ev.neg h1 (Ev.neg h2 (Ev.now _)))⟩
/-- what is known of bounds -/
def boundsOk (b : Int × Int × Int × Int × Int × Int × Int × Int × Bool × Bool) : Bool := decide (0 ≤ b.2.2.2.1 ∧ b.2.2.2.1 ≤ 65536 ∧ 0 ≤ b.2.2.2.2.1 ∧ b.2.2.2.2.1 ≤ 32)
theorem bounds_all : ∀ n : Fin 256, (parallaxseat_Bounds.f 40 (n.val : Int)).map boundsOk = some true := by decide +kernel
theorem bounds_ev {n : Int} (h0 : 0 ≤ n) (h1 : n < 256) : ∃ b, boundsOk b = true ∧ Ev (fun k => parallaxseat_Bounds.f k n) b := by
  have := byte_all (p := fun n => (parallaxseat_Bounds.f 40 n).map boundsOk = some true) bounds_all h0 h1
  obtain ⟨b, h, hb⟩ := Option.map_eq_some_iff.mp this
  exact ⟨b, hb, Ev.of (fun k => parallaxseat_Bounds.mono _ k) (k := 40) h⟩
/-- the size that a chunk's line says -/
def sizeB (s : ByteArray) (p : Nat) (body ext : Int) : Int × Int :=
  if ((restB 59 s).size : Int) > ext ∨ allB (restB 59 s) [6] = false then (0, 400) else
    let s1 := if hasB p 28 = true then Trim.trimB Trim.blankB (beforeB 59 s) else beforeB 59 s
    let s2 := if (hasB p 27 && (prefB s1 (⟨#[48, 120]⟩ : ByteArray) || prefB s1 (⟨#[48, 88]⟩ : ByteArray))) = true then s1.extract 2 s1.size else s1
    let r := readB s2 16 body 5
    if r.2 = 23 then (0, 413) else if r.2 = 22 then (0, 400) else (r.1, 0)
theorem trim_size (s : ByteArray) : (Trim.trimB Trim.blankB s).size ≤ s.size := by
  rw [TrimP.trimB_eq, size_BA, ← data_length s]; exact TrimP.trimU_len _ _
theorem size_j3 (s : ByteArray) (hs : s.size < 9223372036854775807) (u0 u1 u2 body u4 u5 u6 u7 : Int) (u8 u9 : Bool) (hb : body ≤ 9223372036854775807) :
    Ev (fun k => chunk_Size.j3 k s u0 u1 u2 body u4 u5 u6 u7 u8 u9) (if (readB s 16 body 5).2 = 23 then (0, 413) else if (readB s 16 body 5).2 = 22 then (0, 400) else ((readB s 16 body 5).1, 0)) :=
  Ev.step (fun _ => chunk_Size.j3.eq_2 ..) (Ev.bind (hexn_ev s body hb hs) (Ev.cond (fun _ => Ev.now _) (fun _ => Ev.cond (fun _ => Ev.now _) (fun _ => Ev.now _))))
theorem size_ev (s : ByteArray) (hs : s.size < 4611686018427387904) (p : Nat) (hp : p < 4294967296) (u0 u1 u2 body ext u5 u6 u7 : Int) (u8 u9 : Bool) (hb : body ≤ 9223372036854775807) :
    Ev (fun k => chunk_Size.f k s (p : Int) u0 u1 u2 body ext u5 u6 u7 u8 u9) (sizeB s p body ext) := by
  have hb1 := before_size 59 s
  have hr1 := rest_size 59 s
  unfold chunk_Size.f
  refine Ev.val (cut_some 59 s hs) (Ev.pos (by show (0 : Int) ≤ ((beforeB 59 s).size : Int); omega) (Ev.pos (by show ((beforeB 59 s).size : Int) ≤ (s.size : Int); omega) ?_))
  show Ev (fun k => if ((s.extract (((beforeB 59 s).size : Int)).toNat s.size).size : Int) > ext then _ else _) _
  rw [Int.toNat_natCast, rest_ext]
  unfold sizeB
  have J : ∀ b : Bool, b = false → Ev (fun k => chunk_Size.j0 k (p : Int) (beforeB 59 s) b u0 u1 u2 body ext u5 u6 u7 u8 u9) (
    let s1 := if hasB p 28 = true then Trim.trimB Trim.blankB (beforeB 59 s) else beforeB 59 s
    let s2 := if (hasB p 27 && (prefB s1 (⟨#[48, 120]⟩ : ByteArray) || prefB s1 (⟨#[48, 88]⟩ : ByteArray))) = true then s1.extract 2 s1.size else s1
    let r := readB s2 16 body 5
    if r.2 = 23 then (0, 413) else if r.2 = 22 then (0, 400) else (r.1, 0)) := by
    rintro b rfl
    have J1 : ∀ s1 : ByteArray, s1.size ≤ s.size → Ev (fun k => chunk_Size.j1 k (p : Int) s1 u0 u1 u2 body ext u5 u6 u7 u8 u9) (
      let s2 := if (hasB p 27 && (prefB s1 (⟨#[48, 120]⟩ : ByteArray) || prefB s1 (⟨#[48, 88]⟩ : ByteArray))) = true then s1.extract 2 s1.size else s1
      let r := readB s2 16 body 5
      if r.2 = 23 then (0, 413) else if r.2 = 22 then (0, 400) else (r.1, 0)) := by
      intro s1 h1
      have J2 : ∀ b : Bool, (b = true → 2 ≤ s1.size) → Ev (fun k => chunk_Size.j2 k s1 b u0 u1 u2 body ext u5 u6 u7 u8 u9) (
        let s2 := if b = true then s1.extract 2 s1.size else s1
        let r := readB s2 16 body 5
        if r.2 = 23 then (0, 413) else if r.2 = 22 then (0, 400) else (r.1, 0)) := by
        intro b h2
        refine Ev.step (fun _ => chunk_Size.j2.eq_2 ..) ?_
        cases b with
        | false => exact Ev.neg (by simp) (size_j3 s1 (by omega) u0 u1 u2 body ext u5 u6 u7 u8 u9 hb)
        | true =>
          have h2 := h2 rfl
          have hx := Trim.ext_size s1 2 s1.size (Nat.le_refl _)
          exact Ev.pos rfl (Ev.pos (by omega) (size_j3 _ (by omega) u0 u1 u2 body ext u5 u6 u7 u8 u9 hb))
      refine Ev.step (fun _ => chunk_Size.j1.eq_2 ..) (Ev.val (qhas_some p hp 27) ?_)
      cases h27 : hasB p 27 with
      | false => exact Ev.neg (by simp) (J2 false (by simp))
      | true =>
        refine Ev.pos rfl (Ev.val (prefix_some _ _) ?_)
        cases hx : prefB s1 (⟨#[48, 120]⟩ : ByteArray) with
        | true => exact Ev.pos rfl (J2 true (fun _ => pref_size hx))
        | false => exact Ev.neg (by simp) (Ev.val (prefix_some _ _) (J2 _ (fun h => pref_size h)))
    refine Ev.step (fun _ => chunk_Size.j0.eq_2 ..) (Ev.neg (by simp) (Ev.val (qhas_some p hp 28) ?_))
    have ht := trim_size (beforeB 59 s)
    cases h28 : hasB p 28 with
    | true => exact Ev.pos rfl (Ev.val (trim_some (by omega)) (J1 _ (by omega)))
    | false => exact Ev.neg (by simp) (J1 _ hb1)
  have K : ∀ b : Bool, b = true → Ev (fun k => chunk_Size.j0 k (p : Int) (beforeB 59 s) b u0 u1 u2 body ext u5 u6 u7 u8 u9) (0, 400) := by
    rintro b rfl
    exact Ev.step (fun _ => chunk_Size.j0.eq_2 ..) (Ev.pos rfl (Ev.now _))
  by_cases hx : ((restB 59 s).size : Int) > ext
  · rw [if_pos (.inl hx)]; exact Ev.pos hx (K true rfl)
  · refine Ev.neg hx (Ev.bind (own_ev (restB 59 s) [6] (by simp) (by omega)) ?_)
    cases ha : allB (restB 59 s) [6] with
    | false => rw [if_pos (.inr rfl)]; exact K _ rfl
    | true => rw [if_neg (by rintro (h | h); exact hx h; cases h)]; exact J _ rfl
theorem rsize_j5 (s : ByteArray) (hs : s.size < 9223372036854775807) (u0 u1 u2 body u4 u5 u6 u7 : Int) (u8 u9 : Bool) (hb : body ≤ 9223372036854775807) :
    Ev (fun k => parallaxref9_Size.j5 k s u0 u1 u2 body u4 u5 u6 u7 u8 u9) (if (readB s 16 body 5).2 = 23 then (0, 413) else if (readB s 16 body 5).2 = 22 then (0, 400) else ((readB s 16 body 5).1, 0)) := by
  refine Ev.step (fun _ => parallaxref9_Size.j5.eq_2 ..) (Ev.bind (rhexn_ev s body hb hs) ?_)
  by_cases h22 : (readB s 16 body 5).2 = 22
  · exact (Ev.pos h22 (Ev.now _)).to (by rw [if_neg (by omega), if_pos h22])
  · by_cases h23 : (readB s 16 body 5).2 = 23
    · exact (Ev.neg h22 (Ev.pos h23 (Ev.now _))).to (by rw [if_pos h23])
    · exact (Ev.neg h22 (Ev.neg h23 (Ev.now _))).to (by rw [if_neg h23, if_neg h22])
theorem rsize_j1 (s t e : ByteArray) (ht : t.size ≤ s.size) (he : e.size ≤ s.size) (hs : s.size < 4611686018427387904) (p : Nat) (hp : p < 4294967296) (u0 u1 u2 body ext u5 u6 u7 : Int) (u8 u9 : Bool) (hb : body ≤ 9223372036854775807) :
    Ev (fun k => parallaxref9_Size.j1 k (p : Int) t e u0 u1 u2 body ext u5 u6 u7 u8 u9) (if ((e.size : Int) > ext ∨ allB e [6] = false) then (0, 400) else
    let s1 := if hasB p 28 = true then Trim.trimB Trim.blankB t else t
    let s2 := if (hasB p 27 && (prefB s1 (⟨#[48, 120]⟩ : ByteArray) || prefB s1 (⟨#[48, 88]⟩ : ByteArray))) = true then s1.extract 2 s1.size else s1
    let r := readB s2 16 body 5
    if r.2 = 23 then (0, 413) else if r.2 = 22 then (0, 400) else (r.1, 0)) := by
  have J : ∀ b : Bool, b = false → Ev (fun k => parallaxref9_Size.j2 k (p : Int) t b u0 u1 u2 body ext u5 u6 u7 u8 u9) (
    let s1 := if hasB p 28 = true then Trim.trimB Trim.blankB t else t
    let s2 := if (hasB p 27 && (prefB s1 (⟨#[48, 120]⟩ : ByteArray) || prefB s1 (⟨#[48, 88]⟩ : ByteArray))) = true then s1.extract 2 s1.size else s1
    let r := readB s2 16 body 5
    if r.2 = 23 then (0, 413) else if r.2 = 22 then (0, 400) else (r.1, 0)) := by
    rintro b rfl
    have J1 : ∀ s1 : ByteArray, s1.size ≤ s.size → Ev (fun k => parallaxref9_Size.j3 k (p : Int) s1 u0 u1 u2 body ext u5 u6 u7 u8 u9) (
      let s2 := if (hasB p 27 && (prefB s1 (⟨#[48, 120]⟩ : ByteArray) || prefB s1 (⟨#[48, 88]⟩ : ByteArray))) = true then s1.extract 2 s1.size else s1
      let r := readB s2 16 body 5
      if r.2 = 23 then (0, 413) else if r.2 = 22 then (0, 400) else (r.1, 0)) := by
      intro s1 h1
      have J2 : ∀ b : Bool, (b = true → 2 ≤ s1.size) → Ev (fun k => parallaxref9_Size.j4 k s1 b u0 u1 u2 body ext u5 u6 u7 u8 u9) (
        let s2 := if b = true then s1.extract 2 s1.size else s1
        let r := readB s2 16 body 5
        if r.2 = 23 then (0, 413) else if r.2 = 22 then (0, 400) else (r.1, 0)) := by
        intro b h2
        refine Ev.step (fun _ => parallaxref9_Size.j4.eq_2 ..) ?_
        cases b with
        | false => exact Ev.neg (by simp) (rsize_j5 s1 (by omega) u0 u1 u2 body ext u5 u6 u7 u8 u9 hb)
        | true =>
          have h2 := h2 rfl
          have hx := Trim.ext_size s1 2 s1.size (Nat.le_refl _)
          exact Ev.pos rfl (Ev.pos (by omega) (rsize_j5 _ (by omega) u0 u1 u2 body ext u5 u6 u7 u8 u9 hb))
      refine Ev.step (fun _ => parallaxref9_Size.j3.eq_2 ..) (Ev.val (rhas_some p hp 27) ?_)
      cases h27 : hasB p 27 with
      | false => exact Ev.neg (by simp) (J2 false (by simp))
      | true =>
        refine Ev.pos rfl ?_
        have e1 : ∀ t : ByteArray, t.size = 2 → prefB s1 t = ((s1.extract 0 2).toList == t.toList) := by intro t ht; unfold prefB; rw [ht]
        have e2 := e1 (⟨#[48, 120]⟩ : ByteArray) rfl
        have e3 := e1 (⟨#[48, 88]⟩ : ByteArray) rfl
        rw [show (⟨#[48, 120]⟩ : ByteArray).toList = [48, 120] by rw [ByteArray.toList_eq]] at e2
        rw [show (⟨#[48, 88]⟩ : ByteArray).toList = [48, 88] by rw [ByteArray.toList_eq]] at e3
        by_cases hl : (s1.size : Int) > 1
        · refine Ev.pos hl (Ev.pos (by omega) (Ev.pos (by omega) ?_))
          rw [Bool.true_and]
          by_cases hx : (s1.extract 0 2).toList = ([48, 120] : List UInt8)
          · have h1 : prefB s1 (⟨#[48, 120]⟩ : ByteArray) = true := by rw [e2]; exact beq_iff_eq.mpr hx
            rw [h1]
            exact Ev.pos hx (J2 true (fun _ => by omega))
          · have h1 : prefB s1 (⟨#[48, 120]⟩ : ByteArray) = false := by rw [e2]; exact beq_eq_false_iff_ne.mpr hx
            rw [h1, Bool.false_or, e3]
            exact Ev.neg hx (J2 _ (fun _ => by omega))
        · have n1 : ∀ t : ByteArray, t.size = 2 → prefB s1 t = false := by
            intro t ht
            rw [Bool.eq_false_iff]; intro h; have := pref_size h; omega
          rw [n1 _ rfl, n1 _ rfl]
          exact Ev.neg hl (J2 false (by simp))
    refine Ev.step (fun _ => parallaxref9_Size.j2.eq_2 ..) (Ev.neg (by simp) (Ev.val (rhas_some p hp 28) ?_))
    have ht2 := trim_size t
    cases h28 : hasB p 28 with
    | true => exact Ev.pos rfl (Ev.bind (rtrim_ev t (by omega)) (J1 _ (by omega)))
    | false => exact Ev.neg (by simp) (J1 _ ht)
  have K : ∀ b : Bool, b = true → Ev (fun k => parallaxref9_Size.j2 k (p : Int) t b u0 u1 u2 body ext u5 u6 u7 u8 u9) (0, 400) := by
    rintro b rfl
    exact Ev.step (fun _ => parallaxref9_Size.j2.eq_2 ..) (Ev.pos rfl (Ev.now _))
  refine Ev.step (fun _ => parallaxref9_Size.j1.eq_2 ..) ?_
  by_cases hx : (e.size : Int) > ext
  · rw [if_pos (.inl hx)]; exact Ev.pos hx (K true rfl)
  · refine Ev.neg hx (Ev.bind (rall_ev e [6] (by simp) (by simp) (by omega)) ?_)
    cases ha : allB e [6] with
    | false => rw [if_pos (.inr rfl)]; exact K _ rfl
    | true => rw [if_neg (by rintro (h | h); exact hx h; cases h)]; exact J _ rfl
theorem rsize_l0 (s : ByteArray) (hs : s.size < 4611686018427387904) (p : Nat) (hp : p < 4294967296) (u0 u1 u2 body ext u5 u6 u7 : Int) (u8 u9 : Bool) (hb : body ≤ 9223372036854775807) (d : Nat) : ∀ i : Nat, i + d = s.size → (∀ j, j < i → bt s (j : Int) ≠ ((59 : UInt8).toNat : Int)) →
    Ev (fun k => parallaxref9_Size.l0 k s (p : Int) s (⟨#[]⟩ : ByteArray) (i : Int) u0 u1 u2 body ext u5 u6 u7 u8 u9) (sizeB s p body ext) := by
  induction d with
  | zero =>
    intro i hi hno
    obtain ⟨c1, c2, _, _⟩ := cut_no 59 s (fun j hj => hno j (by omega))
    unfold sizeB
    rw [c1, c2]
    refine Ev.step (fun _ => parallaxref9_Size.l0.eq_2 ..) (Ev.neg (by omega) ?_)
    exact rsize_j1 s s (BA []) (Nat.le_refl _) (Nat.zero_le _) hs p hp u0 u1 u2 body ext u5 u6 u7 u8 u9 hb
  | succ d ih =>
    intro i hi hno
    refine Ev.step (fun _ => parallaxref9_Size.l0.eq_2 ..) (Ev.pos (by omega) (Ev.pos (by omega) ?_))
    by_cases hc : bt s (i : Int) = 59
    · obtain ⟨c1, c2, _, _⟩ := cut_yes 59 s i (by omega) hc hno
      refine Ev.pos hc (Ev.pos (by omega) ?_)
      rw [Int.toNat_natCast, ← c1, ← c2]
      exact rsize_j1 s _ _ (before_size _ _) (rest_size _ _) hs p hp u0 u1 u2 body ext u5 u6 u7 u8 u9 hb
    · refine Ev.neg hc ?_
      rw [wrap_nat (by omega)]
      exact ih (i + 1) (by omega) (fun j hj => by
        by_cases e : j = i
        · subst e; exact hc
        · exact hno j (by omega))
theorem rsize_ev (s : ByteArray) (hs : s.size < 4611686018427387904) (p : Nat) (hp : p < 4294967296) (u0 u1 u2 body ext u5 u6 u7 : Int) (u8 u9 : Bool) (hb : body ≤ 9223372036854775807) :
    Ev (fun k => parallaxref9_Size.f k s (p : Int) u0 u1 u2 body ext u5 u6 u7 u8 u9) (sizeB s p body ext) := by
  unfold parallaxref9_Size.f
  exact rsize_l0 s hs p hp u0 u1 u2 body ext u5 u6 u7 u8 u9 hb s.size 0 (by omega) (fun j hj => by omega)
theorem known_ev : Ev (fun k => parallaxlaw11_known.f k) true := Ev.of (fun k => parallaxlaw11_known.mono k) (k := 40) (by decide +kernel)
end Go.Proofs.YtihcmknbdjmcdaaDoor.PChunkTells
