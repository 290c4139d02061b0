/- What the printed functions of the text layer come to. -/
import Derived.Test.YtclaaacdmaeblaaDoorPRequestExtendsx
import Derived.Test.YtclaaacdmaeblaaDoorParts
import Derived.Test.YtclaaacdmaeblaaDoorLowP
import Derived.Test.YtclaaacdmaeblaaDoorTrimP
import Derived.Test.YtclaaacdmaeblaaDoorHex
import Derived.Lib.ItoaLen
namespace Go.Proofs.YtclaaacdmaeblaaDoor.PRequestExtends
open Go.RowKit Go.Proofs.YtclaaacdmaeblaaDoorW.PrintWords Go.Proofs.YtclaaacdmaeblaaDoorW.PrintLast Go.Proofs.YtclaaacdmaeblaaDoorW.PrintMore Go.Proofs.YtclaaacdmaeblaaDoor.Aid Go.Proofs.YtclaaacdmaeblaaDoor.Parts
set_option linter.unusedVariables false
set_option linter.unusedSimpArgs false
theorem rdOf_mem (l : List ByteArray) (j : Nat) (h : j < l.length) : rdOf ByteArray.empty l (j : Int) ∈ l := by
  unfold rdOf; simp [List.getD_eq_getElem?_getD, h]
theorem set_take (a : List ByteArray) (i : Nat) (x : ByteArray) (h : i < a.length) : (a.set i x).take (i + 1) = a.take i ++ [x] := by
  rw [List.take_succ_eq_append_getElem (by simpa using h), List.getElem_set_self, List.take_set_of_le (Nat.le_refl _)]
theorem BA_one (c : UInt8) : (BA [c]).size = 1 := rfl
theorem wrap_one (j : Nat) (c : UInt8) (h : j < 9223372036854775807) : wrap64 ((j : Int) + ((BA [c]).size : Int)) = ((j + 1 : Nat) : Int) := by
  rw [show ((BA [c]).size : Int) = 1 by rw [BA_one]; rfl]; exact wrap_nat h
theorem genSplit_ev (c : UInt8) (m : Nat) : ∀ (s : ByteArray) (a : List ByteArray) (i n : Nat), s.size ≤ 1000000000000 → s.data.toList.count c = m → n = i + m → a.length = n + 1 → n ≤ 1000000000001 →
    Ev (fun k => strings_genSplit.l0 k s (BA [c]) 0 (n : Int) a (i : Int)) (a.take i ++ parts c s) := by
  induction m with
  | zero =>
    intro s a i n hs hc hn ha hb
    have hp : parts c s = [s] := parts_no c s (by
      rcases Int.lt_or_le (Lib.indexByte s.data.toList c) 0 with x | x
      · exact x
      · have := (index_nil_iff c _).mp x
        have := List.count_pos_iff.mpr this
        omega)
    have hw : wrap64 ((i : Int) + 1) = ((i + 1 : Nat) : Int) := wrap_nat (by omega)
    refine Ev.step (fun _ => strings_genSplit.l0.eq_2 ..) (Ev.neg (by omega) (Ev.pos (by omega) (Ev.pos (by omega) ?_)))
    rw [hw]
    refine Ev.pos (by omega) (Ev.pos (by omega) ((Ev.now _).to ?_))
    rw [hp, Int.toNat_natCast, Int.toNat_natCast, set_take _ _ _ (by omega)]
  | succ m ih =>
    intro s a i n hs hc hn ha hb
    have hidx : 0 ≤ Lib.indexByte s.data.toList c := (index_nil_iff c _).mpr (List.count_pos_iff.mp (by omega))
    obtain ⟨j, hj, hjs, hp, hcnt⟩ := parts_yes c s hidx
    have hI : strings_Index.f s (BA [c]) = some (j : Int) := by
      unfold strings_Index.f; rw [if_pos (BA_one c), data_BA]
      show some (Lib.indexByte s.data.toList c) = _
      rw [hj]
    refine Ev.step (fun _ => strings_genSplit.l0.eq_2 ..) (Ev.pos (by omega) (Ev.val hI (Ev.neg (by omega) ?_)))
    have hi9 : i < 9223372036854775807 := by omega
    have hj9 : j < 9223372036854775807 := by omega
    rw [show wrap64 ((j : Int) + 0) = ((j : Nat) : Int) by rw [Int.add_zero]; exact wrap_in (by omega) (by omega), wrap_one j c hj9, wrap_nat hi9]
    refine Ev.pos (by omega) (Ev.pos (by omega) (Ev.pos (by omega) (Ev.pos (by omega) (Ev.pos (by omega) (Ev.pos (by omega) ?_)))))
    rw [Int.toNat_natCast, Int.toNat_natCast, Int.toNat_natCast]
    have hx : (s.extract (j + 1) s.size).size ≤ 1000000000000 := by rw [Trim.ext_size _ _ _ (Nat.le_refl _)]; omega
    refine (ih (s.extract (j + 1) s.size) (a.set i (s.extract 0 j)) (i + 1) n hx (by omega) (by omega) (by rw [List.length_set]; exact ha) hb).to ?_
    rw [hp, set_take _ _ _ (by omega), List.append_assoc, List.singleton_append]
theorem split_ev (c : UInt8) (s : ByteArray) (hs : s.size ≤ 1000000000000) : Ev (fun k => strings_Split.f k s (BA [c])) (parts c s) := by
  have hcs := count_le_size c s
  have hC : strings_Count.f s (BA [c]) = some ((s.data.toList.count c : Nat) : Int) := by
    unfold strings_Count.f; rw [if_pos (BA_one c), data_BA]; rfl
  unfold strings_Split.f strings_genSplit.f
  refine Ev.bind (a := parts c s) ?_ (Ev.now _)
  refine Ev.neg (by omega) (Ev.neg (by rw [toList_BA]; simp) (Ev.pos (by omega) (Ev.val hC ?_)))
  rw [wrap_nat (by omega)]
  refine Ev.step (fun _ => strings_genSplit.j0.eq_2 ..) ?_
  have hm : mn ((s.data.toList.count c + 1 : Nat) : Int) (wrap64 ((s.size : Int) + 1)) = ((s.data.toList.count c + 1 : Nat) : Int) := by
    rw [wrap_nat (by omega)]; unfold mn; rw [if_neg (by omega)]
  rw [hm, show wrap64 (((s.data.toList.count c + 1 : Nat) : Int) - 1) = ((s.data.toList.count c : Nat) : Int) by rw [wrap_in (by omega) (by omega)]; omega, Int.toNat_natCast]
  refine Ev.pos (by omega) (Ev.pos (by omega) ?_)
  exact (genSplit_ev c (s.data.toList.count c) s _ 0 (s.data.toList.count c) hs rfl (by omega) (by simp) (by omega)).to (by simp)
theorem trim_some {s : ByteArray} (h : s.size ≤ 9223372036854775807) : text_Trim.f s = some (Trim.trimB Trim.blankB s) := by unfold text_Trim.f; rw [if_pos h]
theorem same_some {a b : ByteArray} (h : a.size ≤ 9223372036854775807) (h' : b.size ≤ 9223372036854775807) : text_Same.f a b = some (Hand.sameB a b) := by unfold text_Same.f; rw [if_pos ⟨h, h'⟩]
def ofB (c kind : Int) : Bool := (octet_of.f c kind).getD false
def allB (s : ByteArray) (l : List Int) : Bool := (bytesOf s).all fun c => l.any (ofB c)
theorem of_k (kind : Fin 8) : ∀ n : Fin 256, octet_of.f (n.val : Int) (kind.val : Int) = some (ofB (n.val : Int) (kind.val : Int)) := by
  revert kind; decide +kernel
theorem of_far {c kind : Int} (h : ¬ (1 ≤ kind ∧ kind ≤ 6)) : octet_of.f c kind = some false := by
  unfold octet_of.f
  rw [if_neg (by omega), if_neg (by omega), if_neg (by omega), if_neg (by omega), if_neg (by omega), if_neg (by omega)]
theorem of_some {c : Int} (h0 : 0 ≤ c) (h1 : c < 256) (kind : Int) : octet_of.f c kind = some (ofB c kind) := by
  by_cases hk : 0 ≤ kind ∧ kind < 8
  · have := byte_all (p := fun c => octet_of.f c kind = some (ofB c kind)) (fun n => by
      have := of_k ⟨kind.toNat, by omega⟩ n
      rwa [show ((⟨kind.toNat, by omega⟩ : Fin 8).val : Int) = kind by simp; omega] at this) h0 h1
    exact this
  · have := of_far (c := c) (kind := kind) (by omega)
    unfold ofB; rw [this]; rfl
theorem own_in (s : ByteArray) (l : List Int) (hl : l.length < 9223372036854775807) (hs : s.size < 9223372036854775807) (i : Nat) (hi : i < s.size) (R : Bool)
    (hR : Ev (fun k => octet_All.l0 k s l (s.size : Int) ((i + 1 : Nat) : Int)) R) (d : Nat) : ∀ (j : Nat) (b : Bool), j + d = l.length →
    Ev (fun k => octet_All.l1 k s l (i : Int) b (s.size : Int) (i : Int) l (l.length : Int) (j : Int)) (if (b || (l.drop j).any (ofB (bt s (i : Int)))) = true then R else false) := by
  induction d with
  | zero =>
    intro j b hj
    refine Ev.step (fun _ => octet_All.l1.eq_2 ..) (Ev.neg (by omega) ?_)
    rw [List.drop_of_length_le (by omega), List.any_nil, Bool.or_false, wrap_nat (by omega)]
    exact Ev.cond (fun _ => hR) (fun _ => Ev.now _)
  | succ d ih =>
    intro j b hj
    have hw : wrap64 ((j : Int) + 1) = ((j + 1 : Nat) : Int) := wrap_nat (by omega)
    refine Ev.step (fun _ => octet_All.l1.eq_2 ..) (Ev.pos (by omega) (Ev.pos (by omega) (Ev.pos (by omega) ?_)))
    rw [drop_rd l j (by omega), List.any_cons, hw]
    cases b with
    | true => exact Ev.pos rfl ((ih (j + 1) true (by omega)).to (by simp))
    | false =>
      refine Ev.neg (by simp) (Ev.pos (by omega) (Ev.pos (by omega) ?_))
      have := bt_lt s (i : Int)
      exact Ev.val (of_some this.1 this.2 _) ((ih (j + 1) _ (by omega)).to (by rw [Bool.false_or]))
theorem own_out (s : ByteArray) (l : List Int) (hl : l.length < 9223372036854775807) (hs : s.size < 9223372036854775807) (d : Nat) : ∀ (i : Nat), i + d = s.size →
    Ev (fun k => octet_All.l0 k s l (s.size : Int) (i : Int)) (((bytesOf s).drop i).all fun c => l.any (ofB c)) := by
  induction d with
  | zero =>
    intro i hi
    refine Ev.step (fun _ => octet_All.l0.eq_2 ..) (Ev.neg (by omega) ?_)
    rw [List.drop_of_length_le (by rw [bytesOf_length]; omega)]; exact Ev.now _
  | succ d ih =>
    intro i hi
    refine Ev.step (fun _ => octet_All.l0.eq_2 ..) (Ev.pos (by omega) ?_)
    refine (own_in s l hl hs i (by omega) _ (ih (i + 1) (by omega)) l.length 0 false (by omega)).to ?_
    rw [drop_bytes s i (by omega), List.all_cons, List.drop_zero, Bool.false_or]
    cases l.any (ofB (bt s (i : Int))) <;> simp
theorem own_ev (s : ByteArray) (l : List Int) (hl : l.length < 9223372036854775807) (hs : s.size < 9223372036854775807) : Ev (fun k => octet_All.f k s l) (allB s l) :=
  (own_out s l hl hs s.size 0 (by omega)).to (by rw [List.drop_zero]; rfl)
def hexV (c : Int) : Int := ((octet_Hex.f c).getD (0, false)).1
def valA (b : Int) (n : Int) (l : List Int) : Int := l.foldl (fun n d => n * b + d) n
theorem hex_all : ∀ n : Fin 256, octet_Hex.f (n.val : Int) = some (hexV (n.val : Int), ((octet_Hex.f (n.val : Int)).getD (0, false)).2) ∧ 0 ≤ hexV (n.val : Int) ∧ hexV (n.val : Int) ≤ 15 := by decide +kernel
theorem hex_at {c : Int} (h : 0 ≤ c ∧ c < 256) : octet_Hex.f c = some (hexV c, ((octet_Hex.f c).getD (0, false)).2) ∧ 0 ≤ hexV c ∧ hexV c ≤ 15 :=
  byte_all (p := fun c => octet_Hex.f c = some (hexV c, ((octet_Hex.f c).getD (0, false)).2) ∧ 0 ≤ hexV c ∧ hexV c ≤ 15) hex_all h.1 h.2
theorem valA_ge {b : Int} (hb : 1 ≤ b) (l : List Int) : ∀ n : Int, 0 ≤ n → (∀ d ∈ l, 0 ≤ d) → n ≤ valA b n l := by
  induction l with
  | nil => intro n _ _; exact Int.le_refl _
  | cons d l ih =>
    intro n hn hd
    have h0 := hd d (by simp)
    have h1 : n ≤ n * b := by have := Int.mul_le_mul_of_nonneg_left hb hn; rwa [Int.mul_one] at this
    have := ih (n * b + d) (by omega) (fun x hx => hd x (by simp [hx]))
    show n ≤ valA b (n * b + d) l
    omega
theorem vals_nonneg (s : ByteArray) (i : Nat) : ∀ d ∈ ((bytesOf s).map hexV).drop i, 0 ≤ d := by
  intro d hd
  obtain ⟨c, hc, rfl⟩ := List.mem_map.mp (List.mem_of_mem_drop hd)
  exact (hex_at (bytes_lt s hc)).2.1
theorem read_loop (s : ByteArray) (b most : Int) (hb : 2 ≤ b) (hb2 : b ≤ 16) (hm : most ≤ 9223372036854775807) (hs : s.size < 9223372036854775807) (d : Nat) : ∀ (i : Nat) (n : Int), i + d = s.size → 0 ≤ n → n ≤ most →
    Ev (fun k => number_read.l0 k s b most n (s.size : Int) (i : Int)) (if valA b n (((bytesOf s).map hexV).drop i) ≤ most then (valA b n (((bytesOf s).map hexV).drop i), 0) else (0, 23)) := by
  induction d with
  | zero =>
    intro i n hi h0 h1
    refine Ev.step (fun _ => number_read.l0.eq_2 ..) (Ev.neg (by omega) ((Ev.now _).to ?_))
    rw [List.drop_of_length_le (by rw [List.length_map, bytesOf_length]; omega)]
    exact (if_pos h1).symm
  | succ d ih =>
    intro i n hi h0 h1
    have h9 : i < 9223372036854775807 := by omega
    have hlt : i < ((bytesOf s).map hexV).length := by rw [List.length_map, bytesOf_length]; omega
    have hbt := bt_lt s (i : Int)
    obtain ⟨e1, e2, e3⟩ := hex_at hbt
    have hdrop : ((bytesOf s).map hexV).drop i = hexV (bt s (i : Int)) :: ((bytesOf s).map hexV).drop (i + 1) := by
      rw [← List.map_drop, drop_bytes s i (by omega), List.map_cons, List.map_drop]
    rw [hdrop]
    have hnn := vals_nonneg s (i + 1)
    refine Ev.step (fun _ => number_read.l0.eq_2 ..) (Ev.pos (by omega) (Ev.pos (by omega) (Ev.pos (by omega) (Ev.val e1 ?_))))
    show Ev (fun k => if hexV (bt s (i : Int)) > most then _ else _) (if valA b (n * b + hexV (bt s (i : Int))) (((bytesOf s).map hexV).drop (i + 1)) ≤ most then _ else _)
    rw [wrap_nat h9]
    generalize hexV (bt s (i : Int)) = v at e2 e3 ⊢
    have ih' := fun (n : Int) (h0 : 0 ≤ n) (h1 : n ≤ most) => ih (i + 1) n (by omega) h0 h1
    clear ih
    generalize ((bytesOf s).map hexV).drop (i + 1) = l at hnn ih' ⊢
    have hge := valA_ge (b := b) (by omega) l (n * b + v) (by have := Int.mul_nonneg h0 (show 0 ≤ b by omega); omega) hnn
    have hnb := Int.mul_nonneg h0 (show 0 ≤ b by omega)
    by_cases hv : v > most
    · exact Ev.pos hv ((Ev.now _).to (if_neg (by omega)).symm)
    · refine Ev.neg hv (Ev.neg (by omega) ?_)
      have hw1 : wrap64 (most - v) = most - v := wrap_in (by omega) (by omega)
      have hq : Int.tdiv (most - v) b = (most - v) / b := Int.tdiv_eq_ediv_of_nonneg (by omega)
      have hq2 : (most - v) / b ≤ most - v := Int.ediv_le_self _ (by omega)
      have hq3 : 0 ≤ (most - v) / b := Int.ediv_nonneg (by omega) (by omega)
      have hw2 : wrap64 ((most - v) / b) = (most - v) / b := wrap_in (by omega) (by omega)
      rw [hw1, hq, hw2]
      clear hw1 hw2 hq
      have hiff := Int.ediv_lt_iff_lt_mul (a := most - v) (b := n) (c := b) (by omega)
      clear hq2 hq3
      by_cases hc : n > (most - v) / b
      · have := hiff.mp hc
        exact Ev.pos hc ((Ev.now _).to (if_neg (by omega)).symm)
      · have h2 : ¬ most - v < n * b := fun h => hc (hiff.mpr h)
        clear hiff
        refine Ev.neg hc ?_
        have hw3 : wrap64 (n * b) = n * b := wrap_in (by omega) (by omega)
        rw [hw3]
        clear hw3
        have hw4 : wrap64 (n * b + v) = n * b + v := wrap_in (by omega) (by omega)
        rw [hw4]
        exact ih' (n * b + v) (by omega) (by omega)
def readB (s : ByteArray) (b most kind : Int) : Int × Int := if bytesOf s = [] ∨ allB s [kind] = false then (0, 22) else if valA b 0 ((bytesOf s).map hexV) ≤ mx most 0 then (valA b 0 ((bytesOf s).map hexV), 0) else (0, 23)
theorem bytes_nil (s : ByteArray) : s.toList = ([] : List UInt8) ↔ bytesOf s = [] := by rw [ByteArray.toList_eq]; unfold bytesOf; simp
theorem read_ev (s : ByteArray) (b most kind : Int) (hb : 2 ≤ b) (hb2 : b ≤ 16) (hm : most ≤ 9223372036854775807) (hs : s.size < 9223372036854775807) : Ev (fun k => number_read.f k s b most kind) (readB s b most kind) := by
  unfold number_read.f readB
  by_cases h : s.toList = ([] : List UInt8)
  · rw [if_pos (.inl ((bytes_nil s).mp h))]
    exact Ev.pos h (Ev.step (fun _ => number_read.j0.eq_2 ..) (Ev.pos rfl (Ev.now _)))
  · refine Ev.neg h (Ev.bind (own_ev s [kind] (by simp) hs) (Ev.step (fun _ => number_read.j0.eq_2 ..) ?_))
    have h' : ¬ bytesOf s = [] := fun e => h ((bytes_nil s).mpr e)
    cases ha : allB s [kind] with
    | false => rw [if_pos (.inr rfl)]; exact Ev.pos rfl (Ev.now _)
    | true =>
      rw [if_neg (by simp [h'])]
      have h0 : 0 ≤ mx most 0 := by unfold mx; split <;> omega
      have h1 : mx most 0 ≤ 9223372036854775807 := by unfold mx; split <;> omega
      exact Ev.neg (by simp) ((read_loop s b (mx most 0) hb hb2 h1 hs s.size 0 0 (by omega) (by omega) h0).to (by rw [List.drop_zero]))
theorem dec_ev (s : ByteArray) (most : Int) (hm : most ≤ 9223372036854775807) (hs : s.size < 9223372036854775807) : Ev (fun k => number_Dec.f k s most) (readB s 10 most 4) := by
  unfold number_Dec.f; exact Ev.bind (read_ev s 10 most 4 (by omega) (by omega) hm hs) (Ev.now _)
def someB (p : List ByteArray) (acc : ByteArray) (l : List Int) : ByteArray := l.foldl (fun a x => a ++ p.getD (x.toNat % p.length) ByteArray.empty) acc
theorem someB_size (p : List ByteArray) (m : Nat) (hm : ∀ x ∈ p, x.size ≤ m) (l : List Int) : ∀ acc, (someB p acc l).size ≤ acc.size + m * l.length := by
  induction l with
  | nil => intro acc; exact Nat.le_add_right _ _
  | cons x l ih =>
    intro acc
    have := ih (acc ++ p.getD (x.toNat % p.length) ByteArray.empty)
    have hp : (p.getD (x.toNat % p.length) ByteArray.empty).size ≤ m := by
      rw [List.getD_eq_getElem?_getD]
      cases h : p[x.toNat % p.length]? with
      | none => exact Nat.zero_le _
      | some y => exact hm y (List.mem_of_getElem? h)
    rw [ByteArray.size_append] at this
    show (someB p (acc ++ p.getD (x.toNat % p.length) ByteArray.empty) l).size ≤ _
    rw [List.length_cons, Nat.mul_succ]; omega
theorem some_loop (p : List ByteArray) (m : Nat) (hp0 : 0 < p.length) (hp1 : p.length ≤ 1000) (hm : ∀ x ∈ p, x.size ≤ m) (l : List Int) (hl : l.length ≤ 1000000) (hw : ∀ x ∈ l, 0 ≤ x ∧ x < 256) (d : Nat) : ∀ (i : Nat) (acc : ByteArray), i + d = l.length → acc.size + m * d ≤ 9223372036854775807 →
    Ev (fun k => parallaxlaw8_some.l0 k l p acc (i : Int)) (someB p acc (l.drop i)) := by
  induction d with
  | zero =>
    intro i acc hi ha
    refine Ev.step (fun _ => parallaxlaw8_some.l0.eq_2 ..) (Ev.neg (by omega) ((Ev.now _).to ?_))
    rw [List.drop_of_length_le (by omega)]; rfl
  | succ d ih =>
    intro i acc hi ha
    have h9 : i < 9223372036854775807 := by omega
    have hx := hw (rd l (i : Int)) (by rw [rd_nat, List.getD_eq_getElem?_getD, List.getElem?_eq_getElem (by omega : i < l.length)]; exact List.getElem_mem _)
    rw [drop_rd l i (by omega)]
    have hq : Int.tmod (wrap64 (rd l (i : Int))) (p.length : Int) = (((rd l (i : Int)).toNat % p.length : Nat) : Int) := by
      rw [wrap_in (by omega) (by omega), Int.tmod_eq_emod_of_nonneg (by omega)]
      have e : rd l (i : Int) = (((rd l (i : Int)).toNat : Nat) : Int) := by omega
      rw [e, ← Int.natCast_emod, Int.toNat_natCast]
    have hmod : (rd l (i : Int)).toNat % p.length < p.length := Nat.mod_lt _ hp0
    refine Ev.step (fun _ => parallaxlaw8_some.l0.eq_2 ..) (Ev.pos (by omega) (Ev.pos (by omega) (Ev.neg (by omega) ?_)))
    rw [hq, wrap_nat h9]
    have he : rdOf ByteArray.empty p (((rd l (i : Int)).toNat % p.length : Nat) : Int) = p.getD ((rd l (i : Int)).toNat % p.length) ByteArray.empty := rfl
    have hs := hm _ (rdOf_mem p _ hmod)
    rw [he] at hs
    rw [he]
    rw [Nat.mul_succ] at ha
    refine Ev.pos (by omega) (Ev.pos (by omega) (Ev.pos (by omega) ?_))
    exact ih (i + 1) _ (by omega) (by rw [ByteArray.size_append]; omega)
def someP : List ByteArray := ([(⟨#[71, 69, 84]⟩ : ByteArray), (⟨#[32]⟩ : ByteArray), (⟨#[32, 32]⟩ : ByteArray), (⟨#[9]⟩ : ByteArray), (⟨#[47]⟩ : ByteArray), (⟨#[47, 97]⟩ : ByteArray), (⟨#[72, 84, 84, 80, 47, 49, 46, 49]⟩ : ByteArray), (⟨#[72, 84, 84, 80, 47, 49, 46, 48]⟩ : ByteArray), (⟨#[104, 116, 116, 112, 47, 49, 46, 49]⟩ : ByteArray), (⟨#[72, 84, 84, 80, 47, 49, 46, 57]⟩ : ByteArray), (⟨#[120]⟩ : ByteArray), (⟨#[1]⟩ : ByteArray), (⟨#[195, 169]⟩ : ByteArray), (⟨#[72, 84, 84, 80, 47, 50, 46, 48]⟩ : ByteArray), (⟨#[47, 97, 32, 98]⟩ : ByteArray)] : List ByteArray)
theorem some_ev (l : List Int) (hl : l.length ≤ 1000000) (hw : ∀ x ∈ l, 0 ≤ x ∧ x < 256) : Ev (fun k => parallaxlaw8_some.f k l) (someB someP ByteArray.empty l) := by
  unfold parallaxlaw8_some.f
  refine (some_loop someP 8 (by decide) (by decide) (by decide) l hl hw l.length 0 ByteArray.empty (by omega) ?_).to (by rw [List.drop_zero])
  show 0 + 8 * l.length ≤ _; omega
theorem some_size (l : List Int) : (someB someP ByteArray.empty l).size ≤ 8 * l.length := by
  have := someB_size someP 8 (by decide) l ByteArray.empty
  simpa using this
theorem bits_and32 (a b : Nat) (ha : a < 4294967296) (hb : b < 4294967296) : Go.bits .and .u32 (a : Int) (b : Int) = ((a &&& b : Nat) : Int) :=
  (Go.bits_nat .u32 32 (by decide) (fun n h0 h1 => by rw [IntKind.wrap_u32]; omega) a b ha hb).1
theorem bits_shr32 (a c : Nat) (hc : c ≤ 32) : shr .u32 (a : Int) (c : Int) = ((a >>> c : Nat) : Int) := by
  unfold shr
  rw [Int.toNat_natCast, show min c IntKind.u32.bits = c from Nat.min_eq_left hc, Nat.shiftRight_eq_div_pow]
  simp
theorem shr_le (a c : Nat) : a >>> c ≤ a := by rw [Nat.shiftRight_eq_div_pow]; exact Nat.div_le_self _ _
theorem bit_at (a c : Nat) (ha : a < 4294967296) (hc : c ≤ 32) : (Go.bits .and .u32 (shr .u32 (a : Int) (c : Int)) 1 == 1) = a.testBit c := by
  have := shr_le a c
  rw [bits_shr32 a c hc, show (1 : Int) = ((1 : Nat) : Int) from rfl, bits_and32 _ _ (by omega) (by omega)]
  unfold Nat.testBit
  rw [Nat.and_comm]
  have h : 1 &&& (a >>> c) = 0 ∨ 1 &&& (a >>> c) = 1 := by rw [Nat.and_comm, Nat.and_one_is_mod]; omega
  rcases h with h | h <;> rw [h] <;> rfl
def hasB (n : Nat) (c : Int) : Bool := decide (0 ≤ c ∧ c < 30) && n.testBit c.toNat
theorem hasB_far {n : Nat} {c : Int} (h : ¬ (0 ≤ c ∧ c < 30)) : hasB n c = false := by unfold hasB; rw [decide_eq_false h]; rfl
theorem hasB_nat (n c : Nat) (h : c < 30) : hasB n (c : Int) = n.testBit c := by unfold hasB; rw [decide_eq_true (by omega)]; simp
theorem mask30 (a : Nat) : a &&& 1073741823 = a % 1073741824 := Nat.and_two_pow_sub_one_eq_mod a 30
theorem bits_mask32 (a : Nat) (ha : a < 4294967296) : Go.bits .and .u32 (a : Int) 1073741823 = ((a % 1073741824 : Nat) : Int) := by
  rw [← mask30]; exact bits_and32 a 1073741823 ha (by decide)
theorem qknown (c : Int) : quirks_known.f c = some (decide (0 ≤ c ∧ c < 30)) := by
  unfold quirks_known.f
  by_cases h : c ≥ 0
  · rw [if_pos h]; congr 1; simp; omega
  · rw [if_neg h]; congr 1; simp; omega
theorem qhas_some (n : Nat) (hn : n < 4294967296) (c : Int) : quirks_Has.f (n : Int) c = some (hasB n c) := by
  unfold quirks_Has.f
  rw [qknown, Option.bind_some]
  by_cases h : 0 ≤ c ∧ c < 30
  · obtain ⟨m, rfl⟩ : ∃ m : Nat, c = (m : Int) := ⟨c.toNat, by omega⟩
    rw [if_pos (decide_eq_true h), if_pos h.1, bit_at n m hn (by omega), hasB_nat n m (by omega)]
  · rw [if_neg (by simpa using h), hasB_far h]
theorem take_at (c : UInt8) (a r : List UInt8) (h : c ∉ a) : (a ++ c :: r).takeWhile (· != c) = a ∧ (a ++ c :: r).dropWhile (· != c) = c :: r := by
  induction a with
  | nil => simp
  | cons b a ih =>
    have hb : (b != c) = true := by simp only [bne_iff_ne]; intro e; exact h (by simp [e])
    obtain ⟨h1, h2⟩ := ih (fun hm => h (by simp [hm]))
    rw [List.cons_append, List.takeWhile_cons, List.dropWhile_cons, if_pos hb, if_pos hb, h1, h2]
    exact ⟨rfl, rfl⟩
theorem take_no (c : UInt8) (l : List UInt8) (h : c ∉ l) : l.takeWhile (· != c) = l ∧ l.dropWhile (· != c) = [] := by
  induction l with
  | nil => simp
  | cons b a ih =>
    have hb : (b != c) = true := by simp only [bne_iff_ne]; intro e; exact h (by simp [e])
    obtain ⟨h1, h2⟩ := ih (fun hm => h (by simp [hm]))
    rw [List.takeWhile_cons, List.dropWhile_cons, if_pos hb, if_pos hb, h1, h2]
    exact ⟨rfl, rfl⟩
def beforeB (c : UInt8) (s : ByteArray) : ByteArray := BA (s.data.toList.takeWhile (· != c))
def afterB (c : UInt8) (s : ByteArray) : ByteArray := BA ((s.data.toList.dropWhile (· != c)).drop 1)
def hasC (c : UInt8) (s : ByteArray) : Bool := decide (c ∈ s.data.toList)
theorem before_size (c : UInt8) (s : ByteArray) : (beforeB c s).size ≤ s.size := by
  unfold beforeB; rw [size_BA, ← data_length s]; exact (List.takeWhile_sublist _).length_le
theorem after_size (c : UInt8) (s : ByteArray) : (afterB c s).size ≤ s.size := by
  unfold afterB; rw [size_BA, ← data_length s, List.length_drop]; have := (List.dropWhile_sublist (l := s.data.toList) (· != c)).length_le; omega
theorem cut_some (c : UInt8) (s : ByteArray) (hs : s.size < 4611686018427387904) : strings_Cut.f s (BA [c]) = some (beforeB c s, afterB c s, hasC c s) := by
  have h1 : (BA [c]).size = 1 := rfl
  have hI : stringslite_Index.f s (BA [c]) = some (Lib.indexByte s.data.toList c) := by
    unfold stringslite_Index.f; rw [if_pos h1, data_BA]; rfl
  unfold strings_Cut.f stringslite_Cut.f
  rw [hI, Option.bind_some]
  rcases Int.lt_or_le (Lib.indexByte s.data.toList c) 0 with x | x
  · have hn := index_no c _ x
    obtain ⟨t1, t2⟩ := take_no c _ hn
    rw [if_neg (by omega), Option.bind_some]
    unfold beforeB afterB hasC
    rw [t1, t2, decide_eq_false hn, BA_data]; rfl
  · obtain ⟨a, r, e, hn, hi⟩ := index_yes c _ x
    obtain ⟨t1, t2⟩ := take_at c a r hn
    have hsz : s.size = a.length + (r.length + 1) := by rw [← data_length s, e]; simp
    have hw : wrap64 (Lib.indexByte s.data.toList c + ((BA [c]).size : Int)) = ((a.length + 1 : Nat) : Int) := by
      rw [hi, h1]; exact wrap_nat (by omega)
    rw [if_pos x, if_pos x, hw, hi, if_pos (by omega), if_pos (by omega), if_pos (by omega), Option.bind_some]
    unfold beforeB afterB hasC
    rw [e, t1, t2, decide_eq_true (by simp), Int.toNat_natCast, Int.toNat_natCast]
    have e1 : s.extract 0 a.length = BA a := by rw [ext_BA, e]; simp
    have e2 : s.extract (a.length + 1) s.size = BA r := by
      rw [ext_BA, e, show (a ++ c :: r).drop (a.length + 1) = r by simp, List.take_of_length_le (by omega)]
    rw [e1, e2]; rfl
def prefB (s t : ByteArray) : Bool := (s.extract 0 t.size).toList == t.toList
theorem prefix_some (s t : ByteArray) : strings_HasPrefix.f s t = some (prefB s t) := by
  unfold strings_HasPrefix.f stringslite_HasPrefix.f prefB
  by_cases h : (s.size : Int) ≥ (t.size : Int)
  · rw [if_pos h, if_pos (by omega), if_pos (by omega), Option.bind_some]
  · rw [if_neg h, Option.bind_some]
    congr 1
    symm
    rw [beq_eq_false_iff_ne]
    intro e
    have := congrArg List.length e
    rw [ByteArray.toList_eq, ByteArray.toList_eq, data_length, data_length, ByteArray.size_extract] at this
    omega
def boundsOk (b : Int × Int × Int × Int × Int × Int × Int × Int × Bool × Bool) : Bool := decide (0 ≤ b.2.2.2.1 ∧ b.2.2.2.1 ≤ 65536 ∧ 0 ≤ b.2.2.2.2.1 ∧ b.2.2.2.2.1 ≤ 32)
theorem bounds_all : ∀ n : Fin 256, (parallaxseat_Bounds.f 40 (n.val : Int)).map boundsOk = some true := by decide +kernel
theorem bounds_ev {n : Int} (h0 : 0 ≤ n) (h1 : n < 256) : ∃ b, boundsOk b = true ∧ Ev (fun k => parallaxseat_Bounds.f k n) b := by
  have := byte_all (p := fun n => (parallaxseat_Bounds.f 40 n).map boundsOk = some true) bounds_all h0 h1
  obtain ⟨b, h, hb⟩ := Option.map_eq_some_iff.mp this
  exact ⟨b, hb, Ev.of (fun k => parallaxseat_Bounds.mono _ k) (k := 40) h⟩
def idxL : List ByteArray → ByteArray → Int
  | [], _ => -1
  | x :: l, s => if s.toList = x.toList then 0 else if idxL l s < 0 then -1 else idxL l s + 1
theorem idxL_ge (l : List ByteArray) (s : ByteArray) : -1 ≤ idxL l s ∧ idxL l s < l.length := by
  induction l with
  | nil => simp [idxL]
  | cons x l ih =>
    unfold idxL
    rw [List.length_cons]
    split
    · omega
    · split <;> omega
theorem idx_loop (l : List ByteArray) (s : ByteArray) (hl : l.length < 9223372036854775807) (d : Nat) : ∀ i : Nat, i + d = l.length → Ev (fun k => slices_Index_string_string.l0 k l s (l.length : Int) (i : Int)) (if idxL (l.drop i) s < 0 then -1 else (i : Int) + idxL (l.drop i) s) := by
  induction d with
  | zero =>
    intro i hi
    refine Ev.step (fun _ => slices_Index_string_string.l0.eq_2 ..) (Ev.neg (by omega) ((Ev.now _).to ?_))
    rw [List.drop_of_length_le (by omega)]; rfl
  | succ d ih =>
    intro i hi
    have hg := idxL_ge (l.drop (i + 1)) s
    rw [drop_rdOf ByteArray.empty l i (by omega)]
    refine Ev.step (fun _ => slices_Index_string_string.l0.eq_2 ..) (Ev.pos (by omega) (Ev.pos (by omega) (Ev.pos (by omega) ?_)))
    by_cases he : s.toList = (rdOf ByteArray.empty l (i : Int)).toList
    · refine Ev.pos he ((Ev.now _).to ?_)
      unfold idxL; rw [if_pos he]; simp
    · refine Ev.neg he ?_
      rw [wrap_nat (by omega)]
      refine (ih (i + 1) (by omega)).to ?_
      conv => rhs; unfold idxL
      rw [if_neg he]
      by_cases h0 : idxL (l.drop (i + 1)) s < 0
      · rw [if_pos h0, if_pos h0]; rfl
      · rw [if_neg h0, if_neg h0, if_neg (by omega)]; omega
theorem idx_ev (l : List ByteArray) (s : ByteArray) (hl : l.length < 9223372036854775807) : Ev (fun k => slices_Index_string_string.f k l s) (idxL l s) := by
  unfold slices_Index_string_string.f
  refine (idx_loop l s hl l.length 0 (by omega)).to ?_
  rw [List.drop_zero]
  have := idxL_ge l s
  by_cases h : idxL l s < 0
  · rw [if_pos h]; omega
  · rw [if_neg h]; simp
def letterB (c : Int) : Bool := decide (97 ≤ Go.bits .or .u8 c 32) && decide (Go.bits .or .u8 c 32 ≤ 122)
def digitB (c : Int) : Bool := decide (48 ≤ c) && decide (c ≤ 57)
def plainB (o : ByteArray) (c : Int) : Bool := digitB c || letterB c || decide (0 ≤ Lib.indexByte o.data.toList c.toNat.toUInt8)
theorem digit_some (c : Int) : octet_Digit.f c = some (digitB c) := by
  unfold octet_Digit.f digitB
  by_cases h : c ≥ 48
  · rw [if_pos h, decide_eq_true (show 48 ≤ c from h), Bool.true_and]
  · rw [if_neg h, decide_eq_false (show ¬ 48 ≤ c from h), Bool.false_and]
def signsB (o : ByteArray) (p : Bool) : List Int → Bool
  | [] => true
  | [c] => plainB o c
  | [c, a] => plainB o c && plainB o a
  | c :: a :: b :: r => if plainB o c = true then signsB o p (a :: b :: r) else p && (c == 37) && (ofB a 5 && ofB b 5) && signsB o p r
theorem signs_plain {o : ByteArray} {p : Bool} {c : Int} (h : plainB o c = true) (l : List Int) : signsB o p (c :: l) = signsB o p l := by
  cases l with
  | nil => simp [signsB, h]
  | cons a l => cases l with
    | nil => simp [signsB, h]
    | cons b l => simp [signsB, h]
theorem signs_no {o : ByteArray} {p : Bool} {c : Int} (h : plainB o c = false) (a b : Int) (r : List Int) : signsB o p (c :: a :: b :: r) = (p && (c == 37) && (ofB a 5 && ofB b 5) && signsB o p r) := by
  simp [signsB, h]
theorem signs_short {o : ByteArray} {p : Bool} {c : Int} (h : plainB o c = false) (l : List Int) (hl : l.length < 2) : signsB o p (c :: l) = false := by
  cases l with
  | nil => simp [signsB, h]
  | cons a l => cases l with
    | nil => simp [signsB, h]
    | cons b l => simp at hl; omega
theorem two_bytes (s : ByteArray) (i : Nat) (h : i + 1 < s.size) : bytesOf (s.extract i (i + 2)) = [bt s (i : Int), bt s ((i + 1 : Nat) : Int)] := by
  have e : bytesOf (s.extract i (i + 2)) = ((bytesOf s).drop i).take 2 := by
    unfold bytesOf; rw [ext_data, show i + 2 - i = 2 by omega, List.map_take, List.map_drop]
  rw [e, drop_bytes s i (by omega), drop_bytes s (i + 1) (by omega)]; rfl
theorem signs_loop (s o : ByteArray) (p : Bool) (hs : s.size < 4611686018427387904) (d : Nat) : ∀ i : Nat, i + d = s.size →
    Ev (fun k => target_signs.l0 k s o p (i : Int)) (signsB o p ((bytesOf s).drop i)) := by
  induction d using Nat.strongRecOn with
  | ind d ih =>
    intro i hi
    by_cases hd : d = 0
    · refine Ev.step (fun _ => target_signs.l0.eq_2 ..) (Ev.neg (by omega) ((Ev.now _).to ?_))
      rw [List.drop_of_length_le (by rw [bytesOf_length]; omega)]; rfl
    have hw1 : wrap64 ((i : Int) + 1) = ((i + 1 : Nat) : Int) := wrap_nat (by omega)
    have hw2 : wrap64 ((i : Int) + 2) = ((i + 2 : Nat) : Int) := by rw [wrap_in (by omega) (by omega)]; omega
    have hw3 : wrap64 ((i : Int) + 3) = ((i + 3 : Nat) : Int) := by rw [wrap_in (by omega) (by omega)]; omega
    have hw4 : wrap64 (((i + 2 : Nat) : Int) + 1) = ((i + 3 : Nat) : Int) := wrap_nat (by omega)
    have hj : ∀ b, b = plainB o (bt s (i : Int)) → Ev (fun k => target_signs.j1 k s o p (i : Int) (bt s (i : Int)) b) (signsB o p ((bytesOf s).drop i)) := by
      intro b hb
      rw [drop_bytes s i (by omega)]
      refine Ev.step (fun _ => target_signs.j1.eq_2 ..) ?_
      rw [hw1, hw2, hw3, hw4]
      cases b with
      | true =>
        rw [signs_plain hb.symm]
        exact Ev.pos rfl (ih (d - 1) (by omega) (i + 1) (by omega))
      | false =>
        refine Ev.neg (by simp) ?_
        by_cases hl : i + 2 < s.size
        · rw [drop_bytes s (i + 1) (by omega), drop_bytes s (i + 1 + 1) (by omega), signs_no hb.symm]
          cases p with
          | false => exact Ev.neg (by simp) ((Ev.now _).to (by simp))
          | true =>
            refine Ev.pos rfl ?_
            by_cases h37 : bt s (i : Int) = 37
            · refine Ev.pos h37 (Ev.pos (by omega) (Ev.pos (by omega) (Ev.pos (by omega) (Ev.pos (by omega) ?_))))
              rw [Int.toNat_natCast, Int.toNat_natCast]
              refine Ev.bind (own_ev _ [5] (by simp) (by rw [ByteArray.size_extract]; omega)) ?_
              have e : allB (s.extract (i + 1) (i + 3)) [5] = (ofB (bt s ((i + 1 : Nat) : Int)) 5 && ofB (bt s ((i + 1 + 1 : Nat) : Int)) 5) := by
                unfold allB; rw [two_bytes s (i + 1) (by omega)]; simp
              rw [e, h37]
              cases (ofB (bt s ((i + 1 : Nat) : Int)) 5 && ofB (bt s ((i + 1 + 1 : Nat) : Int)) 5) with
              | true => exact Ev.pos rfl ((ih (d - 3) (by omega) (i + 3) (by omega)).to (by simp))
              | false => exact Ev.neg (by simp) ((Ev.now _).to (by simp))
            · refine Ev.neg h37 ((Ev.now _).to ?_)
              rw [show (bt s (i : Int) == 37) = false by simp [h37]]; simp
        · rw [signs_short hb.symm _ (by rw [List.length_drop, bytesOf_length]; omega)]
          cases p with
          | false => exact Ev.neg (by simp) (Ev.now _)
          | true =>
            refine Ev.pos rfl ?_
            by_cases h37 : bt s (i : Int) = 37
            · exact Ev.pos h37 (Ev.neg (by omega) (Ev.now _))
            · exact Ev.neg h37 (Ev.now _)
    have hx : ∀ b, b = (digitB (bt s (i : Int)) || letterB (bt s (i : Int))) → b = false → Ev (fun k => (strings_IndexByte.f o (bt s (i : Int))).bind fun t => target_signs.j1 k s o p (i : Int) (bt s (i : Int)) (decide (t ≥ 0))) (signsB o p ((bytesOf s).drop i)) := by
      intro b hb h0
      refine Ev.val rfl (hj _ ?_)
      unfold plainB; rw [← hb, h0, Bool.false_or]
    refine Ev.step (fun _ => target_signs.l0.eq_2 ..) (Ev.pos (by omega) (Ev.pos (by omega) (Ev.val (digit_some _) ?_)))
    cases hdg : digitB (bt s (i : Int)) with
    | true => exact Ev.pos rfl (hj true (by unfold plainB; rw [hdg]; rfl))
    | false =>
      refine Ev.neg (by simp) ?_
      by_cases h1 : (Go.bits .or .u8 (bt s (i : Int)) 32) ≥ 97
      · refine Ev.pos h1 ?_
        by_cases h2 : (Go.bits .or .u8 (bt s (i : Int)) 32) ≤ 122
        · exact Ev.pos h2 (hj true (by have h1' : (97 : Int) ≤ Go.bits .or .u8 (bt s (i : Int)) 32 := h1; unfold plainB letterB; simp [h1', h2]))
        · exact Ev.neg h2 (hx false (by unfold letterB; rw [hdg, decide_eq_false h2]; simp) rfl)
      · exact Ev.neg h1 (hx false (by have h1' : ¬ (97 : Int) ≤ Go.bits .or .u8 (bt s (i : Int)) 32 := h1; unfold letterB; simp [hdg, h1']) rfl)
theorem signs_ev (s o : ByteArray) (p : Bool) (hs : s.size < 4611686018427387904) : Ev (fun k => target_signs.f k s o p) (signsB o p (bytesOf s)) :=
  (signs_loop s o p hs s.size 0 (by omega)).to (by rw [List.drop_zero])
def hostB (s : ByteArray) : Bool := (if hasC 58 s = true then ((readB (afterB 58 s) 10 65535 4).2 == 0) && decide ((afterB 58 s).size ≤ 5) else true) && (decide (0 < (beforeB 58 s).size) && (decide ((beforeB 58 s).size ≤ 255) && signsB (⟨#[45, 46, 95, 126]⟩ : ByteArray) false (bytesOf (beforeB 58 s))))
theorem nil_size (s : ByteArray) : s.toList = ([] : List UInt8) ↔ s.size = 0 := by
  rw [bytes_nil, ← bytesOf_length]; exact List.length_eq_zero_iff.symm
theorem host_ev (s : ByteArray) (hs : s.size < 4611686018427387904) : Ev (fun k => target_Host.f k s) (hostB s) := by
  unfold target_Host.f hostB
  have hb := before_size 58 s
  have ha := after_size 58 s
  have main : Ev (fun k => if (beforeB 58 s).toList = ([] : List UInt8) then (some false) else (if ((beforeB 58 s).size : Int) ≤ 255 then ((target_signs.f k (beforeB 58 s) (⟨#[45, 46, 95, 126]⟩ : ByteArray) false).bind fun t141 => (some t141)) else (some false))) (decide (0 < (beforeB 58 s).size) && (decide ((beforeB 58 s).size ≤ 255) && signsB (⟨#[45, 46, 95, 126]⟩ : ByteArray) false (bytesOf (beforeB 58 s)))) := by
    by_cases h0 : (beforeB 58 s).toList = ([] : List UInt8)
    · refine Ev.pos h0 ((Ev.now _).to ?_)
      rw [decide_eq_false (by have := (nil_size _).mp h0; omega)]; rfl
    · refine Ev.neg h0 ?_
      rw [decide_eq_true (Nat.pos_of_ne_zero fun e => h0 ((nil_size (beforeB 58 s)).mpr e)), Bool.true_and]
      by_cases h1 : ((beforeB 58 s).size : Int) ≤ 255
      · rw [decide_eq_true (by omega : (beforeB 58 s).size ≤ 255), Bool.true_and]
        exact Ev.pos h1 (Ev.bind (signs_ev _ _ false (by omega)) (Ev.now _))
      · rw [decide_eq_false (by omega), Bool.false_and]
        exact Ev.neg h1 (Ev.now _)
  refine Ev.val (cut_some 58 s hs) ?_
  cases hc : hasC 58 s with
  | false => exact Ev.neg (by simp) (main.to (by simp))
  | true =>
    refine Ev.pos rfl (Ev.bind (dec_ev (afterB 58 s) 65535 (by decide) (Nat.lt_of_le_of_lt ha (Nat.lt_trans hs (by decide)))) ?_)
    rw [if_pos rfl]
    by_cases he : (readB (afterB 58 s) 10 65535 4).2 = 0
    · rw [show ((readB (afterB 58 s) 10 65535 4).2 == 0) = true by simp [he], Bool.true_and]
      refine Ev.pos he ?_
      by_cases h5 : ((afterB 58 s).size : Int) > 5
      · rw [decide_eq_false (by omega)]; exact Ev.pos h5 (Ev.now _)
      · rw [decide_eq_true (by omega : (afterB 58 s).size ≤ 5), Bool.true_and]; exact Ev.neg h5 main
    · rw [show ((readB (afterB 58 s) 10 65535 4).2 == 0) = false by simp [he]]
      exact Ev.neg he (Ev.now _)
def innerT : ByteArray := ⟨#[45, 46, 95, 126, 33, 36, 38, 39, 40, 41, 42, 43, 44, 59, 61, 58, 64, 47]⟩
def askedT : ByteArray := ⟨#[45, 46, 95, 126, 33, 36, 38, 39, 40, 41, 42, 43, 44, 59, 61, 58, 64, 47, 63]⟩
def pathB (s : ByteArray) : Bool := prefB s (⟨#[47]⟩ : ByteArray) && signsB innerT true (bytesOf s)
def queryB (s : ByteArray) : Bool := signsB askedT true (bytesOf s)
theorem path_ev (s : ByteArray) (hs : s.size < 4611686018427387904) : Ev (fun k => target_Path.f k s) (pathB s) := by
  unfold target_Path.f pathB
  refine Ev.val (prefix_some s _) ?_
  cases prefB s (⟨#[47]⟩ : ByteArray) with
  | true => exact Ev.pos rfl (Ev.bind (signs_ev s innerT true hs) (Ev.now _))
  | false => exact Ev.neg (by simp) (Ev.now _)
theorem query_ev (s : ByteArray) (hs : s.size < 4611686018427387904) : Ev (fun k => target_Query.f k s) (queryB s) :=
  Ev.bind (signs_ev s askedT true hs) (Ev.now _)
def badT : Int × ByteArray × ByteArray × ByteArray × Bool × Int := (0, (⟨#[]⟩ : ByteArray), (⟨#[]⟩ : ByteArray), (⟨#[]⟩ : ByteArray), false, 400)
def pathOf (form : Int) (s : ByteArray) : ByteArray := if form = 2 ∧ (beforeB 63 s).size = 0 then (⟨#[47]⟩ : ByteArray) else beforeB 63 s
def originB (form : Int) (host s : ByteArray) : Int × ByteArray × ByteArray × ByteArray × Bool × Int :=
  if (pathB (pathOf form s) && queryB (afterB 63 s)) = true then (form, host, pathOf form s, afterB 63 s, hasC 63 s, 0) else badT
theorem origin_j1 (form : Int) (host p q : ByteArray) (a : Bool) (hp : p.size < 4611686018427387904) (hq : q.size < 4611686018427387904) :
    Ev (fun k => target_origin.j1 k form host p q a) (if (pathB p && queryB q) = true then (form, host, p, q, a, 0) else badT) := by
  refine Ev.step (fun _ => target_origin.j1.eq_2 ..) (Ev.bind (path_ev p hp) ?_)
  cases pathB p with
  | false => exact Ev.neg (by simp) (Ev.now _)
  | true =>
    refine Ev.pos rfl (Ev.bind (query_ev q hq) ?_)
    cases queryB q with
    | false => exact Ev.neg (by simp) (Ev.now _)
    | true => exact Ev.pos rfl (Ev.now _)
theorem origin_ev (form : Int) (host s : ByteArray) (hs : s.size < 4611686018427387904) : Ev (fun k => target_origin.f k form host s) (originB form host s) := by
  have hb := before_size 63 s
  have ha := after_size 63 s
  unfold target_origin.f originB
  refine Ev.val (cut_some 63 s hs) ?_
  show Ev (fun k => if form = 2 then target_origin.j0 k ((beforeB 63 s).toList == ([] : List UInt8)) form host (beforeB 63 s) (afterB 63 s) (hasC 63 s) else target_origin.j0 k false form host (beforeB 63 s) (afterB 63 s) (hasC 63 s)) _
  by_cases h2 : form = 2
  · refine Ev.pos h2 (Ev.step (fun _ => target_origin.j0.eq_2 ..) ?_)
    by_cases h0 : (beforeB 63 s).toList = ([] : List UInt8)
    · rw [show pathOf form s = (⟨#[47]⟩ : ByteArray) from if_pos ⟨h2, (nil_size _).mp h0⟩]
      exact Ev.pos (by simp [h0]) (origin_j1 _ _ _ _ _ (by decide) (by omega))
    · rw [show pathOf form s = beforeB 63 s from if_neg (fun h => h0 ((nil_size _).mpr h.2))]
      exact Ev.neg (by simp [h0]) (origin_j1 _ _ _ _ _ (by omega) (by omega))
  · rw [show pathOf form s = beforeB 63 s from if_neg (fun h => h2 h.1)]
    exact Ev.neg h2 (Ev.step (fun _ => target_origin.j0.eq_2 ..) (Ev.neg (by simp) (origin_j1 _ _ _ _ _ (by omega) (by omega))))
theorem contains_some (c : UInt8) (s : ByteArray) : strings_Contains.f s (BA [c]) = some (hasC c s) := by
  have hI : strings_Index.f s (BA [c]) = some (Lib.indexByte s.data.toList c) := by
    unfold strings_Index.f; rw [if_pos (show (BA [c]).size = 1 from rfl), data_BA]; rfl
  unfold strings_Contains.f hasC
  rw [hI, Option.bind_some]
  congr 1
  rcases Int.lt_or_le (Lib.indexByte s.data.toList c) 0 with x | x
  · rw [decide_eq_false (by omega), decide_eq_false (index_no c _ x)]
  · obtain ⟨a, r, e, _, _⟩ := index_yes c _ x
    rw [decide_eq_true (by omega), e, decide_eq_true (by simp)]
def hostEnd (s : ByteArray) : Nat := (Lib.indexAny (s ++ (⟨#[47]⟩ : ByteArray)).data.toList [47, 63]).toNat
def wholeB (s : ByteArray) : Bool := decide (7 ≤ s.size) && Hand.sameB (s.extract 0 7) (⟨#[104, 116, 116, 112, 58, 47, 47]⟩ : ByteArray)
def parseB (m s : ByteArray) : Int × ByteArray × ByteArray × ByteArray × Bool × Int :=
  if m.toList = ([67, 79, 78, 78, 69, 67, 84] : List UInt8) then (if (hostB s && hasC 58 s) = true then (3, s, (⟨#[]⟩ : ByteArray), (⟨#[]⟩ : ByteArray), false, 0) else badT)
  else if m.toList = ([79, 80, 84, 73, 79, 78, 83] : List UInt8) ∧ s.toList = ([42] : List UInt8) then (4, (⟨#[]⟩ : ByteArray), (⟨#[]⟩ : ByteArray), (⟨#[]⟩ : ByteArray), false, 0)
  else if prefB s (⟨#[47]⟩ : ByteArray) = true then originB 1 (⟨#[]⟩ : ByteArray) s
  else if wholeB s = true then (if hostB ((s.extract 7 s.size).extract 0 (hostEnd (s.extract 7 s.size))) = true then originB 2 ((s.extract 7 s.size).extract 0 (hostEnd (s.extract 7 s.size))) ((s.extract 7 s.size).extract (hostEnd (s.extract 7 s.size)) (s.extract 7 s.size).size) else badT)
  else badT
theorem hostEnd_le (s : ByteArray) : 0 ≤ Lib.indexAny (s ++ (⟨#[47]⟩ : ByteArray)).data.toList [47, 63] ∧ hostEnd s ≤ s.size := by
  have key : ∀ l : List UInt8, 0 ≤ Lib.indexAny (l ++ [47]) [47, 63] ∧ Lib.indexAny (l ++ [47]) [47, 63] ≤ l.length := by
    intro l
    induction l with
    | nil => decide
    | cons b l ih =>
      rw [List.cons_append]
      unfold Lib.indexAny
      split
      · exact ⟨by omega, by simp; omega⟩
      · have h1 : ¬ (Lib.indexAny (l ++ [47]) [47, 63] == -1) = true := by simp; omega
        simp only [h1]
        simp only [List.length_cons]
        constructor <;> (simp; omega)
  have := key s.data.toList
  have e : (s ++ (⟨#[47]⟩ : ByteArray)).data.toList = s.data.toList ++ [47] := by rw [data_app]
  unfold hostEnd
  rw [e]
  rw [data_length] at this
  exact ⟨this.1, by omega⟩
theorem parse_ev (m s : ByteArray) (hs : s.size < 1000000000000) (hI : wholeB s = true → prefB s (⟨#[47]⟩ : ByteArray) = false → strings_IndexAny.f ((s.extract 7 s.size) ++ (⟨#[47]⟩ : ByteArray)) (⟨#[47, 63]⟩ : ByteArray) = some (Lib.indexAny ((s.extract 7 s.size) ++ (⟨#[47]⟩ : ByteArray)).data.toList [47, 63])) :
    Ev (fun k => target_Parse.f k m s) (parseB m s) := by
  have hext : (s.extract 7 s.size).size ≤ s.size := by rw [ByteArray.size_extract]; omega
  have j1 : ∀ b, b = wholeB s → prefB s (⟨#[47]⟩ : ByteArray) = false → Ev (fun k => target_Parse.j1 k s b) (if wholeB s = true then (if hostB ((s.extract 7 s.size).extract 0 (hostEnd (s.extract 7 s.size))) = true then originB 2 ((s.extract 7 s.size).extract 0 (hostEnd (s.extract 7 s.size))) ((s.extract 7 s.size).extract (hostEnd (s.extract 7 s.size)) (s.extract 7 s.size).size) else badT) else badT) := by
    intro b hb hpre
    refine Ev.step (fun _ => target_Parse.j1.eq_2 ..) ?_
    rw [← hb]
    cases hw : b with
    | false => exact Ev.neg (by simp) (Ev.now _)
    | true =>
      have hw' : wholeB s = true := by rw [← hb, hw]
      have h7 : 7 ≤ s.size := by unfold wholeB at hw'; simp at hw'; exact hw'.1
      obtain ⟨e0, e1⟩ := hostEnd_le (s.extract 7 s.size)
      rw [if_pos rfl]
      refine Ev.pos rfl (Ev.pos (by omega) (Ev.pos (by omega) (Ev.val (hI hw' hpre) (Ev.pos e0 (Ev.pos (by unfold hostEnd at e1; omega) ?_)))))
      show Ev (fun k => (target_Host.f k ((s.extract 7 s.size).extract 0 (hostEnd (s.extract 7 s.size)))).bind _) _
      refine Ev.bind (host_ev _ (by rw [ByteArray.size_extract]; omega)) ?_
      cases hostB ((s.extract 7 s.size).extract 0 (hostEnd (s.extract 7 s.size))) with
      | false => exact Ev.neg (by simp) (Ev.now _)
      | true => exact Ev.pos rfl (Ev.bind (origin_ev _ _ _ (by rw [ByteArray.size_extract]; show _ < 4611686018427387904; omega)) (Ev.now _))
  have j0 : ∀ b : Bool, Ev (fun k => target_Parse.j0 k s b) (if b = true then (4, (⟨#[]⟩ : ByteArray), (⟨#[]⟩ : ByteArray), (⟨#[]⟩ : ByteArray), false, 0) else if prefB s (⟨#[47]⟩ : ByteArray) = true then originB 1 (⟨#[]⟩ : ByteArray) s else if wholeB s = true then (if hostB ((s.extract 7 s.size).extract 0 (hostEnd (s.extract 7 s.size))) = true then originB 2 ((s.extract 7 s.size).extract 0 (hostEnd (s.extract 7 s.size))) ((s.extract 7 s.size).extract (hostEnd (s.extract 7 s.size)) (s.extract 7 s.size).size) else badT) else badT) := by
    intro b
    refine Ev.step (fun _ => target_Parse.j0.eq_2 ..) (Ev.cond (fun _ => Ev.now _) (fun _ => Ev.val (prefix_some s _) ?_))
    refine Ev.cond (fun _ => Ev.bind (origin_ev _ _ _ (by omega)) (Ev.now _)) (fun hp => ?_)
    have hpf : prefB s (⟨#[47]⟩ : ByteArray) = false := by simpa using hp
    by_cases h7 : (s.size : Int) ≥ 7
    · refine Ev.pos h7 (Ev.pos (by omega) (Ev.pos (by omega) (Ev.val (same_some (by rw [ByteArray.size_extract]; omega) (by decide)) (j1 _ ?_ hpf))))
      unfold wholeB; rw [decide_eq_true (by omega : 7 ≤ s.size), Bool.true_and]
    · refine Ev.neg h7 (j1 false ?_ hpf)
      unfold wholeB; rw [decide_eq_false (by omega : ¬ 7 ≤ s.size), Bool.false_and]
  unfold target_Parse.f parseB
  refine Ev.cond (fun _ => Ev.bind (host_ev s (by omega)) ?_) (fun _ => ?_)
  · cases hostB s with
    | false => exact Ev.neg (by simp) (Ev.now _)
    | true =>
      refine Ev.pos rfl (Ev.val (contains_some 58 s) ?_)
      cases hasC 58 s with
      | false => exact Ev.neg (by simp) (Ev.now _)
      | true => exact Ev.pos rfl (Ev.now _)
  · by_cases ho : m.toList = ([79, 80, 84, 73, 79, 78, 83] : List UInt8)
    · refine Ev.pos ho ((j0 _).to ?_)
      by_cases hz : s.toList = ([42] : List UInt8)
      · exact (if_pos (by simp [hz])).trans (if_pos ⟨ho, hz⟩).symm
      · exact (if_neg (by simp [hz])).trans (if_neg (fun h => hz h.2)).symm
    · exact Ev.neg ho ((j0 false).to ((if_neg (by simp)).trans (if_neg (fun h => ho h.1)).symm))
end Go.Proofs.YtclaaacdmaeblaaDoor.PRequestExtends
