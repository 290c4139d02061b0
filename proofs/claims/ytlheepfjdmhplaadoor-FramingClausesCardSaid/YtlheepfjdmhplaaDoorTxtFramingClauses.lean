/- What the printed functions of the text layer come to. -/
import Derived.Test.YtlheepfjdmhplaaDoorPFramingClausesx
import Derived.Test.YtlheepfjdmhplaaDoorParts
import Derived.Test.YtlheepfjdmhplaaDoorLowP
import Derived.Test.YtlheepfjdmhplaaDoorTrimP
import Derived.Test.YtlheepfjdmhplaaDoorHex
import Derived.Lib.ItoaLen
namespace Go.Proofs.YtlheepfjdmhplaaDoor.PFramingClauses
open Go.RowKit Go.Proofs.YtlheepfjdmhplaaDoorW.PrintWords Go.Proofs.YtlheepfjdmhplaaDoorW.PrintLast Go.Proofs.YtlheepfjdmhplaaDoorW.PrintMore Go.Proofs.YtlheepfjdmhplaaDoor.Aid Go.Proofs.YtlheepfjdmhplaaDoor.Parts
set_option linter.unusedVariables false
set_option linter.unusedSimpArgs false
theorem rdOf_mem (l : List ByteArray) (j : Nat) (h : j < l.length) : rdOf ByteArray.empty l (j : Int) ∈ l := by
  unfold rdOf; simp [List.getD_eq_getElem?_getD, h]
theorem set_take (a : List ByteArray) (i : Nat) (x : ByteArray) (h : i < a.length) : (a.set i x).take (i + 1) = a.take i ++ [x] := by
  rw [List.take_succ_eq_append_getElem (by simpa using h), List.getElem_set_self, List.take_set_of_le (Nat.le_refl _)]
theorem BA_one (c : UInt8) : (BA [c]).size = 1 := rfl
theorem wrap_one (j : Nat) (c : UInt8) (h : j < 9223372036854775807) : wrap64 ((j : Int) + ((BA [c]).size : Int)) = ((j + 1 : Nat) : Int) := by
  rw [show ((BA [c]).size : Int) = 1 by rw [BA_one]; rfl]; exact wrap_nat h
theorem genSplit_ev (c : UInt8) (m : Nat) : ∀ (s : ByteArray) (a : List ByteArray) (i n : Nat), s.size ≤ 1000000000000 → s.data.toList.count c = m → n = i + m → a.length = n + 1 → n ≤ 1000000000001 →
    Ev (fun k => strings_genSplit.l0 k s (BA [c]) 0 (n : Int) a (i : Int)) (a.take i ++ parts c s) := by
  induction m with
  | zero =>
    intro s a i n hs hc hn ha hb
    have hp : parts c s = [s] := parts_no c s (by
      rcases Int.lt_or_le (Lib.indexByte s.data.toList c) 0 with x | x
      · exact x
      · have := (index_nil_iff c _).mp x
        have := List.count_pos_iff.mpr this
        omega)
    have hw : wrap64 ((i : Int) + 1) = ((i + 1 : Nat) : Int) := wrap_nat (by omega)
    refine Ev.step (fun _ => strings_genSplit.l0.eq_2 ..) (Ev.neg (by omega) (Ev.pos (by omega) (Ev.pos (by omega) ?_)))
    rw [hw]
    refine Ev.pos (by omega) (Ev.pos (by omega) ((Ev.now _).to ?_))
    rw [hp, Int.toNat_natCast, Int.toNat_natCast, set_take _ _ _ (by omega)]
  | succ m ih =>
    intro s a i n hs hc hn ha hb
    have hidx : 0 ≤ Lib.indexByte s.data.toList c := (index_nil_iff c _).mpr (List.count_pos_iff.mp (by omega))
    obtain ⟨j, hj, hjs, hp, hcnt⟩ := parts_yes c s hidx
    have hI : strings_Index.f s (BA [c]) = some (j : Int) := by
      unfold strings_Index.f; rw [if_pos (BA_one c), data_BA]
      show some (Lib.indexByte s.data.toList c) = _
      rw [hj]
    refine Ev.step (fun _ => strings_genSplit.l0.eq_2 ..) (Ev.pos (by omega) (Ev.val hI (Ev.neg (by omega) ?_)))
    have hi9 : i < 9223372036854775807 := by omega
    have hj9 : j < 9223372036854775807 := by omega
    rw [show wrap64 ((j : Int) + 0) = ((j : Nat) : Int) by rw [Int.add_zero]; exact wrap_in (by omega) (by omega), wrap_one j c hj9, wrap_nat hi9]
    refine Ev.pos (by omega) (Ev.pos (by omega) (Ev.pos (by omega) (Ev.pos (by omega) (Ev.pos (by omega) (Ev.pos (by omega) ?_)))))
    rw [Int.toNat_natCast, Int.toNat_natCast, Int.toNat_natCast]
    have hx : (s.extract (j + 1) s.size).size ≤ 1000000000000 := by rw [Trim.ext_size _ _ _ (Nat.le_refl _)]; omega
    refine (ih (s.extract (j + 1) s.size) (a.set i (s.extract 0 j)) (i + 1) n hx (by omega) (by omega) (by rw [List.length_set]; exact ha) hb).to ?_
    rw [hp, set_take _ _ _ (by omega), List.append_assoc, List.singleton_append]
theorem split_ev (c : UInt8) (s : ByteArray) (hs : s.size ≤ 1000000000000) : Ev (fun k => strings_Split.f k s (BA [c])) (parts c s) := by
  have hcs := count_le_size c s
  have hC : strings_Count.f s (BA [c]) = some ((s.data.toList.count c : Nat) : Int) := by
    unfold strings_Count.f; rw [if_pos (BA_one c), data_BA]; rfl
  unfold strings_Split.f strings_genSplit.f
  refine Ev.bind (a := parts c s) ?_ (Ev.now _)
  refine Ev.neg (by omega) (Ev.neg (by rw [toList_BA]; simp) (Ev.pos (by omega) (Ev.val hC ?_)))
  rw [wrap_nat (by omega)]
  refine Ev.step (fun _ => strings_genSplit.j0.eq_2 ..) ?_
  have hm : mn ((s.data.toList.count c + 1 : Nat) : Int) (wrap64 ((s.size : Int) + 1)) = ((s.data.toList.count c + 1 : Nat) : Int) := by
    rw [wrap_nat (by omega)]; unfold mn; rw [if_neg (by omega)]
  rw [hm, show wrap64 (((s.data.toList.count c + 1 : Nat) : Int) - 1) = ((s.data.toList.count c : Nat) : Int) by rw [wrap_in (by omega) (by omega)]; omega, Int.toNat_natCast]
  refine Ev.pos (by omega) (Ev.pos (by omega) ?_)
  exact (genSplit_ev c (s.data.toList.count c) s _ 0 (s.data.toList.count c) hs rfl (by omega) (by simp) (by omega)).to (by simp)
theorem trim_some {s : ByteArray} (h : s.size ≤ 9223372036854775807) : text_Trim.f s = some (Trim.trimB Trim.blankB s) := by unfold text_Trim.f; rw [if_pos h]
def listB (l : List ByteArray) : List ByteArray := l.flatMap fun v => (parts 44 v).map (Trim.trimB Trim.blankB)
theorem list_in (l : List ByteArray) (n : Int) (i : Nat) (hi : i < 1000000000000) (t : List ByteArray) (ht : ∀ x ∈ t, x.size ≤ 1000000000000) (htl : t.length ≤ 1000000000001) (R : List ByteArray) (d : Nat) : ∀ (j : Nat) (acc : List ByteArray), j + d = t.length → acc.length + d < 8000000000000 →
    Ev (fun k => text_List.l0 k (acc ++ (t.drop j).map (Trim.trimB Trim.blankB)) l n ((i + 1 : Nat) : Int)) R → Ev (fun k => text_List.l1 k acc l n (i : Int) t (t.length : Int) (j : Int)) R := by
  induction d with
  | zero =>
    intro j acc hj ha hR
    refine Ev.step (fun _ => text_List.l1.eq_2 ..) (Ev.neg (by omega) ?_)
    rw [List.drop_of_length_le (by omega), List.map_nil, List.append_nil] at hR
    rw [wrap_nat (by omega)]; exact hR
  | succ d ih =>
    intro j acc hj ha hR
    rw [drop_rdOf ByteArray.empty t j (by omega), List.map_cons] at hR
    refine Ev.step (fun _ => text_List.l1.eq_2 ..) (Ev.pos (by omega) (Ev.pos (by omega) (Ev.pos (by omega) ?_)))
    refine Ev.val (trim_some (by have := ht _ (rdOf_mem t j (by omega)); omega)) (Ev.pos (by omega) ?_)
    rw [wrap_nat (by omega)]
    exact ih (j + 1) _ (by omega) (by simp; omega) (by rw [List.append_assoc]; exact hR)
theorem list_out (l : List ByteArray) (hl : ∀ x ∈ l, x.size ≤ 1000000000000) (hn : l.length ≤ 1000000) (d : Nat) : ∀ (i : Nat) (acc : List ByteArray), i + d = l.length → acc.length + (listB (l.drop i)).length < 7000000000000 →
    Ev (fun k => text_List.l0 k acc l (l.length : Int) (i : Int)) (acc ++ listB (l.drop i)) := by
  induction d with
  | zero =>
    intro i acc hi ha
    refine Ev.step (fun _ => text_List.l0.eq_2 ..) (Ev.neg (by omega) ((Ev.now _).to ?_))
    rw [List.drop_of_length_le (by omega)]; simp [listB]
  | succ d ih =>
    intro i acc hi ha
    have hm := rdOf_mem l i (by omega)
    have hs := hl _ hm
    rw [drop_rdOf ByteArray.empty l i (by omega)] at ha ⊢
    simp only [listB, List.flatMap_cons, List.length_append, List.length_map] at ha ⊢
    have hpl := parts_len 44 (rdOf ByteArray.empty l (i : Int))
    have hcs := count_le_size 44 (rdOf ByteArray.empty l (i : Int))
    refine Ev.step (fun _ => text_List.l0.eq_2 ..) (Ev.pos (by omega) (Ev.pos (by omega) (Ev.pos (by omega) ?_)))
    refine Ev.bind (split_ev 44 _ hs) ?_
    refine list_in l _ i (by omega) _ (fun x hx => Nat.le_trans (parts_size hx) hs) (by omega) _ (parts 44 (rdOf ByteArray.empty l (i : Int))).length 0 acc (by omega) (by omega) ?_
    rw [List.drop_zero]
    refine (ih (i + 1) _ (by omega) (by simp only [listB, List.length_append, List.length_map] at *; omega)).to ?_
    rw [List.append_assoc]; rfl
theorem list_ev (l : List ByteArray) (hl : ∀ x ∈ l, x.size ≤ 1000000000000) (hn : l.length ≤ 1000000) (hb : (listB l).length < 7000000000000) : Ev (fun k => text_List.f k l) (listB l) := by
  unfold text_List.f
  exact (list_out l hl hn l.length 0 [] (by omega) (by simpa using hb)).to (by simp)
theorem lower_some {s : ByteArray} (h : s.size ≤ 9223372036854775807) : text_Lower.f s = some (Low.lower s) := by unfold text_Lower.f; rw [if_pos h]
theorem same_some {a b : ByteArray} (h : a.size ≤ 9223372036854775807) (h' : b.size ≤ 9223372036854775807) : text_Same.f a b = some (Hand.sameB a b) := by unfold text_Same.f; rw [if_pos ⟨h, h'⟩]
theorem trimOf_some {s t : ByteArray} (h : s.size ≤ 9223372036854775807) : text_TrimOf.f s t = some (Trim.trimB (Trim.inB t) s) := by unfold text_TrimOf.f; rw [if_pos h]
theorem rdT_mem (l : List S34) (j : Nat) (h : j < l.length) : rd_T34 l (j : Int) ∈ l := by
  unfold rd_T34; simp [List.getD_eq_getElem?_getD, h]
theorem drop_rdT (l : List S34) (i : Nat) (h : i < l.length) : l.drop i = rd_T34 l (i : Int) :: l.drop (i + 1) := by
  unfold rd_T34; rw [List.drop_eq_getElem_cons h]; simp [List.getD_eq_getElem?_getD, h]
def findB (l : List S34) (n : ByteArray) : List ByteArray := (l.filter fun f => Hand.sameB f.f0 n).map (·.f1)
theorem find_loop (n : ByteArray) (hn : n.size ≤ 9223372036854775807) (l : List S34) (hl : ∀ x ∈ l, x.f0.size ≤ 9223372036854775807) (hlen : l.length ≤ 1000000000000) (d : Nat) : ∀ (i : Nat) (acc : List ByteArray), i + d = l.length → acc.length + d < 8000000000000 →
    Ev (fun k => text_Find.l0 k n acc l (l.length : Int) (i : Int)) (acc ++ findB (l.drop i) n) := by
  induction d with
  | zero =>
    intro i acc hi ha
    refine Ev.step (fun _ => text_Find.l0.eq_2 ..) (Ev.neg (by omega) ((Ev.now _).to ?_))
    rw [List.drop_of_length_le (by omega)]; simp [findB]
  | succ d ih =>
    intro i acc hi ha
    have h9 : i < 9223372036854775807 := by omega
    have hm := hl _ (rdT_mem l i (by omega))
    rw [drop_rdT l i (by omega)]
    refine Ev.step (fun _ => text_Find.l0.eq_2 ..) (Ev.pos (by omega) (Ev.pos (by omega) (Ev.pos (by omega) (Ev.val (same_some hm hn) ?_))))
    rw [wrap_nat h9]
    by_cases h : Hand.sameB (rd_T34 l (i : Int)).f0 n = true
    · exact Ev.pos h (Ev.pos (by omega) ((ih (i + 1) _ (by omega) (by simp; omega)).to (by simp [findB, h])))
    · exact Ev.neg h ((ih (i + 1) _ (by omega) (by omega)).to (by simp [findB, h]))
theorem find_ev (n : ByteArray) (hn : n.size ≤ 9223372036854775807) (l : List S34) (hl : ∀ x ∈ l, x.f0.size ≤ 9223372036854775807) (hlen : l.length ≤ 1000000000000) : Ev (fun k => text_Find.f k l n) (findB l n) := by
  unfold text_Find.f; exact (find_loop n hn l hl hlen l.length 0 [] (by omega) (by simp; omega)).to (by simp)
theorem findB_len (l : List S34) (n : ByteArray) : (findB l n).length ≤ l.length := by unfold findB; rw [List.length_map]; exact List.length_filter_le _ _
theorem trimB_le (s : ByteArray) : (Trim.trimB Trim.blankB s).size ≤ s.size := by
  unfold Trim.trimB Trim.trimR Trim.trimL
  rw [ByteArray.size_extract, ByteArray.size_extract]; omega
theorem listB_sz (l : List ByteArray) (m : Nat) (h : ∀ x ∈ l, x.size ≤ m) : ∀ x ∈ listB l, x.size ≤ m := by
  intro x hx
  unfold listB at hx
  obtain ⟨v, hv, hx⟩ := List.mem_flatMap.mp hx
  obtain ⟨p, hp, rfl⟩ := List.mem_map.mp hx
  exact Nat.le_trans (trimB_le p) (Nat.le_trans (parts_size hp) (h v hv))
theorem listB_num (l : List ByteArray) (m : Nat) (h : ∀ x ∈ l, x.size ≤ m) : (listB l).length ≤ l.length * (m + 1) := by
  unfold listB
  induction l with
  | nil => simp
  | cons v l ih =>
    have hv := h v (by simp)
    have := ih (fun x hx => h x (by simp [hx]))
    have hp := parts_len 44 v
    have hc := count_le_size 44 v
    rw [List.flatMap_cons, List.length_append, List.length_map, List.length_cons, Nat.add_mul]
    omega
def ofB (c kind : Int) : Bool := (octet_of.f c kind).getD false
def allB (s : ByteArray) (l : List Int) : Bool := (bytesOf s).all fun c => l.any (ofB c)
theorem of_k (kind : Fin 8) : ∀ n : Fin 256, octet_of.f (n.val : Int) (kind.val : Int) = some (ofB (n.val : Int) (kind.val : Int)) := by
  revert kind; decide +kernel
theorem of_far {c kind : Int} (h : ¬ (1 ≤ kind ∧ kind ≤ 6)) : octet_of.f c kind = some false := by
  unfold octet_of.f
  rw [if_neg (by omega), if_neg (by omega), if_neg (by omega), if_neg (by omega), if_neg (by omega), if_neg (by omega)]
theorem of_some {c : Int} (h0 : 0 ≤ c) (h1 : c < 256) (kind : Int) : octet_of.f c kind = some (ofB c kind) := by
  by_cases hk : 0 ≤ kind ∧ kind < 8
  · have := byte_all (p := fun c => octet_of.f c kind = some (ofB c kind)) (fun n => by
      have := of_k ⟨kind.toNat, by omega⟩ n
      rwa [show ((⟨kind.toNat, by omega⟩ : Fin 8).val : Int) = kind by simp; omega] at this) h0 h1
    exact this
  · have := of_far (c := c) (kind := kind) (by omega)
    unfold ofB; rw [this]; rfl
theorem own_in (s : ByteArray) (l : List Int) (hl : l.length < 9223372036854775807) (hs : s.size < 9223372036854775807) (i : Nat) (hi : i < s.size) (R : Bool)
    (hR : Ev (fun k => octet_All.l0 k s l (s.size : Int) ((i + 1 : Nat) : Int)) R) (d : Nat) : ∀ (j : Nat) (b : Bool), j + d = l.length →
    Ev (fun k => octet_All.l1 k s l (i : Int) b (s.size : Int) (i : Int) l (l.length : Int) (j : Int)) (if (b || (l.drop j).any (ofB (bt s (i : Int)))) = true then R else false) := by
  induction d with
  | zero =>
    intro j b hj
    refine Ev.step (fun _ => octet_All.l1.eq_2 ..) (Ev.neg (by omega) ?_)
    rw [List.drop_of_length_le (by omega), List.any_nil, Bool.or_false, wrap_nat (by omega)]
    exact Ev.cond (fun _ => hR) (fun _ => Ev.now _)
  | succ d ih =>
    intro j b hj
    have hw : wrap64 ((j : Int) + 1) = ((j + 1 : Nat) : Int) := wrap_nat (by omega)
    refine Ev.step (fun _ => octet_All.l1.eq_2 ..) (Ev.pos (by omega) (Ev.pos (by omega) (Ev.pos (by omega) ?_)))
    rw [drop_rd l j (by omega), List.any_cons, hw]
    cases b with
    | true => exact Ev.pos rfl ((ih (j + 1) true (by omega)).to (by simp))
    | false =>
      refine Ev.neg (by simp) (Ev.pos (by omega) (Ev.pos (by omega) ?_))
      have := bt_lt s (i : Int)
      exact Ev.val (of_some this.1 this.2 _) ((ih (j + 1) _ (by omega)).to (by rw [Bool.false_or]))
theorem own_out (s : ByteArray) (l : List Int) (hl : l.length < 9223372036854775807) (hs : s.size < 9223372036854775807) (d : Nat) : ∀ (i : Nat), i + d = s.size →
    Ev (fun k => octet_All.l0 k s l (s.size : Int) (i : Int)) (((bytesOf s).drop i).all fun c => l.any (ofB c)) := by
  induction d with
  | zero =>
    intro i hi
    refine Ev.step (fun _ => octet_All.l0.eq_2 ..) (Ev.neg (by omega) ?_)
    rw [List.drop_of_length_le (by rw [bytesOf_length]; omega)]; exact Ev.now _
  | succ d ih =>
    intro i hi
    refine Ev.step (fun _ => octet_All.l0.eq_2 ..) (Ev.pos (by omega) ?_)
    refine (own_in s l hl hs i (by omega) _ (ih (i + 1) (by omega)) l.length 0 false (by omega)).to ?_
    rw [drop_bytes s i (by omega), List.all_cons, List.drop_zero, Bool.false_or]
    cases l.any (ofB (bt s (i : Int))) <;> simp
theorem own_ev (s : ByteArray) (l : List Int) (hl : l.length < 9223372036854775807) (hs : s.size < 9223372036854775807) : Ev (fun k => octet_All.f k s l) (allB s l) :=
  (own_out s l hl hs s.size 0 (by omega)).to (by rw [List.drop_zero]; rfl)
def hexV (c : Int) : Int := ((octet_Hex.f c).getD (0, false)).1
def valA (b : Int) (n : Int) (l : List Int) : Int := l.foldl (fun n d => n * b + d) n
theorem hex_all : ∀ n : Fin 256, octet_Hex.f (n.val : Int) = some (hexV (n.val : Int), ((octet_Hex.f (n.val : Int)).getD (0, false)).2) ∧ 0 ≤ hexV (n.val : Int) ∧ hexV (n.val : Int) ≤ 15 := by decide +kernel
theorem hex_at {c : Int} (h : 0 ≤ c ∧ c < 256) : octet_Hex.f c = some (hexV c, ((octet_Hex.f c).getD (0, false)).2) ∧ 0 ≤ hexV c ∧ hexV c ≤ 15 :=
  byte_all (p := fun c => octet_Hex.f c = some (hexV c, ((octet_Hex.f c).getD (0, false)).2) ∧ 0 ≤ hexV c ∧ hexV c ≤ 15) hex_all h.1 h.2
theorem valA_ge {b : Int} (hb : 1 ≤ b) (l : List Int) : ∀ n : Int, 0 ≤ n → (∀ d ∈ l, 0 ≤ d) → n ≤ valA b n l := by
  induction l with
  | nil => intro n _ _; exact Int.le_refl _
  | cons d l ih =>
    intro n hn hd
    have h0 := hd d (by simp)
    have h1 : n ≤ n * b := by have := Int.mul_le_mul_of_nonneg_left hb hn; rwa [Int.mul_one] at this
    have := ih (n * b + d) (by omega) (fun x hx => hd x (by simp [hx]))
    show n ≤ valA b (n * b + d) l
    omega
theorem vals_nonneg (s : ByteArray) (i : Nat) : ∀ d ∈ ((bytesOf s).map hexV).drop i, 0 ≤ d := by
  intro d hd
  obtain ⟨c, hc, rfl⟩ := List.mem_map.mp (List.mem_of_mem_drop hd)
  exact (hex_at (bytes_lt s hc)).2.1
theorem read_loop (s : ByteArray) (b most : Int) (hb : 2 ≤ b) (hb2 : b ≤ 16) (hm : most ≤ 9223372036854775807) (hs : s.size < 9223372036854775807) (d : Nat) : ∀ (i : Nat) (n : Int), i + d = s.size → 0 ≤ n → n ≤ most →
    Ev (fun k => number_read.l0 k s b most n (s.size : Int) (i : Int)) (if valA b n (((bytesOf s).map hexV).drop i) ≤ most then (valA b n (((bytesOf s).map hexV).drop i), 0) else (0, 23)) := by
  induction d with
  | zero =>
    intro i n hi h0 h1
    refine Ev.step (fun _ => number_read.l0.eq_2 ..) (Ev.neg (by omega) ((Ev.now _).to ?_))
    rw [List.drop_of_length_le (by rw [List.length_map, bytesOf_length]; omega)]
    exact (if_pos h1).symm
  | succ d ih =>
    intro i n hi h0 h1
    have h9 : i < 9223372036854775807 := by omega
    have hlt : i < ((bytesOf s).map hexV).length := by rw [List.length_map, bytesOf_length]; omega
    have hbt := bt_lt s (i : Int)
    obtain ⟨e1, e2, e3⟩ := hex_at hbt
    have hdrop : ((bytesOf s).map hexV).drop i = hexV (bt s (i : Int)) :: ((bytesOf s).map hexV).drop (i + 1) := by
      rw [← List.map_drop, drop_bytes s i (by omega), List.map_cons, List.map_drop]
    rw [hdrop]
    have hnn := vals_nonneg s (i + 1)
    refine Ev.step (fun _ => number_read.l0.eq_2 ..) (Ev.pos (by omega) (Ev.pos (by omega) (Ev.pos (by omega) (Ev.val e1 ?_))))
    show Ev (fun k => if hexV (bt s (i : Int)) > most then _ else _) (if valA b (n * b + hexV (bt s (i : Int))) (((bytesOf s).map hexV).drop (i + 1)) ≤ most then _ else _)
    rw [wrap_nat h9]
    generalize hexV (bt s (i : Int)) = v at e2 e3 ⊢
    have ih' := fun (n : Int) (h0 : 0 ≤ n) (h1 : n ≤ most) => ih (i + 1) n (by omega) h0 h1
    clear ih
    generalize ((bytesOf s).map hexV).drop (i + 1) = l at hnn ih' ⊢
    have hge := valA_ge (b := b) (by omega) l (n * b + v) (by have := Int.mul_nonneg h0 (show 0 ≤ b by omega); omega) hnn
    have hnb := Int.mul_nonneg h0 (show 0 ≤ b by omega)
    by_cases hv : v > most
    · exact Ev.pos hv ((Ev.now _).to (if_neg (by omega)).symm)
    · refine Ev.neg hv (Ev.neg (by omega) ?_)
      have hw1 : wrap64 (most - v) = most - v := wrap_in (by omega) (by omega)
      have hq : Int.tdiv (most - v) b = (most - v) / b := Int.tdiv_eq_ediv_of_nonneg (by omega)
      have hq2 : (most - v) / b ≤ most - v := Int.ediv_le_self _ (by omega)
      have hq3 : 0 ≤ (most - v) / b := Int.ediv_nonneg (by omega) (by omega)
      have hw2 : wrap64 ((most - v) / b) = (most - v) / b := wrap_in (by omega) (by omega)
      rw [hw1, hq, hw2]
      clear hw1 hw2 hq
      have hiff := Int.ediv_lt_iff_lt_mul (a := most - v) (b := n) (c := b) (by omega)
      clear hq2 hq3
      by_cases hc : n > (most - v) / b
      · have := hiff.mp hc
        exact Ev.pos hc ((Ev.now _).to (if_neg (by omega)).symm)
      · have h2 : ¬ most - v < n * b := fun h => hc (hiff.mpr h)
        clear hiff
        refine Ev.neg hc ?_
        have hw3 : wrap64 (n * b) = n * b := wrap_in (by omega) (by omega)
        rw [hw3]
        clear hw3
        have hw4 : wrap64 (n * b + v) = n * b + v := wrap_in (by omega) (by omega)
        rw [hw4]
        exact ih' (n * b + v) (by omega) (by omega)
def readB (s : ByteArray) (b most kind : Int) : Int × Int := if bytesOf s = [] ∨ allB s [kind] = false then (0, 22) else if valA b 0 ((bytesOf s).map hexV) ≤ mx most 0 then (valA b 0 ((bytesOf s).map hexV), 0) else (0, 23)
theorem bytes_nil (s : ByteArray) : s.toList = ([] : List UInt8) ↔ bytesOf s = [] := by rw [ByteArray.toList_eq]; unfold bytesOf; simp
theorem read_ev (s : ByteArray) (b most kind : Int) (hb : 2 ≤ b) (hb2 : b ≤ 16) (hm : most ≤ 9223372036854775807) (hs : s.size < 9223372036854775807) : Ev (fun k => number_read.f k s b most kind) (readB s b most kind) := by
  unfold number_read.f readB
  by_cases h : s.toList = ([] : List UInt8)
  · rw [if_pos (.inl ((bytes_nil s).mp h))]
    exact Ev.pos h (Ev.step (fun _ => number_read.j0.eq_2 ..) (Ev.pos rfl (Ev.now _)))
  · refine Ev.neg h (Ev.bind (own_ev s [kind] (by simp) hs) (Ev.step (fun _ => number_read.j0.eq_2 ..) ?_))
    have h' : ¬ bytesOf s = [] := fun e => h ((bytes_nil s).mpr e)
    cases ha : allB s [kind] with
    | false => rw [if_pos (.inr rfl)]; exact Ev.pos rfl (Ev.now _)
    | true =>
      rw [if_neg (by simp [h'])]
      have h0 : 0 ≤ mx most 0 := by unfold mx; split <;> omega
      have h1 : mx most 0 ≤ 9223372036854775807 := by unfold mx; split <;> omega
      exact Ev.neg (by simp) ((read_loop s b (mx most 0) hb hb2 h1 hs s.size 0 0 (by omega) (by omega) h0).to (by rw [List.drop_zero]))
theorem dec_ev (s : ByteArray) (most : Int) (hm : most ≤ 9223372036854775807) (hs : s.size < 9223372036854775807) : Ev (fun k => number_Dec.f k s most) (readB s 10 most 4) := by
  unfold number_Dec.f; exact Ev.bind (read_ev s 10 most 4 (by omega) (by omega) hm hs) (Ev.now _)
theorem bits_and32 (a b : Nat) (ha : a < 4294967296) (hb : b < 4294967296) : Go.bits .and .u32 (a : Int) (b : Int) = ((a &&& b : Nat) : Int) :=
  (Go.bits_nat .u32 32 (by decide) (fun n h0 h1 => by rw [IntKind.wrap_u32]; omega) a b ha hb).1
theorem bits_or32 (a b : Nat) (ha : a < 4294967296) (hb : b < 4294967296) : Go.bits .or .u32 (a : Int) (b : Int) = ((a ||| b : Nat) : Int) :=
  (Go.bits_nat .u32 32 (by decide) (fun n h0 h1 => by rw [IntKind.wrap_u32]; omega) a b ha hb).2
theorem bits_shr32 (a c : Nat) (hc : c ≤ 32) : shr .u32 (a : Int) (c : Int) = ((a >>> c : Nat) : Int) := by
  unfold shr
  rw [Int.toNat_natCast, show min c IntKind.u32.bits = c from Nat.min_eq_left hc, Nat.shiftRight_eq_div_pow]
  simp
theorem shr_le (a c : Nat) : a >>> c ≤ a := by rw [Nat.shiftRight_eq_div_pow]; exact Nat.div_le_self _ _
theorem bit_at (a c : Nat) (ha : a < 4294967296) (hc : c ≤ 32) : (Go.bits .and .u32 (shr .u32 (a : Int) (c : Int)) 1 == 1) = a.testBit c := by
  have := shr_le a c
  rw [bits_shr32 a c hc, show (1 : Int) = ((1 : Nat) : Int) from rfl, bits_and32 _ _ (by omega) (by omega)]
  unfold Nat.testBit
  rw [Nat.and_comm]
  have h : 1 &&& (a >>> c) = 0 ∨ 1 &&& (a >>> c) = 1 := by rw [Nat.and_comm, Nat.and_one_is_mod]; omega
  rcases h with h | h <;> rw [h] <;> rfl
def hasB (n : Nat) (c : Int) : Bool := decide (0 ≤ c ∧ c < 30) && n.testBit c.toNat
theorem hasB_far {n : Nat} {c : Int} (h : ¬ (0 ≤ c ∧ c < 30)) : hasB n c = false := by unfold hasB; rw [decide_eq_false h]; rfl
theorem hasB_nat (n c : Nat) (h : c < 30) : hasB n (c : Int) = n.testBit c := by unfold hasB; rw [decide_eq_true (by omega)]; simp
theorem mask30 (a : Nat) : a &&& 1073741823 = a % 1073741824 := Nat.and_two_pow_sub_one_eq_mod a 30
theorem bits_mask32 (a : Nat) (ha : a < 4294967296) : Go.bits .and .u32 (a : Int) 1073741823 = ((a % 1073741824 : Nat) : Int) := by
  rw [← mask30]; exact bits_and32 a 1073741823 ha (by decide)
theorem qknown (c : Int) : quirks_known.f c = some (decide (0 ≤ c ∧ c < 30)) := by
  unfold quirks_known.f
  by_cases h : c ≥ 0
  · rw [if_pos h]; congr 1; simp; omega
  · rw [if_neg h]; congr 1; simp; omega
theorem qhas_some (n : Nat) (hn : n < 4294967296) (c : Int) : quirks_Has.f (n : Int) c = some (hasB n c) := by
  unfold quirks_Has.f
  rw [qknown, Option.bind_some]
  by_cases h : 0 ≤ c ∧ c < 30
  · obtain ⟨m, rfl⟩ : ∃ m : Nat, c = (m : Int) := ⟨c.toNat, by omega⟩
    rw [if_pos (decide_eq_true h), if_pos h.1, bit_at n m hn (by omega), hasB_nat n m (by omega)]
  · rw [if_neg (by simpa using h), hasB_far h]
theorem take_at (c : UInt8) (a r : List UInt8) (h : c ∉ a) : (a ++ c :: r).takeWhile (· != c) = a ∧ (a ++ c :: r).dropWhile (· != c) = c :: r := by
  induction a with
  | nil => simp
  | cons b a ih =>
    have hb : (b != c) = true := by simp only [bne_iff_ne]; intro e; exact h (by simp [e])
    obtain ⟨h1, h2⟩ := ih (fun hm => h (by simp [hm]))
    rw [List.cons_append, List.takeWhile_cons, List.dropWhile_cons, if_pos hb, if_pos hb, h1, h2]
    exact ⟨rfl, rfl⟩
theorem take_no (c : UInt8) (l : List UInt8) (h : c ∉ l) : l.takeWhile (· != c) = l ∧ l.dropWhile (· != c) = [] := by
  induction l with
  | nil => simp
  | cons b a ih =>
    have hb : (b != c) = true := by simp only [bne_iff_ne]; intro e; exact h (by simp [e])
    obtain ⟨h1, h2⟩ := ih (fun hm => h (by simp [hm]))
    rw [List.takeWhile_cons, List.dropWhile_cons, if_pos hb, if_pos hb, h1, h2]
    exact ⟨rfl, rfl⟩
def beforeB (c : UInt8) (s : ByteArray) : ByteArray := BA (s.data.toList.takeWhile (· != c))
def afterB (c : UInt8) (s : ByteArray) : ByteArray := BA ((s.data.toList.dropWhile (· != c)).drop 1)
def hasC (c : UInt8) (s : ByteArray) : Bool := decide (c ∈ s.data.toList)
theorem before_size (c : UInt8) (s : ByteArray) : (beforeB c s).size ≤ s.size := by
  unfold beforeB; rw [size_BA, ← data_length s]; exact (List.takeWhile_sublist _).length_le
theorem after_size (c : UInt8) (s : ByteArray) : (afterB c s).size ≤ s.size := by
  unfold afterB; rw [size_BA, ← data_length s, List.length_drop]; have := (List.dropWhile_sublist (l := s.data.toList) (· != c)).length_le; omega
theorem cut_some (c : UInt8) (s : ByteArray) (hs : s.size < 4611686018427387904) : strings_Cut.f s (BA [c]) = some (beforeB c s, afterB c s, hasC c s) := by
  have h1 : (BA [c]).size = 1 := rfl
  have hI : stringslite_Index.f s (BA [c]) = some (Lib.indexByte s.data.toList c) := by
    unfold stringslite_Index.f; rw [if_pos h1, data_BA]; rfl
  unfold strings_Cut.f stringslite_Cut.f
  rw [hI, Option.bind_some]
  rcases Int.lt_or_le (Lib.indexByte s.data.toList c) 0 with x | x
  · have hn := index_no c _ x
    obtain ⟨t1, t2⟩ := take_no c _ hn
    rw [if_neg (by omega), Option.bind_some]
    unfold beforeB afterB hasC
    rw [t1, t2, decide_eq_false hn, BA_data]; rfl
  · obtain ⟨a, r, e, hn, hi⟩ := index_yes c _ x
    obtain ⟨t1, t2⟩ := take_at c a r hn
    have hsz : s.size = a.length + (r.length + 1) := by rw [← data_length s, e]; simp
    have hw : wrap64 (Lib.indexByte s.data.toList c + ((BA [c]).size : Int)) = ((a.length + 1 : Nat) : Int) := by
      rw [hi, h1]; exact wrap_nat (by omega)
    rw [if_pos x, if_pos x, hw, hi, if_pos (by omega), if_pos (by omega), if_pos (by omega), Option.bind_some]
    unfold beforeB afterB hasC
    rw [e, t1, t2, decide_eq_true (by simp), Int.toNat_natCast, Int.toNat_natCast]
    have e1 : s.extract 0 a.length = BA a := by rw [ext_BA, e]; simp
    have e2 : s.extract (a.length + 1) s.size = BA r := by
      rw [ext_BA, e, show (a ++ c :: r).drop (a.length + 1) = r by simp, List.take_of_length_le (by omega)]
    rw [e1, e2]; rfl
def idxL : List ByteArray → ByteArray → Int
  | [], _ => -1
  | x :: l, s => if s.toList = x.toList then 0 else if idxL l s < 0 then -1 else idxL l s + 1
theorem idxL_ge (l : List ByteArray) (s : ByteArray) : -1 ≤ idxL l s ∧ idxL l s < l.length := by
  induction l with
  | nil => simp [idxL]
  | cons x l ih =>
    unfold idxL
    rw [List.length_cons]
    split
    · omega
    · split <;> omega
theorem idx_loop (l : List ByteArray) (s : ByteArray) (hl : l.length < 9223372036854775807) (d : Nat) : ∀ i : Nat, i + d = l.length → Ev (fun k => slices_Index_string_string.l0 k l s (l.length : Int) (i : Int)) (if idxL (l.drop i) s < 0 then -1 else (i : Int) + idxL (l.drop i) s) := by
  induction d with
  | zero =>
    intro i hi
    refine Ev.step (fun _ => slices_Index_string_string.l0.eq_2 ..) (Ev.neg (by omega) ((Ev.now _).to ?_))
    rw [List.drop_of_length_le (by omega)]; rfl
  | succ d ih =>
    intro i hi
    have hg := idxL_ge (l.drop (i + 1)) s
    rw [drop_rdOf ByteArray.empty l i (by omega)]
    refine Ev.step (fun _ => slices_Index_string_string.l0.eq_2 ..) (Ev.pos (by omega) (Ev.pos (by omega) (Ev.pos (by omega) ?_)))
    by_cases he : s.toList = (rdOf ByteArray.empty l (i : Int)).toList
    · refine Ev.pos he ((Ev.now _).to ?_)
      unfold idxL; rw [if_pos he]; simp
    · refine Ev.neg he ?_
      rw [wrap_nat (by omega)]
      refine (ih (i + 1) (by omega)).to ?_
      conv => rhs; unfold idxL
      rw [if_neg he]
      by_cases h0 : idxL (l.drop (i + 1)) s < 0
      · rw [if_pos h0, if_pos h0]; rfl
      · rw [if_neg h0, if_neg h0, if_neg (by omega)]; omega
theorem idx_ev (l : List ByteArray) (s : ByteArray) (hl : l.length < 9223372036854775807) : Ev (fun k => slices_Index_string_string.f k l s) (idxL l s) := by
  unfold slices_Index_string_string.f
  refine (idx_loop l s hl l.length 0 (by omega)).to ?_
  rw [List.drop_zero]
  have := idxL_ge l s
  by_cases h : idxL l s < 0
  · rw [if_pos h]; omega
  · rw [if_neg h]; simp
theorem bits_andnot32 (a b : Nat) (ha : a < 4294967296) (hb : b < 4294967296) : ∃ r : Nat, Go.bits .andNot .u32 (a : Int) (b : Int) = (r : Int) ∧ r ≤ a ∧ ∀ i, i < 32 → r.testBit i = (a.testBit i && !(b.testBit i)) := by
  refine ⟨(BitVec.ofInt 32 (a : Int) &&& ~~~BitVec.ofInt 32 (b : Int)).toNat, ?_, ?_, fun i hi => ?_⟩
  · show IntKind.u32.wrap (((BitVec.ofInt 32 (a : Int) &&& ~~~BitVec.ofInt 32 (b : Int)).toNat : Nat) : Int) = _
    rw [IntKind.wrap_u32]
    have := (BitVec.ofInt 32 (a : Int) &&& ~~~BitVec.ofInt 32 (b : Int)).isLt
    omega
  · rw [BitVec.toNat_and, BitVec.ofInt_natCast, BitVec.toNat_ofNat]
    exact Nat.le_trans Nat.and_le_left (Nat.mod_le _ _)
  · rw [BitVec.testBit_toNat, BitVec.getLsbD_and, BitVec.getLsbD_not, BitVec.ofInt_natCast, BitVec.ofInt_natCast, BitVec.getLsbD_ofNat, BitVec.getLsbD_ofNat]
    simp [hi]
theorem bit_or_set (a k : Nat) : (a ||| 2 ^ k).testBit k = true := by rw [Nat.testBit_or, Nat.testBit_two_pow]; simp
theorem bit_or_other (a k i : Nat) (h : k ≠ i) : (a ||| 2 ^ k).testBit i = a.testBit i := by rw [Nat.testBit_or, Nat.testBit_two_pow]; simp [h]
theorem clause_off (a k : Nat) (ha : a < 4294967296) (hk : k < 30) : ∃ r : Nat, r < 1073741824 ∧ Go.bits .andNot .u32 (Go.bits .and .u32 (a : Int) 1073741823) (shl .u32 1 (k : Int)) = (r : Int) ∧ Go.bits .or .u32 (r : Int) (shl .u32 1 (k : Int)) = ((r ||| 2 ^ k : Nat) : Int) ∧ r ||| 2 ^ k < 1073741824 ∧ hasB r (k : Int) = false ∧ hasB (r ||| 2 ^ k) (k : Int) = true ∧ ∀ c : Nat, c < 30 → c ≠ k → hasB (r ||| 2 ^ k) (c : Int) = hasB r (c : Int) := by
  have hm : a % 1073741824 < 1073741824 := Nat.mod_lt _ (by decide)
  have hp : 2 ^ k < 1073741824 := Nat.pow_lt_pow_right (by decide) hk
  obtain ⟨r, h1, h2, h3⟩ := bits_andnot32 (a % 1073741824) (2 ^ k) (by omega) (by omega)
  have hs : shl .u32 1 (k : Int) = ((2 ^ k : Nat) : Int) := by
    unfold shl
    rw [Int.toNat_natCast, show min k IntKind.u32.bits = k from Nat.min_eq_left (by show k ≤ 32; omega), IntKind.wrap_u32, Int.one_mul, show ((2 : Int) ^ k) = ((2 ^ k : Nat) : Int) by simp]
    generalize 2 ^ k = q at hp ⊢
    omega
  have hor : r ||| 2 ^ k < 1073741824 := Nat.or_lt_two_pow (n := 30) (show r < 2 ^ 30 by omega) hp
  refine ⟨r, by omega, ?_, ?_, hor, ?_, ?_, fun c hc hne => ?_⟩
  · rw [bits_mask32 a ha, hs]; exact h1
  · rw [hs]; exact bits_or32 r (2 ^ k) (by omega) (by omega)
  · rw [hasB_nat _ _ hk, h3 k (by omega), Nat.testBit_two_pow]; simp
  · rw [hasB_nat _ _ hk]; exact bit_or_set r k
  · rw [hasB_nat _ _ hc, hasB_nat _ _ hc]; exact bit_or_other r k c (fun e => hne e.symm)
def plusB (s : ByteArray) : ByteArray := if (s.extract 0 1).toList = ([43] : List UInt8) ∧ 1 ≤ s.size then s.extract 1 s.size else s
theorem plusB_size (s : ByteArray) : (plusB s).size ≤ s.size := by unfold plusB; split <;> simp [ByteArray.size_extract]
theorem plus_some (s : ByteArray) : strings_TrimPrefix.f s (⟨#[43]⟩ : ByteArray) = some (plusB s) := by
  unfold strings_TrimPrefix.f stringslite_TrimPrefix.f stringslite_HasPrefix.f plusB
  have hz : ((⟨#[43]⟩ : ByteArray).size : Int) = 1 := rfl
  have hz2 : (⟨#[43]⟩ : ByteArray).size = 1 := rfl
  have hl : (⟨#[43]⟩ : ByteArray).toList = ([43] : List UInt8) := by rw [ByteArray.toList_eq]
  by_cases h : (s.size : Int) ≥ 1
  · by_cases he : (s.extract 0 1).toList = ([43] : List UInt8)
    · simp [hz2, hl, he, show (1 : Int) ≤ (s.size : Int) from h, show 1 ≤ s.size by omega]
    · simp [hz2, hl, he, show (1 : Int) ≤ (s.size : Int) from h]
  · simp [hz2, show ¬ (1 : Int) ≤ (s.size : Int) from h, show ¬ 1 ≤ s.size by omega]
def lenOf (r : Int × Int) : Int × Int := if r.2 = 23 then (0, 413) else if r.2 = 22 then (0, 400) else (r.1, 0)
def lenS (n : Nat) (most : Int) (s : ByteArray) : Int × Int := lenOf (readB (if hasB n 23 = true then plusB s else s) 10 most 4)
def lenV (n : Nat) (most : Int) (l : List ByteArray) : Int × Int :=
  if l.length = 0 then (0, 0)
  else if (decide (l.length = 1) || (!(l.any fun s => !(s.toList == (rdOf ByteArray.empty l 0).toList)) && hasB n 24) || hasB n 25) = true then lenS n most (rdOf ByteArray.empty l 0)
  else if hasB n 26 = true then lenS n most (rdOf ByteArray.empty l ((l.length - 1 : Nat) : Int)) else (0, 400)
def lenB (n : Nat) (most : Int) (l : List ByteArray) : Int × Int := lenV n most (if hasB n 24 = true then listB l else l)
theorem len_j3 (n : Nat) (most : Int) (hm : most ≤ 9223372036854775807) (s : ByteArray) (hs : s.size < 9223372036854775807) : Ev (fun k => framing_Length.j3 k most s) (lenOf (readB s 10 most 4)) := by
  refine Ev.step (fun _ => framing_Length.j3.eq_2 ..) (Ev.bind (dec_ev s most hm hs) ?_)
  exact Ev.cond (fun _ => Ev.now _) (fun _ => Ev.cond (fun _ => Ev.now _) (fun _ => Ev.now _))
theorem len_j2 (n : Nat) (hn : n < 4294967296) (most : Int) (hm : most ≤ 9223372036854775807) (s : ByteArray) (hs : s.size < 9223372036854775807) : Ev (fun k => framing_Length.j2 k (n : Int) most s) (lenS n most s) := by
  refine Ev.step (fun _ => framing_Length.j2.eq_2 ..) (Ev.val (qhas_some n hn 23) ?_)
  unfold lenS
  have := plusB_size s
  cases hasB n 23 with
  | true => exact Ev.pos rfl (Ev.val (plus_some s) (len_j3 n most hm _ (by omega)))
  | false => exact Ev.neg (by simp) (len_j3 n most hm s hs)
theorem lenV_ev (n : Nat) (hn : n < 4294967296) (most : Int) (hm : most ≤ 9223372036854775807) (l : List ByteArray) (hl : l.length ≤ 1000000000000) (hs : ∀ x ∈ l, x.size < 9223372036854775807) : Ev (fun k => framing_Length.j0 k (n : Int) most l) (lenV n most l) := by
  unfold lenV
  refine Ev.step (fun _ => framing_Length.j0.eq_2 ..) ?_
  by_cases h0 : l.length = 0
  · rw [if_pos h0]; exact Ev.pos (by omega) (Ev.now _)
  rw [if_neg h0]
  refine Ev.neg (by omega) ?_
  have hw : wrap64 ((l.length : Int) - 1) = ((l.length - 1 : Nat) : Int) := by rw [wrap_in (by omega) (by omega)]; omega
  rw [hw]
  have h1 := hs _ (rdOf_mem l 0 (by omega))
  have h2 := hs _ (rdOf_mem l (l.length - 1) (by omega))
  have e0 : ((0 : Nat) : Int) = 0 := rfl
  rw [e0] at h1
  have hC : framing_Length_1_ContainsFunc.f l (rdOf ByteArray.empty l 0) = some (l.any fun s => !(s.toList == (rdOf ByteArray.empty l 0).toList)) := by
    unfold framing_Length_1_ContainsFunc.f; rw [if_pos (by omega)]
  refine Ev.pos (by omega) (Ev.pos (by omega) (Ev.pos (by omega) (Ev.val hC ?_)))
  have j1 : ∀ b : Bool, Ev (fun k => framing_Length.j1 k (n : Int) most (rdOf ByteArray.empty l ((l.length - 1 : Nat) : Int)) b (rdOf ByteArray.empty l 0)) (if b = true then lenS n most (rdOf ByteArray.empty l 0) else if hasB n 26 = true then lenS n most (rdOf ByteArray.empty l ((l.length - 1 : Nat) : Int)) else (0, 400)) := by
    intro b
    refine Ev.step (fun _ => framing_Length.j1.eq_2 ..) (Ev.cond (fun _ => len_j2 n hn most hm _ h1) (fun _ => Ev.val (qhas_some n hn 26) (Ev.cond (fun _ => len_j2 n hn most hm _ h2) (fun _ => Ev.now _))))
  by_cases hl1 : l.length = 1
  · rw [decide_eq_true hl1, Bool.true_or, Bool.true_or]
    exact Ev.pos (by omega) (j1 true)
  rw [decide_eq_false hl1, Bool.false_or]
  refine Ev.neg (by omega) ?_
  cases (l.any fun s => !(s.toList == (rdOf ByteArray.empty l 0).toList)) with
  | true =>
    rw [show (!true && hasB n 24 || hasB n 25) = hasB n 25 by simp]
    exact Ev.pos rfl (Ev.val (qhas_some n hn 25) (j1 _))
  | false =>
    refine Ev.neg (by simp) (Ev.val (qhas_some n hn 24) ?_)
    cases hasB n 24 with
    | true =>
      rw [show (!false && true || hasB n 25) = true by simp]
      exact Ev.pos rfl (j1 true)
    | false =>
      rw [show (!false && false || hasB n 25) = hasB n 25 by simp]
      exact Ev.neg (by simp) (Ev.val (qhas_some n hn 25) (j1 _))
theorem lenB_ev (n : Nat) (hn : n < 4294967296) (most : Int) (hm : most ≤ 9223372036854775807) (l : List ByteArray) (hl : l.length ≤ 1000) (hs : ∀ x ∈ l, x.size ≤ 1000) : Ev (fun k => framing_Length.f k (n : Int) most l) (lenB n most l) := by
  have h1 := listB_num l 1000 hs
  have h2 := listB_sz l 1000 hs
  have h3 : l.length * 1001 ≤ 1000 * 1001 := Nat.mul_le_mul_right _ hl
  unfold framing_Length.f lenB
  refine Ev.val (qhas_some n hn 24) ?_
  cases hasB n 24 with
  | true => exact Ev.pos rfl (Ev.bind (list_ev l (fun x hx => by have := hs x hx; omega) (by omega) (by omega)) (lenV_ev n hn most hm _ (by omega) (fun x hx => by have := h2 x hx; omega)))
  | false => exact Ev.neg (by simp) (lenV_ev n hn most hm l (by omega) (fun x hx => by have := hs x hx; omega))
theorem tmod_nat (v n : Nat) : Int.tmod (v : Int) (n : Int) = ((v % n : Nat) : Int) := by rw [Int.tmod_eq_emod_of_nonneg (by omega)]; exact (Int.natCast_emod v n).symm
def letterB (c : Int) : Bool := decide (97 ≤ Go.bits .or .u8 c 32) && decide (Go.bits .or .u8 c 32 ≤ 122)
def digitB (c : Int) : Bool := decide (48 ≤ c) && decide (c ≤ 57)
def plainB (o : ByteArray) (c : Int) : Bool := digitB c || letterB c || decide (0 ≤ Lib.indexByte o.data.toList c.toNat.toUInt8)
theorem digit_some (c : Int) : octet_Digit.f c = some (digitB c) := by
  unfold octet_Digit.f digitB
  by_cases h : c ≥ 48
  · rw [if_pos h, decide_eq_true (show 48 ≤ c from h), Bool.true_and]
  · rw [if_neg h, decide_eq_false (show ¬ 48 ≤ c from h), Bool.false_and]
def signsB (o : ByteArray) (p : Bool) : List Int → Bool
  | [] => true
  | [c] => plainB o c
  | [c, a] => plainB o c && plainB o a
  | c :: a :: b :: r => if plainB o c = true then signsB o p (a :: b :: r) else p && (c == 37) && (ofB a 5 && ofB b 5) && signsB o p r
theorem signs_plain {o : ByteArray} {p : Bool} {c : Int} (h : plainB o c = true) (l : List Int) : signsB o p (c :: l) = signsB o p l := by
  cases l with
  | nil => simp [signsB, h]
  | cons a l => cases l with
    | nil => simp [signsB, h]
    | cons b l => simp [signsB, h]
theorem signs_no {o : ByteArray} {p : Bool} {c : Int} (h : plainB o c = false) (a b : Int) (r : List Int) : signsB o p (c :: a :: b :: r) = (p && (c == 37) && (ofB a 5 && ofB b 5) && signsB o p r) := by
  simp [signsB, h]
theorem signs_short {o : ByteArray} {p : Bool} {c : Int} (h : plainB o c = false) (l : List Int) (hl : l.length < 2) : signsB o p (c :: l) = false := by
  cases l with
  | nil => simp [signsB, h]
  | cons a l => cases l with
    | nil => simp [signsB, h]
    | cons b l => simp at hl; omega
theorem two_bytes (s : ByteArray) (i : Nat) (h : i + 1 < s.size) : bytesOf (s.extract i (i + 2)) = [bt s (i : Int), bt s ((i + 1 : Nat) : Int)] := by
  have e : bytesOf (s.extract i (i + 2)) = ((bytesOf s).drop i).take 2 := by
    unfold bytesOf; rw [ext_data, show i + 2 - i = 2 by omega, List.map_take, List.map_drop]
  rw [e, drop_bytes s i (by omega), drop_bytes s (i + 1) (by omega)]; rfl
theorem signs_loop (s o : ByteArray) (p : Bool) (hs : s.size < 4611686018427387904) (d : Nat) : ∀ i : Nat, i + d = s.size →
    Ev (fun k => target_signs.l0 k s o p (i : Int)) (signsB o p ((bytesOf s).drop i)) := by
  induction d using Nat.strongRecOn with
  | ind d ih =>
    intro i hi
    by_cases hd : d = 0
    · refine Ev.step (fun _ => target_signs.l0.eq_2 ..) (Ev.neg (by omega) ((Ev.now _).to ?_))
      rw [List.drop_of_length_le (by rw [bytesOf_length]; omega)]; rfl
    have hw1 : wrap64 ((i : Int) + 1) = ((i + 1 : Nat) : Int) := wrap_nat (by omega)
    have hw2 : wrap64 ((i : Int) + 2) = ((i + 2 : Nat) : Int) := by rw [wrap_in (by omega) (by omega)]; omega
    have hw3 : wrap64 ((i : Int) + 3) = ((i + 3 : Nat) : Int) := by rw [wrap_in (by omega) (by omega)]; omega
    have hw4 : wrap64 (((i + 2 : Nat) : Int) + 1) = ((i + 3 : Nat) : Int) := wrap_nat (by omega)
    have hj : ∀ b, b = plainB o (bt s (i : Int)) → Ev (fun k => target_signs.j1 k s o p (i : Int) (bt s (i : Int)) b) (signsB o p ((bytesOf s).drop i)) := by
      intro b hb
      rw [drop_bytes s i (by omega)]
      refine Ev.step (fun _ => target_signs.j1.eq_2 ..) ?_
      rw [hw1, hw2, hw3, hw4]
      cases b with
      | true =>
        rw [signs_plain hb.symm]
        exact Ev.pos rfl (ih (d - 1) (by omega) (i + 1) (by omega))
      | false =>
        refine Ev.neg (by simp) ?_
        by_cases hl : i + 2 < s.size
        · rw [drop_bytes s (i + 1) (by omega), drop_bytes s (i + 1 + 1) (by omega), signs_no hb.symm]
          cases p with
          | false => exact Ev.neg (by simp) ((Ev.now _).to (by simp))
          | true =>
            refine Ev.pos rfl ?_
            by_cases h37 : bt s (i : Int) = 37
            · refine Ev.pos h37 (Ev.pos (by omega) (Ev.pos (by omega) (Ev.pos (by omega) (Ev.pos (by omega) ?_))))
              rw [Int.toNat_natCast, Int.toNat_natCast]
              refine Ev.bind (own_ev _ [5] (by simp) (by rw [ByteArray.size_extract]; omega)) ?_
              have e : allB (s.extract (i + 1) (i + 3)) [5] = (ofB (bt s ((i + 1 : Nat) : Int)) 5 && ofB (bt s ((i + 1 + 1 : Nat) : Int)) 5) := by
                unfold allB; rw [two_bytes s (i + 1) (by omega)]; simp
              rw [e, h37]
              cases (ofB (bt s ((i + 1 : Nat) : Int)) 5 && ofB (bt s ((i + 1 + 1 : Nat) : Int)) 5) with
              | true => exact Ev.pos rfl ((ih (d - 3) (by omega) (i + 3) (by omega)).to (by simp))
              | false => exact Ev.neg (by simp) ((Ev.now _).to (by simp))
            · refine Ev.neg h37 ((Ev.now _).to ?_)
              rw [show (bt s (i : Int) == 37) = false by simp [h37]]; simp
        · rw [signs_short hb.symm _ (by rw [List.length_drop, bytesOf_length]; omega)]
          cases p with
          | false => exact Ev.neg (by simp) (Ev.now _)
          | true =>
            refine Ev.pos rfl ?_
            by_cases h37 : bt s (i : Int) = 37
            · exact Ev.pos h37 (Ev.neg (by omega) (Ev.now _))
            · exact Ev.neg h37 (Ev.now _)
    have hx : ∀ b, b = (digitB (bt s (i : Int)) || letterB (bt s (i : Int))) → b = false → Ev (fun k => (strings_IndexByte.f o (bt s (i : Int))).bind fun t => target_signs.j1 k s o p (i : Int) (bt s (i : Int)) (decide (t ≥ 0))) (signsB o p ((bytesOf s).drop i)) := by
      intro b hb h0
      refine Ev.val rfl (hj _ ?_)
      unfold plainB; rw [← hb, h0, Bool.false_or]
    refine Ev.step (fun _ => target_signs.l0.eq_2 ..) (Ev.pos (by omega) (Ev.pos (by omega) (Ev.val (digit_some _) ?_)))
    cases hdg : digitB (bt s (i : Int)) with
    | true => exact Ev.pos rfl (hj true (by unfold plainB; rw [hdg]; rfl))
    | false =>
      refine Ev.neg (by simp) ?_
      by_cases h1 : (Go.bits .or .u8 (bt s (i : Int)) 32) ≥ 97
      · refine Ev.pos h1 ?_
        by_cases h2 : (Go.bits .or .u8 (bt s (i : Int)) 32) ≤ 122
        · exact Ev.pos h2 (hj true (by have h1' : (97 : Int) ≤ Go.bits .or .u8 (bt s (i : Int)) 32 := h1; unfold plainB letterB; simp [h1', h2]))
        · exact Ev.neg h2 (hx false (by unfold letterB; rw [hdg, decide_eq_false h2]; simp) rfl)
      · exact Ev.neg h1 (hx false (by have h1' : ¬ (97 : Int) ≤ Go.bits .or .u8 (bt s (i : Int)) 32 := h1; unfold letterB; simp [hdg, h1']) rfl)
theorem signs_ev (s o : ByteArray) (p : Bool) (hs : s.size < 4611686018427387904) : Ev (fun k => target_signs.f k s o p) (signsB o p (bytesOf s)) :=
  (signs_loop s o p hs s.size 0 (by omega)).to (by rw [List.drop_zero])
def hostB (s : ByteArray) : Bool := (if hasC 58 s = true then ((readB (afterB 58 s) 10 65535 4).2 == 0) && decide ((afterB 58 s).size ≤ 5) else true) && (decide (0 < (beforeB 58 s).size) && (decide ((beforeB 58 s).size ≤ 255) && signsB (⟨#[45, 46, 95, 126]⟩ : ByteArray) false (bytesOf (beforeB 58 s))))
theorem nil_size (s : ByteArray) : s.toList = ([] : List UInt8) ↔ s.size = 0 := by
  rw [bytes_nil, ← bytesOf_length]; exact List.length_eq_zero_iff.symm
theorem host_ev (s : ByteArray) (hs : s.size < 4611686018427387904) : Ev (fun k => target_Host.f k s) (hostB s) := by
  unfold target_Host.f hostB
  have hb := before_size 58 s
  have ha := after_size 58 s
  have main : Ev (fun k => if (beforeB 58 s).toList = ([] : List UInt8) then (some false) else (if ((beforeB 58 s).size : Int) ≤ 255 then ((target_signs.f k (beforeB 58 s) (⟨#[45, 46, 95, 126]⟩ : ByteArray) false).bind fun t141 => (some t141)) else (some false))) (decide (0 < (beforeB 58 s).size) && (decide ((beforeB 58 s).size ≤ 255) && signsB (⟨#[45, 46, 95, 126]⟩ : ByteArray) false (bytesOf (beforeB 58 s)))) := by
    by_cases h0 : (beforeB 58 s).toList = ([] : List UInt8)
    · refine Ev.pos h0 ((Ev.now _).to ?_)
      rw [decide_eq_false (by have := (nil_size _).mp h0; omega)]; rfl
    · refine Ev.neg h0 ?_
      rw [decide_eq_true (Nat.pos_of_ne_zero fun e => h0 ((nil_size (beforeB 58 s)).mpr e)), Bool.true_and]
      by_cases h1 : ((beforeB 58 s).size : Int) ≤ 255
      · rw [decide_eq_true (by omega : (beforeB 58 s).size ≤ 255), Bool.true_and]
        exact Ev.pos h1 (Ev.bind (signs_ev _ _ false (by omega)) (Ev.now _))
      · rw [decide_eq_false (by omega), Bool.false_and]
        exact Ev.neg h1 (Ev.now _)
  refine Ev.val (cut_some 58 s hs) ?_
  cases hc : hasC 58 s with
  | false => exact Ev.neg (by simp) (main.to (by simp))
  | true =>
    refine Ev.pos rfl (Ev.bind (dec_ev (afterB 58 s) 65535 (by decide) (Nat.lt_of_le_of_lt ha (Nat.lt_trans hs (by decide)))) ?_)
    rw [if_pos rfl]
    by_cases he : (readB (afterB 58 s) 10 65535 4).2 = 0
    · rw [show ((readB (afterB 58 s) 10 65535 4).2 == 0) = true by simp [he], Bool.true_and]
      refine Ev.pos he ?_
      by_cases h5 : ((afterB 58 s).size : Int) > 5
      · rw [decide_eq_false (by omega)]; exact Ev.pos h5 (Ev.now _)
      · rw [decide_eq_true (by omega : (afterB 58 s).size ≤ 5), Bool.true_and]; exact Ev.neg h5 main
    · rw [show ((readB (afterB 58 s) 10 65535 4).2 == 0) = false by simp [he]]
      exact Ev.neg he (Ev.now _)
theorem ev_all {g : Nat → ByteArray → Option Bool} {v : ByteArray → Bool} (l : List ByteArray) (h : ∀ s ∈ l, Ev (fun k => g k s) (v s)) : ∃ K, ∀ k, K ≤ k → ∀ s ∈ l, g k s = some (v s) := by
  induction l with
  | nil => exact ⟨0, fun _ _ _ h => by cases h⟩
  | cons x l ih =>
    obtain ⟨K1, h1⟩ := ih (fun s hs => h s (by simp [hs]))
    obtain ⟨K2, h2⟩ := h x (by simp)
    refine ⟨max K1 K2, fun k hk s hs => ?_⟩
    rcases List.mem_cons.mp hs with rfl | hs
    · exact h2 k (by omega)
    · exact h1 k (by omega) s hs
theorem hostsAny_ev (l : List ByteArray) (hl : l.length ≤ 1000000) (hs : ∀ x ∈ l, x.size ≤ 1000000) : Ev (fun k => framing_Hosts_1_ContainsFunc.f k l) (l.any fun s => !(hostB s)) := by
  obtain ⟨K, hK⟩ := ev_all (g := fun k s => framing_Hosts_1.f k s) (v := fun s => !(hostB s)) l (fun s h => by
    unfold framing_Hosts_1.f
    exact Ev.bind (host_ev s (by have := hs s h; omega)) (Ev.now _))
  refine ⟨K, fun k hk => ?_⟩
  show framing_Hosts_1_ContainsFunc.f k l = _
  unfold framing_Hosts_1_ContainsFunc.f
  rw [if_pos ⟨by omega, by rw [List.all_eq_true]; intro s h; rw [hK k hk s h]; rfl⟩]
  congr 1
  rw [Bool.eq_iff_iff, List.any_eq_true, List.any_eq_true]
  constructor
  · rintro ⟨s, h, e⟩; exact ⟨s, h, by rw [hK k hk s h] at e; exact e⟩
  · rintro ⟨s, h, e⟩; exact ⟨s, h, by rw [hK k hk s h]; exact e⟩
def hostN : ByteArray := ⟨#[72, 111, 115, 116]⟩
def hostsN (n : Nat) (minor : Int) (h : List ByteArray) : Bool := if h.length = 0 then (decide (minor ≠ 1) || hasB n 15) else if 1 < h.length then hasB n 16 else true
def hostsB (n : Nat) (minor : Int) (l : List S34) : Int := if (hostsN n minor (findB l hostN) && !((findB l hostN).any fun s => !(hostB s))) = true then 0 else 400
theorem findB_szs (l : List S34) (n : ByteArray) (m : Nat) (h : ∀ x ∈ l, x.f1.size ≤ m) : ∀ y ∈ findB l n, y.size ≤ m := by
  intro y hy
  obtain ⟨x, hx, e⟩ := List.mem_map.mp hy
  rw [← e]; exact h x (List.mem_filter.mp hx).1
theorem hosts_ev (n : Nat) (hn : n < 4294967296) (minor : Int) (l : List S34) (hl : l.length ≤ 1000) (hz : ∀ x ∈ l, x.f0.size ≤ 1000 ∧ x.f1.size ≤ 1000) : Ev (fun k => framing_Hosts.f k (n : Int) minor l) (hostsB n minor l) := by
  have h3 := findB_len l hostN
  have h4 := findB_szs l hostN 1000 (fun x hx => (hz x hx).2)
  unfold framing_Hosts.f hostsB
  refine Ev.bind (find_ev hostN (by decide) l (fun x hx => by have := (hz x hx).1; omega) (by omega)) ?_
  have hA := hostsAny_ev (findB l hostN) (by omega) (fun x hx => by have := h4 x hx; omega)
  generalize findB l hostN = h at h3 hA ⊢
  have tail : Ev (fun k => (framing_Hosts_1_ContainsFunc.f k h).bind fun t158 => (if t158 = true then (some (400 : Int)) else (some 0))) (if (!(h.any fun s => !(hostB s))) = true then 0 else 400) := by
    refine Ev.bind hA ?_
    cases h.any fun s => !(hostB s) with
    | true => exact Ev.pos rfl (Ev.now _)
    | false => exact Ev.neg (by simp) (Ev.now _)
  unfold hostsN
  by_cases h0 : h.length = 0
  · rw [if_pos h0]
    refine Ev.pos (by omega) ?_
    by_cases hm : minor = 1
    · rw [decide_eq_false (by simpa using hm), Bool.false_or]
      refine Ev.pos hm (Ev.val (qhas_some n hn 15) ?_)
      cases hasB n 15 with
      | true => exact Ev.pos rfl (tail.to (by simp))
      | false => exact Ev.neg (by simp) ((Ev.now _).to (by simp))
    · rw [decide_eq_true hm, Bool.true_or, Bool.true_and]
      exact Ev.neg hm tail
  · rw [if_neg h0]
    refine Ev.neg (by omega) ?_
    by_cases h1 : 1 < h.length
    · rw [if_pos h1]
      refine Ev.pos (by omega) (Ev.val (qhas_some n hn 16) ?_)
      cases hasB n 16 with
      | true => exact Ev.pos rfl (tail.to (by simp))
      | false => exact Ev.neg (by simp) ((Ev.now _).to (by simp))
    · rw [if_neg h1, Bool.true_and]
      exact Ev.neg (by omega) (Ev.pos (by omega) tail)
def blankT : ByteArray := ⟨#[11, 12, 32, 9]⟩
def chunkedT : ByteArray := ⟨#[99, 104, 117, 110, 107, 101, 100]⟩
def codS (n : Nat) (s : ByteArray) : ByteArray := Low.lower (if hasB n 17 = true then Trim.trimB (Trim.inB blankT) s else s)
def codV (n : Nat) (l : List ByteArray) : Bool := if l.length = 0 then false else if (decide (1 < l.length) && !(hasB n 18)) = true then false else decide (idxL l chunkedT = ((l.length - 1 : Nat) : Int))
def codB (n : Nat) (l : List ByteArray) : Bool := codV n ((listB l).map (codS n))
theorem rdOf_at (a r : List ByteArray) (x : ByteArray) : rdOf ByteArray.empty (a ++ x :: r) (a.length : Int) = x := by unfold rdOf; simp [List.getD_eq_getElem?_getD]
theorem set_at {α : Type} (a r : List α) (x y : α) : (a ++ x :: r).set a.length y = a ++ y :: r := by simp
theorem cod_end (n : Nat) (hn : n < 4294967296) (l : List ByteArray) (hl : l.length ≤ 1000000000) : Ev (fun k => framing_Coding.l0 k (n : Int) l (l.length : Int) (l.length : Int)) (codV n l) := by
  have hw : wrap64 ((l.length : Int) - 1) = (l.length : Int) - 1 := wrap_in (by omega) (by omega)
  have fin : Ev (fun k => (slices_Index_string_string.f k l (⟨#[99, 104, 117, 110, 107, 101, 100]⟩ : ByteArray)).bind fun t204 => (some (t204 == (wrap64 ((l.length : Int) - 1))))) (idxL l chunkedT == (l.length : Int) - 1) := by
    refine Ev.bind (idx_ev l chunkedT (by omega)) ((Ev.now _).to ?_)
    rw [hw]
  unfold codV
  refine Ev.step (fun _ => framing_Coding.l0.eq_2 ..) (Ev.neg (by omega) ?_)
  by_cases h0 : l.length = 0
  · rw [if_pos h0]
    exact Ev.pos (by rw [hw]; omega) (Ev.now _)
  · rw [if_neg h0]
    refine Ev.neg (by rw [hw]; omega) ?_
    have he : (idxL l chunkedT == (l.length : Int) - 1) = decide (idxL l chunkedT = ((l.length - 1 : Nat) : Int)) := by
      rw [Bool.eq_iff_iff, beq_iff_eq, decide_eq_true_eq]; omega
    by_cases h1 : 1 < l.length
    · rw [decide_eq_true h1, Bool.true_and]
      refine Ev.pos (by rw [hw]; omega) (Ev.val (qhas_some n hn 18) ?_)
      cases hasB n 18 with
      | true => exact Ev.pos rfl (fin.to (by rw [he]; rfl))
      | false => exact Ev.neg (by simp) ((Ev.now _).to (by simp))
    · rw [decide_eq_false h1, Bool.false_and, if_neg (by simp)]
      exact Ev.neg (by rw [hw]; omega) (fin.to he)
theorem cod_loop (n : Nat) (hn : n < 4294967296) (r : Bool) (rest : List ByteArray) : ∀ acc : List ByteArray, acc.length + rest.length ≤ 1000000000 → (∀ x ∈ rest, x.size ≤ 1000000) →
    Ev (fun k => framing_Coding.l0 k (n : Int) (acc ++ rest.map (codS n)) ((acc.length + rest.length : Nat) : Int) ((acc.length + rest.length : Nat) : Int)) r → Ev (fun k => framing_Coding.l0 k (n : Int) (acc ++ rest) ((acc.length + rest.length : Nat) : Int) (acc.length : Int)) r := by
  induction rest with
  | nil => intro acc _ _ h; exact h
  | cons x rest ih =>
    intro acc hl hz h
    have hx := hz x (by simp)
    have hlen : (acc ++ x :: rest).length = acc.length + (rest.length + 1) := by simp
    rw [List.length_cons] at hl h ⊢
    have hi := ih (acc ++ [codS n x]) (by simp; omega) (fun y hy => hz y (by simp [hy])) (by
      rw [List.append_assoc, show (acc ++ [codS n x]).length + rest.length = acc.length + (rest.length + 1) by simp; omega]; exact h)
    rw [List.append_assoc, show (acc ++ [codS n x]).length + rest.length = acc.length + (rest.length + 1) by simp; omega, show (acc ++ [codS n x]).length = acc.length + 1 by simp] at hi
    refine Ev.step (fun _ => framing_Coding.l0.eq_2 ..) (Ev.pos (by omega) (Ev.pos (by omega) (Ev.pos (by omega) (Ev.val (qhas_some n hn 17) ?_))))
    rw [rdOf_at, wrap_nat (by omega)]
    have hc : codS n x = Low.lower (if hasB n 17 = true then Trim.trimB (Trim.inB blankT) x else x) := rfl
    cases h17 : hasB n 17 with
    | true =>
      rw [h17, if_pos rfl] at hc
      have hts : (Trim.trimB (Trim.inB blankT) x).size ≤ x.size := by
        unfold Trim.trimB Trim.trimR Trim.trimL
        rw [ByteArray.size_extract, ByteArray.size_extract]; omega
      refine Ev.pos rfl (Ev.val (trimOf_some (by omega)) (Ev.val (lower_some (by show (Trim.trimB (Trim.inB blankT) x).size ≤ _; omega)) ?_))
      rw [Int.toNat_natCast, set_at]
      show Ev (fun k => framing_Coding.l0 k (n : Int) (acc ++ Low.lower (Trim.trimB (Trim.inB blankT) x) :: rest) _ _) r
      rw [← hc]; exact hi
    | false =>
      rw [h17, if_neg (by simp)] at hc
      refine Ev.neg (by simp) (Ev.val (lower_some (by omega)) ?_)
      rw [Int.toNat_natCast, set_at, ← hc]; exact hi
theorem cod_ev (n : Nat) (hn : n < 4294967296) (l : List ByteArray) (hl : l.length ≤ 1000) (hs : ∀ x ∈ l, x.size ≤ 1000) : Ev (fun k => framing_Coding.f k (n : Int) l) (codB n l) := by
  have h1 := listB_num l 1000 hs
  have h2 := listB_sz l 1000 hs
  have h3 : l.length * 1001 ≤ 1000 * 1001 := Nat.mul_le_mul_right _ hl
  unfold framing_Coding.f codB
  refine Ev.bind (list_ev l (fun x hx => by have := hs x hx; omega) (by omega) (by omega)) ?_
  have := cod_loop n hn (codV n ((listB l).map (codS n))) (listB l) [] (by simp; omega) (fun x hx => by have := h2 x hx; omega) (by
    have h := cod_end n hn ((listB l).map (codS n)) (by rw [List.length_map]; omega)
    rw [List.length_map] at h
    simpa using h)
  simpa using this
def teN : ByteArray := ⟨#[84, 114, 97, 110, 115, 102, 101, 114, 45, 69, 110, 99, 111, 100, 105, 110, 103]⟩
def clN : ByteArray := ⟨#[67, 111, 110, 116, 101, 110, 116, 45, 76, 101, 110, 103, 116, 104]⟩
def finD (r : Int × Int) : Int × Int × Int := if r.2 = 0 then (1, r.1, 0) else (0, 0, r.2)
def decC (n : Nat) (ch : Bool) (minor : Int) (is : Bool) (c0 : Bool) (f : Int × Int × Int) : Int × Int × Int :=
  if (decide (minor = 0) && !(hasB n 20)) = true then (0, 0, 400) else if ((is && (c0 || hasB n 21)) && ch) = true then (2, 0, 0) else if ((is && (c0 || hasB n 21)) || (!is && !(hasB n 19))) = true then (0, 0, 501) else if (is && !(hasB n 22)) = true then (0, 0, 400) else f
def frmB (n : Nat) (body : Int) (ch : Bool) (minor : Int) (l : List S34) : Int × Int × Int :=
  if hostsB n minor l = 0 then (if (findB l teN).length = 0 then finD (lenB n body (findB l clN)) else decC n ch minor (codB n (findB l teN)) (decide ((findB l clN).length = 0)) (finD (lenB n body (findB l clN)))) else (0, 0, hostsB n minor l)
theorem dec_ev_all (n : Nat) (hn : n < 4294967296) (u0 u1 u2 body u4 u5 u6 u7 : Int) (hb : body ≤ 9223372036854775807) (ch old : Bool) (minor : Int) (l : List S34) (hl : l.length ≤ 1000) (hz : ∀ x ∈ l, x.f0.size ≤ 1000 ∧ x.f1.size ≤ 1000) :
    Ev (fun k => framing_Decide.f k (n : Int) u0 u1 u2 body u4 u5 u6 u7 ch old minor l) (frmB n body ch minor l) := by
  have t1 := findB_len l teN
  have t2 := findB_szs l teN 1000 (fun x hx => (hz x hx).2)
  have c1 := findB_len l clN
  have c2 := findB_szs l clN 1000 (fun x hx => (hz x hx).2)
  have hL := lenB_ev n hn body hb (findB l clN) (by omega) c2
  have hC := cod_ev n hn (findB l teN) (by omega) t2
  have hH := hosts_ev n hn minor l hl hz
  have hT := find_ev teN (by decide) l (fun x hx => by have := (hz x hx).1; omega) (by omega)
  have hF := find_ev clN (by decide) l (fun x hx => by have := (hz x hx).1; omega) (by omega)
  unfold framing_Decide.f frmB
  generalize findB l clN = cl at c1 hL hF ⊢
  generalize findB l teN = te at t1 hC hT ⊢
  generalize codB n te = is at hC ⊢
  generalize lenB n body cl = ln at hL ⊢
  have fin : Ev (fun k => (framing_Length.f k (n : Int) body cl).bind fun bt239 => (if bt239.2 = 0 then (some ((1 : Int), bt239.1, (0 : Int))) else (some (0, 0, bt239.2)))) (finD ln) := by
    refine Ev.bind hL ?_
    unfold finD
    exact Ev.cond (fun _ => Ev.now _) (fun _ => Ev.now _)
  have j4 : ∀ b : Bool, Ev (fun k => framing_Decide.j4 k (n : Int) cl b u0 u1 u2 body u4 u5 u6 u7 ch old) (if b = true then (0, 0, 400) else finD ln) := fun b =>
    Ev.step (fun _ => framing_Decide.j4.eq_2 ..) (Ev.cond (fun _ => Ev.now _) (fun _ => fin))
  have j3 : ∀ b : Bool, Ev (fun k => framing_Decide.j3 k (n : Int) cl is b u0 u1 u2 body u4 u5 u6 u7 ch old) (if b = true then (0, 0, 501) else if (is && !(hasB n 22)) = true then (0, 0, 400) else finD ln) := by
    intro b
    refine Ev.step (fun _ => framing_Decide.j3.eq_2 ..) (Ev.cond (fun _ => Ev.now _) (fun _ => ?_))
    cases is with
    | true => exact Ev.pos rfl (Ev.val (qhas_some n hn 22) ((j4 _).to (by simp)))
    | false => exact Ev.neg (by simp) ((j4 false).to (by simp))
  have j2 : ∀ b : Bool, Ev (fun k => framing_Decide.j2 k (n : Int) cl is b u0 u1 u2 body u4 u5 u6 u7 ch old) (if (b || (!is && !(hasB n 19))) = true then (0, 0, 501) else if (is && !(hasB n 22)) = true then (0, 0, 400) else finD ln) := by
    intro b
    refine Ev.step (fun _ => framing_Decide.j2.eq_2 ..) ?_
    cases b with
    | true => exact Ev.pos rfl ((j3 true).to (by simp))
    | false =>
      refine Ev.neg (by simp) ?_
      cases is with
      | true => exact Ev.pos rfl ((j3 false).to (by simp))
      | false => exact Ev.neg (by simp) (Ev.val (qhas_some n hn 19) ((j3 _).to (by simp)))
  have j1 : ∀ b : Bool, Ev (fun k => framing_Decide.j1 k (n : Int) cl is b u0 u1 u2 body u4 u5 u6 u7 ch old) (if b = true then (2, 0, 0) else if ((is && (decide (cl.length = 0) || hasB n 21)) || (!is && !(hasB n 19))) = true then (0, 0, 501) else if (is && !(hasB n 22)) = true then (0, 0, 400) else finD ln) := by
    intro b
    refine Ev.step (fun _ => framing_Decide.j1.eq_2 ..) (Ev.cond (fun _ => Ev.now _) (fun _ => ?_))
    cases is with
    | true =>
      refine Ev.pos rfl ?_
      by_cases h0 : cl.length = 0
      · exact Ev.pos (by omega) ((j2 true).to (by simp [h0]))
      · exact Ev.neg (by omega) (Ev.val (qhas_some n hn 21) ((j2 _).to (by simp [h0])))
    | false => exact Ev.neg (by simp) ((j2 false).to (by simp))
  have j0 : ∀ b : Bool, Ev (fun k => framing_Decide.j0 k (n : Int) cl is b u0 u1 u2 body u4 u5 u6 u7 ch old) (if b = true then (0, 0, 400) else if ((is && (decide (cl.length = 0) || hasB n 21)) && ch) = true then (2, 0, 0) else if ((is && (decide (cl.length = 0) || hasB n 21)) || (!is && !(hasB n 19))) = true then (0, 0, 501) else if (is && !(hasB n 22)) = true then (0, 0, 400) else finD ln) := by
    intro b
    refine Ev.step (fun _ => framing_Decide.j0.eq_2 ..) (Ev.cond (fun _ => Ev.now _) (fun _ => ?_))
    cases is with
    | true =>
      refine Ev.pos rfl ?_
      by_cases h0 : cl.length = 0
      · exact Ev.pos (by omega) ((j1 ch).to (by simp [h0]))
      · refine Ev.neg (by omega) (Ev.val (qhas_some n hn 21) ?_)
        cases h21 : hasB n 21 with
        | true => exact Ev.pos rfl ((j1 ch).to (by simp [h21]))
        | false => exact Ev.neg (by simp) ((j1 false).to (by simp [h0, h21]))
    | false => exact Ev.neg (by simp) ((j1 false).to (by simp))
  refine Ev.bind hH ?_
  refine Ev.cond (fun _ => Ev.bind hT (Ev.bind hF ?_)) (fun _ => Ev.now _)
  by_cases h0 : te.length = 0
  · rw [if_pos h0]
    exact Ev.neg (by omega) fin
  · rw [if_neg h0]
    refine Ev.pos (by omega) (Ev.bind hC ?_)
    unfold decC
    by_cases hm : minor = 0
    · rw [decide_eq_true hm, Bool.true_and]
      exact Ev.pos hm (Ev.val (qhas_some n hn 20) (j0 _))
    · rw [decide_eq_false hm, Bool.false_and]
      exact Ev.neg hm (j0 false)
theorem known_ev : Ev (fun k => parallaxlaw10_known.f k) true := Ev.of (fun k => parallaxlaw10_known.mono k) (k := 40) (by decide +kernel)
end Go.Proofs.YtlheepfjdmhplaaDoor.PFramingClauses
