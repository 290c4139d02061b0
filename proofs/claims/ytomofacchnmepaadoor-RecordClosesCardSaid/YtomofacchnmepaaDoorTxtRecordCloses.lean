/- What the printed functions of the text layer come to. -/
import Derived.Test.YtomofacchnmepaaDoorPRecordClosesx
import Derived.Test.YtomofacchnmepaaDoorParts
import Derived.Test.YtomofacchnmepaaDoorLowP
import Derived.Test.YtomofacchnmepaaDoorTrimP
import Derived.Test.YtomofacchnmepaaDoorHex
namespace Go.Proofs.YtomofacchnmepaaDoor.PRecordCloses
open Go.RowKit Go.Proofs.YtomofacchnmepaaDoorW.PrintWords Go.Proofs.YtomofacchnmepaaDoorW.PrintLast Go.Proofs.YtomofacchnmepaaDoorW.PrintMore Go.Proofs.YtomofacchnmepaaDoor.Aid Go.Proofs.YtomofacchnmepaaDoor.Parts
set_option linter.unusedVariables false
set_option linter.unusedSimpArgs false

theorem rdOf_mem (l : List ByteArray) (j : Nat) (h : j < l.length) : rdOf ByteArray.empty l (j : Int) ∈ l := by
  unfold rdOf; simp [List.getD_eq_getElem?_getD, h]
theorem set_take (a : List ByteArray) (i : Nat) (x : ByteArray) (h : i < a.length) : (a.set i x).take (i + 1) = a.take i ++ [x] := by
  rw [List.take_succ_eq_append_getElem (by simpa using h), List.getElem_set_self, List.take_set_of_le (Nat.le_refl _)]
theorem BA_one (c : UInt8) : (BA [c]).size = 1 := rfl
theorem wrap_one (j : Nat) (c : UInt8) (h : j < 9223372036854775807) : wrap64 ((j : Int) + ((BA [c]).size : Int)) = ((j + 1 : Nat) : Int) := by
  rw [show ((BA [c]).size : Int) = 1 by rw [BA_one]; rfl]; exact wrap_nat h
theorem genSplit_ev (c : UInt8) (m : Nat) : ∀ (s : ByteArray) (a : List ByteArray) (i n : Nat), s.size ≤ 1000000000000 → s.data.toList.count c = m → n = i + m → a.length = n + 1 → n ≤ 1000000000001 →
    Ev (fun k => strings_genSplit.l0 k s (BA [c]) 0 (n : Int) a (i : Int)) (a.take i ++ parts c s) := by
  induction m with
  | zero =>
    intro s a i n hs hc hn ha hb
    have hp : parts c s = [s] := parts_no c s (by
      rcases Int.lt_or_le (Lib.indexByte s.data.toList c) 0 with x | x
      · exact x
      · have := (index_nil_iff c _).mp x
        have := List.count_pos_iff.mpr this
        omega)
    have hw : wrap64 ((i : Int) + 1) = ((i + 1 : Nat) : Int) := wrap_nat (by omega)
    refine Ev.step (fun _ => strings_genSplit.l0.eq_2 ..) (Ev.neg (by omega) (Ev.pos (by omega) (Ev.pos (by omega) ?_)))
    rw [hw]
    refine Ev.pos (by omega) (Ev.pos (by omega) ((Ev.now _).to ?_))
    rw [hp, Int.toNat_natCast, Int.toNat_natCast, set_take _ _ _ (by omega)]
  | succ m ih =>
    intro s a i n hs hc hn ha hb
    have hidx : 0 ≤ Lib.indexByte s.data.toList c := (index_nil_iff c _).mpr (List.count_pos_iff.mp (by omega))
    obtain ⟨j, hj, hjs, hp, hcnt⟩ := parts_yes c s hidx
    have hI : strings_Index.f s (BA [c]) = some (j : Int) := by
      unfold strings_Index.f; rw [if_pos (BA_one c), data_BA]
      show some (Lib.indexByte s.data.toList c) = _
      rw [hj]
    refine Ev.step (fun _ => strings_genSplit.l0.eq_2 ..) (Ev.pos (by omega) (Ev.val hI (Ev.neg (by omega) ?_)))
    have hi9 : i < 9223372036854775807 := by omega
    have hj9 : j < 9223372036854775807 := by omega
    rw [show wrap64 ((j : Int) + 0) = ((j : Nat) : Int) by rw [Int.add_zero]; exact wrap_in (by omega) (by omega), wrap_one j c hj9, wrap_nat hi9]
    refine Ev.pos (by omega) (Ev.pos (by omega) (Ev.pos (by omega) (Ev.pos (by omega) (Ev.pos (by omega) (Ev.pos (by omega) ?_)))))
    rw [Int.toNat_natCast, Int.toNat_natCast, Int.toNat_natCast]
    have hx : (s.extract (j + 1) s.size).size ≤ 1000000000000 := by rw [Trim.ext_size _ _ _ (Nat.le_refl _)]; omega
    refine (ih (s.extract (j + 1) s.size) (a.set i (s.extract 0 j)) (i + 1) n hx (by omega) (by omega) (by rw [List.length_set]; exact ha) hb).to ?_
    rw [hp, set_take _ _ _ (by omega), List.append_assoc, List.singleton_append]
theorem split_ev (c : UInt8) (s : ByteArray) (hs : s.size ≤ 1000000000000) : Ev (fun k => strings_Split.f k s (BA [c])) (parts c s) := by
  have hcs := count_le_size c s
  have hC : strings_Count.f s (BA [c]) = some ((s.data.toList.count c : Nat) : Int) := by
    unfold strings_Count.f; rw [if_pos (BA_one c), data_BA]; rfl
  unfold strings_Split.f strings_genSplit.f
  refine Ev.bind (a := parts c s) ?_ (Ev.now _)
  refine Ev.neg (by omega) (Ev.neg (by rw [toList_BA]; simp) (Ev.pos (by omega) (Ev.val hC ?_)))
  rw [wrap_nat (by omega)]
  refine Ev.step (fun _ => strings_genSplit.j0.eq_2 ..) ?_
  have hm : mn ((s.data.toList.count c + 1 : Nat) : Int) (wrap64 ((s.size : Int) + 1)) = ((s.data.toList.count c + 1 : Nat) : Int) := by
    rw [wrap_nat (by omega)]; unfold mn; rw [if_neg (by omega)]
  rw [hm, show wrap64 (((s.data.toList.count c + 1 : Nat) : Int) - 1) = ((s.data.toList.count c : Nat) : Int) by rw [wrap_in (by omega) (by omega)]; omega, Int.toNat_natCast]
  refine Ev.pos (by omega) (Ev.pos (by omega) ?_)
  exact (genSplit_ev c (s.data.toList.count c) s _ 0 (s.data.toList.count c) hs rfl (by omega) (by simp) (by omega)).to (by simp)
theorem trim_some {s : ByteArray} (h : s.size ≤ 9223372036854775807) : text_Trim.f s = some (Trim.trimB Trim.blankB s) := by unfold text_Trim.f; rw [if_pos h]
/-- what stands between commas, without blanks at its ends -/
def listB (l : List ByteArray) : List ByteArray := l.flatMap fun v => (parts 44 v).map (Trim.trimB Trim.blankB)
theorem list_in (l : List ByteArray) (n : Int) (i : Nat) (hi : i < 1000000000000) (t : List ByteArray) (ht : ∀ x ∈ t, x.size ≤ 1000000000000) (htl : t.length ≤ 1000000000001) (R : List ByteArray) (d : Nat) : ∀ (j : Nat) (acc : List ByteArray), j + d = t.length → acc.length + d < 8000000000000 →
    Ev (fun k => text_List.l0 k (acc ++ (t.drop j).map (Trim.trimB Trim.blankB)) l n ((i + 1 : Nat) : Int)) R → Ev (fun k => text_List.l1 k acc l n (i : Int) t (t.length : Int) (j : Int)) R := by
  induction d with
  | zero =>
    intro j acc hj ha hR
    refine Ev.step (fun _ => text_List.l1.eq_2 ..) (Ev.neg (by omega) ?_)
    rw [List.drop_of_length_le (by omega), List.map_nil, List.append_nil] at hR
    rw [wrap_nat (by omega)]; exact hR
  | succ d ih =>
    intro j acc hj ha hR
    rw [drop_rdOf ByteArray.empty t j (by omega), List.map_cons] at hR
    refine Ev.step (fun _ => text_List.l1.eq_2 ..) (Ev.pos (by omega) (Ev.pos (by omega) (Ev.pos (by omega) ?_)))
    refine Ev.val (trim_some (by have := ht _ (rdOf_mem t j (by omega)); omega)) (Ev.pos (by omega) ?_)
    rw [wrap_nat (by omega)]
    exact ih (j + 1) _ (by omega) (by simp; omega) (by rw [List.append_assoc]; exact hR)
theorem list_out (l : List ByteArray) (hl : ∀ x ∈ l, x.size ≤ 1000000000000) (hn : l.length ≤ 1000000) (d : Nat) : ∀ (i : Nat) (acc : List ByteArray), i + d = l.length → acc.length + (listB (l.drop i)).length < 7000000000000 →
    Ev (fun k => text_List.l0 k acc l (l.length : Int) (i : Int)) (acc ++ listB (l.drop i)) := by
  induction d with
  | zero =>
    intro i acc hi ha
    refine Ev.step (fun _ => text_List.l0.eq_2 ..) (Ev.neg (by omega) ((Ev.now _).to ?_))
    rw [List.drop_of_length_le (by omega)]; simp [listB]
  | succ d ih =>
    intro i acc hi ha
    have hm := rdOf_mem l i (by omega)
    have hs := hl _ hm
    rw [drop_rdOf ByteArray.empty l i (by omega)] at ha ⊢
    simp only [listB, List.flatMap_cons, List.length_append, List.length_map] at ha ⊢
    have hpl := parts_len 44 (rdOf ByteArray.empty l (i : Int))
    have hcs := count_le_size 44 (rdOf ByteArray.empty l (i : Int))
    refine Ev.step (fun _ => text_List.l0.eq_2 ..) (Ev.pos (by omega) (Ev.pos (by omega) (Ev.pos (by omega) ?_)))
    refine Ev.bind (split_ev 44 _ hs) ?_
    refine list_in l _ i (by omega) _ (fun x hx => Nat.le_trans (parts_size hx) hs) (by omega) _ (parts 44 (rdOf ByteArray.empty l (i : Int))).length 0 acc (by omega) (by omega) ?_
    rw [List.drop_zero]
    refine (ih (i + 1) _ (by omega) (by simp only [listB, List.length_append, List.length_map] at *; omega)).to ?_
    rw [List.append_assoc]; rfl
theorem list_ev (l : List ByteArray) (hl : ∀ x ∈ l, x.size ≤ 1000000000000) (hn : l.length ≤ 1000000) (hb : (listB l).length < 7000000000000) : Ev (fun k => text_List.f k l) (listB l) := by
  unfold text_List.f
  exact (list_out l hl hn l.length 0 [] (by omega) (by simpa using hb)).to (by simp)
theorem same_some {a b : ByteArray} (h : a.size ≤ 9223372036854775807) (h' : b.size ≤ 9223372036854775807) : text_Same.f a b = some (Hand.sameB a b) := by unfold text_Same.f; rw [if_pos ⟨h, h'⟩]
theorem rdT_mem (l : List S31) (j : Nat) (h : j < l.length) : rd_T31 l (j : Int) ∈ l := by
  unfold rd_T31; simp [List.getD_eq_getElem?_getD, h]
theorem drop_rdT (l : List S31) (i : Nat) (h : i < l.length) : l.drop i = rd_T31 l (i : Int) :: l.drop (i + 1) := by
  unfold rd_T31; rw [List.drop_eq_getElem_cons h]; simp [List.getD_eq_getElem?_getD, h]
/-- are the two fields one and the same -/
def fieldB (a b : S31) : Bool := (a.f0.toList == b.f0.toList) && (a.f1.toList == b.f1.toList)
def fieldsB : List S31 → List S31 → Bool
  | [], [] => true
  | a :: l, b :: m => fieldB a b && fieldsB l m
  | _, _ => false
theorem fieldB_iff (a b : S31) : fieldB a b = true ↔ a = b := by
  unfold fieldB
  rw [Bool.and_eq_true, beq_iff_eq, beq_iff_eq, ByteArray.toList_eq, ByteArray.toList_eq, ByteArray.toList_eq, ByteArray.toList_eq]
  constructor
  · rintro ⟨h1, h2⟩
    cases a; cases b; simp only at h1 h2; rw [ba_inj h1, ba_inj h2]
  · rintro rfl; exact ⟨rfl, rfl⟩
theorem fieldsB_iff (a b : List S31) : fieldsB a b = true ↔ a = b := by
  induction a generalizing b with
  | nil => cases b <;> simp [fieldsB]
  | cons x l ih => cases b with
    | nil => simp [fieldsB]
    | cons y m => simp [fieldsB, fieldB_iff, ih]
theorem fieldsB_len {a b : List S31} (h : a.length ≠ b.length) : fieldsB a b = false := by
  rw [Bool.eq_false_iff]; intro e; exact h (congrArg _ ((fieldsB_iff a b).mp e))
theorem fieldB_cond (a b : S31) : (!((a.f0.toList == b.f0.toList)) || !((a.f1.toList == b.f1.toList))) = !(fieldB a b) := by
  unfold fieldB; rw [Bool.not_and]
/-- the values of the fields of a name -/
def findB (l : List S31) (n : ByteArray) : List ByteArray := (l.filter fun f => Hand.sameB f.f0 n).map (·.f1)
theorem find_loop (n : ByteArray) (hn : n.size ≤ 9223372036854775807) (l : List S31) (hl : ∀ x ∈ l, x.f0.size ≤ 9223372036854775807) (hlen : l.length ≤ 1000000000000) (d : Nat) : ∀ (i : Nat) (acc : List ByteArray), i + d = l.length → acc.length + d < 8000000000000 →
    Ev (fun k => text_Find.l0 k n acc l (l.length : Int) (i : Int)) (acc ++ findB (l.drop i) n) := by
  induction d with
  | zero =>
    intro i acc hi ha
    refine Ev.step (fun _ => text_Find.l0.eq_2 ..) (Ev.neg (by omega) ((Ev.now _).to ?_))
    rw [List.drop_of_length_le (by omega)]; simp [findB]
  | succ d ih =>
    intro i acc hi ha
    have h9 : i < 9223372036854775807 := by omega
    have hm := hl _ (rdT_mem l i (by omega))
    rw [drop_rdT l i (by omega)]
    refine Ev.step (fun _ => text_Find.l0.eq_2 ..) (Ev.pos (by omega) (Ev.pos (by omega) (Ev.pos (by omega) (Ev.val (same_some hm hn) ?_))))
    rw [wrap_nat h9]
    by_cases h : Hand.sameB (rd_T31 l (i : Int)).f0 n = true
    · exact Ev.pos h (Ev.pos (by omega) ((ih (i + 1) _ (by omega) (by simp; omega)).to (by simp [findB, h])))
    · exact Ev.neg h ((ih (i + 1) _ (by omega) (by omega)).to (by simp [findB, h]))
theorem find_ev (n : ByteArray) (hn : n.size ≤ 9223372036854775807) (l : List S31) (hl : ∀ x ∈ l, x.f0.size ≤ 9223372036854775807) (hlen : l.length ≤ 1000000000000) : Ev (fun k => text_Find.f k l n) (findB l n) := by
  unfold text_Find.f; exact (find_loop n hn l hl hlen l.length 0 [] (by omega) (by simp; omega)).to (by simp)
theorem findB_len (l : List S31) (n : ByteArray) : (findB l n).length ≤ l.length := by unfold findB; rw [List.length_map]; exact List.length_filter_le _ _
theorem trimB_le (s : ByteArray) : (Trim.trimB Trim.blankB s).size ≤ s.size := by
  unfold Trim.trimB Trim.trimR Trim.trimL
  rw [ByteArray.size_extract, ByteArray.size_extract]; omega
theorem listB_sz (l : List ByteArray) (m : Nat) (h : ∀ x ∈ l, x.size ≤ m) : ∀ x ∈ listB l, x.size ≤ m := by
  intro x hx
  unfold listB at hx
  obtain ⟨v, hv, hx⟩ := List.mem_flatMap.mp hx
  obtain ⟨p, hp, rfl⟩ := List.mem_map.mp hx
  exact Nat.le_trans (trimB_le p) (Nat.le_trans (parts_size hp) (h v hv))
theorem listB_num (l : List ByteArray) (m : Nat) (h : ∀ x ∈ l, x.size ≤ m) : (listB l).length ≤ l.length * (m + 1) := by
  unfold listB
  induction l with
  | nil => simp
  | cons v l ih =>
    have hv := h v (by simp)
    have := ih (fun x hx => h x (by simp [hx]))
    have hp := parts_len 44 v
    have hc := count_le_size 44 v
    rw [List.flatMap_cons, List.length_append, List.length_map, List.length_cons, Nat.add_mul]
    omega
/-- does one of a name's values, part by part, say this? -/
def saysB (l : List S31) (n v : ByteArray) : Bool := (listB (findB l n)).any fun s => Hand.sameB s v
theorem findB_sz (l : List S31) (n : ByteArray) (m : Nat) (h : ∀ x ∈ l, x.f1.size ≤ m) : ∀ y ∈ findB l n, y.size ≤ m := by
  intro y hy
  obtain ⟨x, hx, e⟩ := List.mem_map.mp hy
  rw [← e]; exact h x (List.mem_filter.mp hx).1
theorem says_ev (l : List S31) (hl : l.length ≤ 100) (hz : ∀ x ∈ l, x.f0.size ≤ 200 ∧ x.f1.size ≤ 200) (a b : ByteArray) (c : Int) (d : Bool) (e : List Int) (g : List S31) (n v : ByteArray) (hn : n.size ≤ 200) (hv : v.size ≤ 200) : Ev (fun k => record_says.f k a b c l d e g n v) (saysB l n v) := by
  have h2 := findB_sz l n 200 (fun x hx => (hz x hx).2)
  have h3 := findB_len l n
  have h4 := listB_num (findB l n) 200 h2
  have h5 := listB_sz (findB l n) 200 h2
  unfold record_says.f saysB
  refine Ev.bind (find_ev n (by omega) l (fun x hx => by have := (hz x hx).1; omega) (by omega)) (Ev.bind (list_ev _ (fun x hx => by have := h2 x hx; omega) (by omega) (by omega)) (Ev.pos ⟨by omega, by omega, ?_⟩ (Ev.now _)))
  rw [List.all_eq_true]; intro x hx; exact decide_eq_true (by have := h5 x hx; omega)
theorem saysB_app (l m : List S31) (n v : ByteArray) : saysB (l ++ m) n v = (saysB l n v || saysB m n v) := by
  unfold saysB findB listB
  rw [List.filter_append, List.map_append, List.flatMap_append, List.any_append]
theorem saysB_one (f : S31) (n v : ByteArray) : saysB [f] n v = (Hand.sameB f.f0 n && (listB [f.f1]).any fun s => Hand.sameB s v) := by
  unfold saysB findB
  cases h : Hand.sameB f.f0 n
  · rw [List.filter_cons_of_neg (by simp [h])]; rfl
  · have e : List.filter (fun g : S31 => Hand.sameB g.f0 n) [f] = [f] := by simp [h]
    rw [e]; rfl
def rconB : ByteArray := ⟨#[67, 111, 110, 110, 101, 99, 116, 105, 111, 110]⟩
def closeB : ByteArray := ⟨#[99, 108, 111, 115, 101]⟩
def keepB : ByteArray := ⟨#[107, 101, 101, 112, 45, 97, 108, 105, 118, 101]⟩
theorem closes_ev (l : List S31) (hl : l.length ≤ 100) (hz : ∀ x ∈ l, x.f0.size ≤ 200 ∧ x.f1.size ≤ 200) (a b : ByteArray) (c : Int) (d : Bool) (e : List Int) (g : List S31) : Ev (fun k => record_Closes.f k a b c l d e g) (saysB l rconB closeB || (decide (c = 0) && !(saysB l rconB keepB))) := by
  unfold record_Closes.f
  refine Ev.bind (says_ev l hl hz a b c d e g rconB closeB (by decide) (by decide)) ?_
  cases h : saysB l rconB closeB with
  | true => exact Ev.pos rfl ((Ev.now _).to (by simp))
  | false =>
    refine Ev.neg (by simp) ?_
    by_cases h0 : c = 0
    · exact Ev.pos h0 (Ev.bind (says_ev l hl hz a b c d e g rconB keepB (by decide) (by decide)) ((Ev.now _).to (by simp [h0])))
    · exact Ev.neg h0 ((Ev.now _).to (by simp [h0]))
theorem known_ev : Ev (fun k => parallaxlaw12_known.f k) true := Ev.of (fun k => parallaxlaw12_known.mono k) (k := 40) (by decide +kernel)
end Go.Proofs.YtomofacchnmepaaDoor.PRecordCloses
