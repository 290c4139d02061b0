/- What the printed functions of the text layer come to. -/
import Derived.Test.YtfmpajagkjealaaDoorPHopNamedx
import Derived.Test.YtfmpajagkjealaaDoorParts
import Derived.Test.YtfmpajagkjealaaDoorLowP
import Derived.Test.YtfmpajagkjealaaDoorTrimP
import Derived.Test.YtfmpajagkjealaaDoorHex
namespace Go.Proofs.YtfmpajagkjealaaDoor.PHopNamed
open Go.RowKit Go.Proofs.YtfmpajagkjealaaDoorW.PrintWords Go.Proofs.YtfmpajagkjealaaDoorW.PrintLast Go.Proofs.YtfmpajagkjealaaDoorW.PrintMore Go.Proofs.YtfmpajagkjealaaDoor.Aid Go.Proofs.YtfmpajagkjealaaDoor.Parts
set_option linter.unusedVariables false
set_option linter.unusedSimpArgs false

theorem rdOf_mem (l : List ByteArray) (j : Nat) (h : j < l.length) : rdOf ByteArray.empty l (j : Int) ∈ l := by
  unfold rdOf; simp [List.getD_eq_getElem?_getD, h]
theorem set_take (a : List ByteArray) (i : Nat) (x : ByteArray) (h : i < a.length) : (a.set i x).take (i + 1) = a.take i ++ [x] := by
  rw [List.take_succ_eq_append_getElem (by simpa using h), List.getElem_set_self, List.take_set_of_le (Nat.le_refl _)]
theorem BA_one (c : UInt8) : (BA [c]).size = 1 := rfl
theorem wrap_one (j : Nat) (c : UInt8) (h : j < 9223372036854775807) : wrap64 ((j : Int) + ((BA [c]).size : Int)) = ((j + 1 : Nat) : Int) := by
  rw [show ((BA [c]).size : Int) = 1 by rw [BA_one]; rfl]; exact wrap_nat h
theorem genSplit_ev (c : UInt8) (m : Nat) : ∀ (s : ByteArray) (a : List ByteArray) (i n : Nat), s.size ≤ 1000000000000 → s.data.toList.count c = m → n = i + m → a.length = n + 1 → n ≤ 1000000000001 →
    Ev (fun k => strings_genSplit.l0 k s (BA [c]) 0 (n : Int) a (i : Int)) (a.take i ++ parts c s) := by
  induction m with
  | zero =>
    intro s a i n hs hc hn ha hb
    have hp : parts c s = [s] := parts_no c s (by
      rcases Int.lt_or_le (Lib.indexByte s.data.toList c) 0 with x | x
      · exact x
      · have := (index_nil_iff c _).mp x
        have := List.count_pos_iff.mpr this
        omega)
    have hw : wrap64 ((i : Int) + 1) = ((i + 1 : Nat) : Int) := wrap_nat (by omega)
    refine Ev.step (fun _ => strings_genSplit.l0.eq_2 ..) (Ev.neg (by omega) (Ev.pos (by omega) (Ev.pos (by omega) ?_)))
    rw [hw]
    refine Ev.pos (by omega) (Ev.pos (by omega) ((Ev.now _).to ?_))
    rw [hp, Int.toNat_natCast, Int.toNat_natCast, set_take _ _ _ (by omega)]
  | succ m ih =>
    intro s a i n hs hc hn ha hb
    have hidx : 0 ≤ Lib.indexByte s.data.toList c := (index_nil_iff c _).mpr (List.count_pos_iff.mp (by omega))
    obtain ⟨j, hj, hjs, hp, hcnt⟩ := parts_yes c s hidx
    have hI : strings_Index.f s (BA [c]) = some (j : Int) := by
      unfold strings_Index.f; rw [if_pos (BA_one c), data_BA]
      show some (Lib.indexByte s.data.toList c) = _
      rw [hj]
    refine Ev.step (fun _ => strings_genSplit.l0.eq_2 ..) (Ev.pos (by omega) (Ev.val hI (Ev.neg (by omega) ?_)))
    have hi9 : i < 9223372036854775807 := by omega
    have hj9 : j < 9223372036854775807 := by omega
    rw [show wrap64 ((j : Int) + 0) = ((j : Nat) : Int) by rw [Int.add_zero]; exact wrap_in (by omega) (by omega), wrap_one j c hj9, wrap_nat hi9]
    refine Ev.pos (by omega) (Ev.pos (by omega) (Ev.pos (by omega) (Ev.pos (by omega) (Ev.pos (by omega) (Ev.pos (by omega) ?_)))))
    rw [Int.toNat_natCast, Int.toNat_natCast, Int.toNat_natCast]
    have hx : (s.extract (j + 1) s.size).size ≤ 1000000000000 := by rw [Trim.ext_size _ _ _ (Nat.le_refl _)]; omega
    refine (ih (s.extract (j + 1) s.size) (a.set i (s.extract 0 j)) (i + 1) n hx (by omega) (by omega) (by rw [List.length_set]; exact ha) hb).to ?_
    rw [hp, set_take _ _ _ (by omega), List.append_assoc, List.singleton_append]
theorem split_ev (c : UInt8) (s : ByteArray) (hs : s.size ≤ 1000000000000) : Ev (fun k => strings_Split.f k s (BA [c])) (parts c s) := by
  have hcs := count_le_size c s
  have hC : strings_Count.f s (BA [c]) = some ((s.data.toList.count c : Nat) : Int) := by
    unfold strings_Count.f; rw [if_pos (BA_one c), data_BA]; rfl
  unfold strings_Split.f strings_genSplit.f
  refine Ev.bind (a := parts c s) ?_ (Ev.now _)
  refine Ev.neg (by omega) (Ev.neg (by rw [toList_BA]; simp) (Ev.pos (by omega) (Ev.val hC ?_)))
  rw [wrap_nat (by omega)]
  refine Ev.step (fun _ => strings_genSplit.j0.eq_2 ..) ?_
  have hm : mn ((s.data.toList.count c + 1 : Nat) : Int) (wrap64 ((s.size : Int) + 1)) = ((s.data.toList.count c + 1 : Nat) : Int) := by
    rw [wrap_nat (by omega)]; unfold mn; rw [if_neg (by omega)]
  rw [hm, show wrap64 (((s.data.toList.count c + 1 : Nat) : Int) - 1) = ((s.data.toList.count c : Nat) : Int) by rw [wrap_in (by omega) (by omega)]; omega, Int.toNat_natCast]
  refine Ev.pos (by omega) (Ev.pos (by omega) ?_)
  exact (genSplit_ev c (s.data.toList.count c) s _ 0 (s.data.toList.count c) hs rfl (by omega) (by simp) (by omega)).to (by simp)
theorem trim_some {s : ByteArray} (h : s.size ≤ 9223372036854775807) : text_Trim.f s = some (Trim.trimB Trim.blankB s) := by unfold text_Trim.f; rw [if_pos h]
/-- what stands between commas, without blanks at its ends -/
def listB (l : List ByteArray) : List ByteArray := l.flatMap fun v => (parts 44 v).map (Trim.trimB Trim.blankB)
theorem list_in (l : List ByteArray) (n : Int) (i : Nat) (hi : i < 1000000000000) (t : List ByteArray) (ht : ∀ x ∈ t, x.size ≤ 1000000000000) (htl : t.length ≤ 1000000000001) (R : List ByteArray) (d : Nat) : ∀ (j : Nat) (acc : List ByteArray), j + d = t.length → acc.length + d < 8000000000000 →
    Ev (fun k => text_List.l0 k (acc ++ (t.drop j).map (Trim.trimB Trim.blankB)) l n ((i + 1 : Nat) : Int)) R → Ev (fun k => text_List.l1 k acc l n (i : Int) t (t.length : Int) (j : Int)) R := by
  induction d with
  | zero =>
    intro j acc hj ha hR
    refine Ev.step (fun _ => text_List.l1.eq_2 ..) (Ev.neg (by omega) ?_)
    rw [List.drop_of_length_le (by omega), List.map_nil, List.append_nil] at hR
    rw [wrap_nat (by omega)]; exact hR
  | succ d ih =>
    intro j acc hj ha hR
    rw [drop_rdOf ByteArray.empty t j (by omega), List.map_cons] at hR
    refine Ev.step (fun _ => text_List.l1.eq_2 ..) (Ev.pos (by omega) (Ev.pos (by omega) (Ev.pos (by omega) ?_)))
    refine Ev.val (trim_some (by have := ht _ (rdOf_mem t j (by omega)); omega)) (Ev.pos (by omega) ?_)
    rw [wrap_nat (by omega)]
    exact ih (j + 1) _ (by omega) (by simp; omega) (by rw [List.append_assoc]; exact hR)
theorem list_out (l : List ByteArray) (hl : ∀ x ∈ l, x.size ≤ 1000000000000) (hn : l.length ≤ 1000000) (d : Nat) : ∀ (i : Nat) (acc : List ByteArray), i + d = l.length → acc.length + (listB (l.drop i)).length < 7000000000000 →
    Ev (fun k => text_List.l0 k acc l (l.length : Int) (i : Int)) (acc ++ listB (l.drop i)) := by
  induction d with
  | zero =>
    intro i acc hi ha
    refine Ev.step (fun _ => text_List.l0.eq_2 ..) (Ev.neg (by omega) ((Ev.now _).to ?_))
    rw [List.drop_of_length_le (by omega)]; simp [listB]
  | succ d ih =>
    intro i acc hi ha
    have hm := rdOf_mem l i (by omega)
    have hs := hl _ hm
    rw [drop_rdOf ByteArray.empty l i (by omega)] at ha ⊢
    simp only [listB, List.flatMap_cons, List.length_append, List.length_map] at ha ⊢
    have hpl := parts_len 44 (rdOf ByteArray.empty l (i : Int))
    have hcs := count_le_size 44 (rdOf ByteArray.empty l (i : Int))
    refine Ev.step (fun _ => text_List.l0.eq_2 ..) (Ev.pos (by omega) (Ev.pos (by omega) (Ev.pos (by omega) ?_)))
    refine Ev.bind (split_ev 44 _ hs) ?_
    refine list_in l _ i (by omega) _ (fun x hx => Nat.le_trans (parts_size hx) hs) (by omega) _ (parts 44 (rdOf ByteArray.empty l (i : Int))).length 0 acc (by omega) (by omega) ?_
    rw [List.drop_zero]
    refine (ih (i + 1) _ (by omega) (by simp only [listB, List.length_append, List.length_map] at *; omega)).to ?_
    rw [List.append_assoc]; rfl
theorem list_ev (l : List ByteArray) (hl : ∀ x ∈ l, x.size ≤ 1000000000000) (hn : l.length ≤ 1000000) (hb : (listB l).length < 7000000000000) : Ev (fun k => text_List.f k l) (listB l) := by
  unfold text_List.f
  exact (list_out l hl hn l.length 0 [] (by omega) (by simpa using hb)).to (by simp)
theorem same_some {a b : ByteArray} (h : a.size ≤ 9223372036854775807) (h' : b.size ≤ 9223372036854775807) : text_Same.f a b = some (Hand.sameB a b) := by unfold text_Same.f; rw [if_pos ⟨h, h'⟩]
theorem rlower_some {s : ByteArray} (h : s.size ≤ 9223372036854775807) : parallaxref1_Lower.f s = some (Low.lower s) := by unfold parallaxref1_Lower.f; rw [if_pos h]
theorem rdT_mem (l : List S28) (j : Nat) (h : j < l.length) : rd_T28 l (j : Int) ∈ l := by
  unfold rd_T28; simp [List.getD_eq_getElem?_getD, h]
theorem drop_rdT (l : List S28) (i : Nat) (h : i < l.length) : l.drop i = rd_T28 l (i : Int) :: l.drop (i + 1) := by
  unfold rd_T28; rw [List.drop_eq_getElem_cons h]; simp [List.getD_eq_getElem?_getD, h]
/-- are the two fields one and the same -/
def fieldB (a b : S28) : Bool := (a.f0.toList == b.f0.toList) && (a.f1.toList == b.f1.toList)
def fieldsB : List S28 → List S28 → Bool
  | [], [] => true
  | a :: l, b :: m => fieldB a b && fieldsB l m
  | _, _ => false
theorem fieldB_iff (a b : S28) : fieldB a b = true ↔ a = b := by
  unfold fieldB
  rw [Bool.and_eq_true, beq_iff_eq, beq_iff_eq, ByteArray.toList_eq, ByteArray.toList_eq, ByteArray.toList_eq, ByteArray.toList_eq]
  constructor
  · rintro ⟨h1, h2⟩
    cases a; cases b; simp only at h1 h2; rw [ba_inj h1, ba_inj h2]
  · rintro rfl; exact ⟨rfl, rfl⟩
theorem fieldsB_iff (a b : List S28) : fieldsB a b = true ↔ a = b := by
  induction a generalizing b with
  | nil => cases b <;> simp [fieldsB]
  | cons x l ih => cases b with
    | nil => simp [fieldsB]
    | cons y m => simp [fieldsB, fieldB_iff, ih]
theorem fieldsB_len {a b : List S28} (h : a.length ≠ b.length) : fieldsB a b = false := by
  rw [Bool.eq_false_iff]; intro e; exact h (congrArg _ ((fieldsB_iff a b).mp e))
theorem fieldB_cond (a b : S28) : (!((a.f0.toList == b.f0.toList)) || !((a.f1.toList == b.f1.toList))) = !(fieldB a b) := by
  unfold fieldB; rw [Bool.not_and]
/-- the values of the fields of a name -/
def findB (l : List S28) (n : ByteArray) : List ByteArray := (l.filter fun f => Hand.sameB f.f0 n).map (·.f1)
theorem find_loop (n : ByteArray) (hn : n.size ≤ 9223372036854775807) (l : List S28) (hl : ∀ x ∈ l, x.f0.size ≤ 9223372036854775807) (hlen : l.length ≤ 1000000000000) (d : Nat) : ∀ (i : Nat) (acc : List ByteArray), i + d = l.length → acc.length + d < 8000000000000 →
    Ev (fun k => text_Find.l0 k n acc l (l.length : Int) (i : Int)) (acc ++ findB (l.drop i) n) := by
  induction d with
  | zero =>
    intro i acc hi ha
    refine Ev.step (fun _ => text_Find.l0.eq_2 ..) (Ev.neg (by omega) ((Ev.now _).to ?_))
    rw [List.drop_of_length_le (by omega)]; simp [findB]
  | succ d ih =>
    intro i acc hi ha
    have h9 : i < 9223372036854775807 := by omega
    have hm := hl _ (rdT_mem l i (by omega))
    rw [drop_rdT l i (by omega)]
    refine Ev.step (fun _ => text_Find.l0.eq_2 ..) (Ev.pos (by omega) (Ev.pos (by omega) (Ev.pos (by omega) (Ev.val (same_some hm hn) ?_))))
    rw [wrap_nat h9]
    by_cases h : Hand.sameB (rd_T28 l (i : Int)).f0 n = true
    · exact Ev.pos h (Ev.pos (by omega) ((ih (i + 1) _ (by omega) (by simp; omega)).to (by simp [findB, h])))
    · exact Ev.neg h ((ih (i + 1) _ (by omega) (by omega)).to (by simp [findB, h]))
theorem find_ev (n : ByteArray) (hn : n.size ≤ 9223372036854775807) (l : List S28) (hl : ∀ x ∈ l, x.f0.size ≤ 9223372036854775807) (hlen : l.length ≤ 1000000000000) : Ev (fun k => text_Find.f k l n) (findB l n) := by
  unfold text_Find.f; exact (find_loop n hn l hl hlen l.length 0 [] (by omega) (by simp; omega)).to (by simp)
theorem findB_len (l : List S28) (n : ByteArray) : (findB l n).length ≤ l.length := by unfold findB; rw [List.length_map]; exact List.length_filter_le _ _
/-- the fields whose name is none of the names -/
def withoutB (l : List S28) (ns : List ByteArray) : List S28 := l.filter fun f => !(ns.any (Hand.sameB f.f0))
theorem wc_some {ns : List ByteArray} {n v : ByteArray} (h : ns.length ≤ 9223372036854775807) (h1 : n.size ≤ 9223372036854775807) (h2 : ∀ x ∈ ns, x.size ≤ 9223372036854775807) : text_Without_1_ContainsFunc.f ns n v = some (ns.any (Hand.sameB n)) := by
  unfold text_Without_1_ContainsFunc.f; rw [if_pos ⟨h, h1, by rw [List.all_eq_true]; intro x hx; exact decide_eq_true (h2 x hx)⟩]
theorem without_loop (ns : List ByteArray) (hn : ns.length ≤ 9223372036854775807) (hs : ∀ x ∈ ns, x.size ≤ 9223372036854775807) (l : List S28) (hl : ∀ x ∈ l, x.f0.size ≤ 9223372036854775807) (hlen : l.length ≤ 1000000000000) (d : Nat) : ∀ (i : Nat) (acc : List S28), i + d = l.length → acc.length + d < 4000000000000 →
    Ev (fun k => text_Without.l0 k ns acc l (l.length : Int) (i : Int)) (acc ++ withoutB (l.drop i) ns) := by
  induction d with
  | zero =>
    intro i acc hi ha
    refine Ev.step (fun _ => text_Without.l0.eq_2 ..) (Ev.neg (by omega) ((Ev.now _).to ?_))
    rw [List.drop_of_length_le (by omega)]; simp [withoutB]
  | succ d ih =>
    intro i acc hi ha
    have h9 : i < 9223372036854775807 := by omega
    have hm := hl _ (rdT_mem l i (by omega))
    rw [drop_rdT l i (by omega)]
    refine Ev.step (fun _ => text_Without.l0.eq_2 ..) (Ev.pos (by omega) (Ev.pos (by omega) (Ev.pos (by omega) (Ev.val (wc_some hn hm hs) ?_))))
    rw [wrap_nat h9]
    by_cases h : (ns.any (Hand.sameB (rd_T28 l (i : Int)).f0)) = true
    · refine Ev.pos h ((ih (i + 1) _ (by omega) (by omega)).to ?_)
      unfold withoutB; rw [List.filter_cons_of_neg (by rw [h]; simp)]
    · refine Ev.neg h (Ev.pos (by omega) ((ih (i + 1) _ (by omega) (by simp; omega)).to ?_))
      unfold withoutB; rw [List.filter_cons_of_pos (by simpa using h), List.append_assoc]; rfl
theorem without_ev (ns : List ByteArray) (hn : ns.length ≤ 9223372036854775807) (hs : ∀ x ∈ ns, x.size ≤ 9223372036854775807) (l : List S28) (hl : ∀ x ∈ l, x.f0.size ≤ 9223372036854775807) (hlen : l.length ≤ 1000000000000) : Ev (fun k => text_Without.f k l ns) (withoutB l ns) := by
  unfold text_Without.f; exact (without_loop ns hn hs l hl hlen l.length 0 [] (by omega) (by simp; omega)).to (by simp)
theorem withoutB_len (l : List S28) (n : List ByteArray) : (withoutB l n).length ≤ l.length := List.length_filter_le _ _
theorem parts_sum (l : List S28) (n : ByteArray) : (findB l n).length + (withoutB l [n]).length = l.length := by
  unfold findB withoutB
  rw [List.length_map]
  induction l with
  | nil => rfl
  | cons a l ih => by_cases h : Hand.sameB a.f0 n = true <;> simp [h] at ih ⊢ <;> omega
theorem rfields_loop (l m : List S28) (he : l.length = m.length) (hlen : l.length < 9223372036854775807) (d : Nat) : ∀ i : Nat, i + d = l.length → Ev (fun k => parallaxref1_Fields.l0 k l m (i : Int)) (fieldsB (l.drop i) (m.drop i)) := by
  induction d with
  | zero =>
    intro i hi
    refine Ev.step (fun _ => parallaxref1_Fields.l0.eq_2 ..) (Ev.neg (by omega) ((Ev.now _).to ?_))
    rw [List.drop_of_length_le (by omega), List.drop_of_length_le (by omega)]; rfl
  | succ d ih =>
    intro i hi
    have h9 : i < 9223372036854775807 := by omega
    rw [drop_rdT l i (by omega), drop_rdT m i (by omega)]
    refine Ev.step (fun _ => parallaxref1_Fields.l0.eq_2 ..) (Ev.pos (by omega) (Ev.pos (by omega) (Ev.pos (by omega) ?_)))
    rw [wrap_nat h9, fieldB_cond]
    by_cases h : fieldB (rd_T28 l (i : Int)) (rd_T28 m (i : Int)) = true
    · exact Ev.neg (by rw [h]; simp) ((ih (i + 1) (by omega)).to (by simp [fieldsB, h]))
    · exact Ev.pos (by simpa using h) ((Ev.now _).to (by simp [fieldsB, h]))
theorem rfields_ev (l m : List S28) (hlen : l.length < 9223372036854775807) : Ev (fun k => parallaxref1_Fields.f k l m) (fieldsB l m) := by
  unfold parallaxref1_Fields.f
  by_cases h : l.length = m.length
  · exact Ev.pos (by omega) ((rfields_loop l m h hlen l.length 0 (by omega)))
  · exact Ev.neg (by omega) ((Ev.now _).to (fieldsB_len h).symm)
theorem rfields_refl (l : List S28) (hlen : l.length < 9223372036854775807) : Ev (fun k => parallaxref1_Fields.f k l l) true := (rfields_ev l l hlen).to ((fieldsB_iff l l).mpr rfl)
theorem trimB_le (s : ByteArray) : (Trim.trimB Trim.blankB s).size ≤ s.size := by
  unfold Trim.trimB Trim.trimR Trim.trimL
  rw [ByteArray.size_extract, ByteArray.size_extract]; omega
theorem listB_sz (l : List ByteArray) (m : Nat) (h : ∀ x ∈ l, x.size ≤ m) : ∀ x ∈ listB l, x.size ≤ m := by
  intro x hx
  unfold listB at hx
  obtain ⟨v, hv, hx⟩ := List.mem_flatMap.mp hx
  obtain ⟨p, hp, rfl⟩ := List.mem_map.mp hx
  exact Nat.le_trans (trimB_le p) (Nat.le_trans (parts_size hp) (h v hv))
theorem listB_num (l : List ByteArray) (m : Nat) (h : ∀ x ∈ l, x.size ≤ m) : (listB l).length ≤ l.length * (m + 1) := by
  unfold listB
  induction l with
  | nil => simp
  | cons v l ih =>
    have hv := h v (by simp)
    have := ih (fun x hx => h x (by simp [hx]))
    have hp := parts_len 44 v
    have hc := count_le_size 44 v
    rw [List.flatMap_cons, List.length_append, List.length_map, List.length_cons, Nat.add_mul]
    omega
def connB : ByteArray := ⟨#[67, 111, 110, 110, 101, 99, 116, 105, 111, 110]⟩
/-- the names of fields of one hop -/
def namesB : List ByteArray := [(⟨#[67, 111, 110, 110, 101, 99, 116, 105, 111, 110]⟩ : ByteArray), (⟨#[75, 101, 101, 112, 45, 65, 108, 105, 118, 101]⟩ : ByteArray), (⟨#[80, 114, 111, 120, 121, 45, 65, 117, 116, 104, 101, 110, 116, 105, 99, 97, 116, 101]⟩ : ByteArray), (⟨#[80, 114, 111, 120, 121, 45, 65, 117, 116, 104, 111, 114, 105, 122, 97, 116, 105, 111, 110]⟩ : ByteArray), (⟨#[80, 114, 111, 120, 121, 45, 67, 111, 110, 110, 101, 99, 116, 105, 111, 110]⟩ : ByteArray), (⟨#[84, 69]⟩ : ByteArray), (⟨#[84, 114, 97, 105, 108, 101, 114]⟩ : ByteArray), (⟨#[84, 114, 97, 110, 115, 102, 101, 114, 45, 69, 110, 99, 111, 100, 105, 110, 103]⟩ : ByteArray), (⟨#[85, 112, 103, 114, 97, 100, 101]⟩ : ByteArray)]
theorem names_some : hop_Names.f = some namesB := by decide +kernel
/-- the names of fields that go no further -/
def goneB (l : List S28) : List ByteArray := namesB ++ (listB (findB l connB)).filter fun s => !ownB s
def stripB (l : List S28) : List S28 := withoutB l (goneB l)
theorem find_sz (l : List S28) (n : ByteArray) (m : Nat) (h : ∀ x ∈ l, x.f1.size ≤ m) : ∀ x ∈ findB l n, x.size ≤ m := by
  intro x hx
  unfold findB at hx
  obtain ⟨f, hf, rfl⟩ := List.mem_map.mp hx
  exact h f ((List.mem_filter.mp hf).1)
theorem gone_facts (l : List S28) (hl : l.length ≤ 100) (hz : ∀ x ∈ l, x.f0.size ≤ 200 ∧ x.f1.size ≤ 200) : (findB l connB).length ≤ 100 ∧ (∀ x ∈ findB l connB, x.size ≤ 200) ∧ (listB (findB l connB)).length ≤ 20100 ∧ (∀ x ∈ listB (findB l connB), x.size ≤ 200) ∧ (goneB l).length ≤ 20109 ∧ (∀ x ∈ goneB l, x.size ≤ 200) := by
  have h1 := findB_len l connB
  have h2 := find_sz l connB 200 (fun x hx => (hz x hx).2)
  have h3 := listB_num _ 200 h2
  have h4 := listB_sz _ 200 h2
  have h5 : ((listB (findB l connB)).filter fun s => !ownB s).length ≤ (listB (findB l connB)).length := List.length_filter_le _ _
  refine ⟨by omega, h2, by omega, h4, ?_, fun x hx => ?_⟩
  · unfold goneB; rw [List.length_append, show namesB.length = 9 from rfl]; omega
  · unfold goneB at hx
    rcases List.mem_append.mp hx with h | h
    · have : ∀ y ∈ namesB, y.size ≤ 200 := by decide +kernel
      exact this x h
    · exact h4 x (((List.mem_filter.mp h).1))
theorem strip_ev (l : List S28) (hl : l.length ≤ 100) (hz : ∀ x ∈ l, x.f0.size ≤ 200 ∧ x.f1.size ≤ 200) : Ev (fun k => hop_Strip.f k l) (stripB l) := by
  obtain ⟨h1, h2, h3, h4, h5, h6⟩ := gone_facts l hl hz
  unfold hop_Strip.f
  refine Ev.bind (find_ev connB (by decide) l (fun x hx => by have := (hz x hx).1; omega) (by omega)) (Ev.bind (list_ev _ (fun x hx => by have := h2 x hx; omega) (by omega) (by omega)) (Ev.pos ⟨by omega, ?_⟩ (Ev.val names_some (Ev.pos (by decide) ?_))))
  · rw [List.all_eq_true]; intro x hx; exact decide_eq_true (by have := h4 x hx; omega)
  · exact without_ev (goneB l) (by omega) (fun x hx => by have := h6 x hx; omega) l (fun x hx => by have := (hz x hx).1; omega) (by omega)
theorem strip_sub (l : List S28) : ∀ x ∈ stripB l, x ∈ l := fun x hx => (List.mem_filter.mp hx).1
theorem strip_len (l : List S28) : (stripB l).length ≤ l.length := withoutB_len _ _
theorem strip_none (l : List S28) (x : S28) (h : x ∈ stripB l) : (namesB.any (Hand.sameB x.f0)) = false := by
  have := (List.mem_filter.mp h).2
  rw [Bool.not_eq_true'] at this
  unfold goneB at this
  rw [List.any_append, Bool.or_eq_false_iff] at this
  exact this.1
theorem strip_again (l : List S28) : stripB (stripB l) = stripB l := by
  have h1 : findB (stripB l) connB = [] := by
    unfold findB
    rw [List.filter_eq_nil_iff.mpr]; rfl
    intro x hx
    have := strip_none l x hx
    unfold namesB at this
    rw [List.any_cons, Bool.or_eq_false_iff] at this
    rw [show connB = (⟨#[67, 111, 110, 110, 101, 99, 116, 105, 111, 110]⟩ : ByteArray) from rfl, this.1]; simp
  have h2 : goneB (stripB l) = namesB := by unfold goneB; rw [h1]; simp [listB]
  rw [show stripB (stripB l) = withoutB (stripB l) (goneB (stripB l)) from rfl, h2]
  unfold withoutB
  rw [List.filter_eq_self]
  intro x hx
  rw [strip_none l x hx]; rfl
theorem digit_at : ∀ d : Fin 16, (⟨#[48, 49, 50, 51, 52, 53, 54, 55, 56, 57, 97, 98, 99, 100, 101, 102]⟩ : ByteArray).extract d.val (d.val + 1) = strOfNums [Hex.dig d.val] := by decide +kernel
theorem digit_dec : ∀ d : Fin 10, strOfNums [Hex.dig d.val] = (⟨#[UInt8.ofNat (48 + d.val)]⟩ : ByteArray) := by decide +kernel
theorem rput_low (n b : Nat) (hb : b ≤ 16) (h : n < b) : Ev (fun k => parallaxref1_put.f k (n : Int) (b : Int)) (strOfNums [Hex.dig n]) := by
  have hm : mx (n : Int) 0 = (n : Int) := by unfold mx; rw [if_neg (by omega)]
  refine Ev.step (fun _ => parallaxref1_put.f.eq_2 ..) (Ev.pos (by omega) ?_)
  rw [hm, show wrap64 ((n : Int) + 1) = ((n + 1 : Nat) : Int) from wrap_nat (by omega)]
  refine Ev.pos (by omega) (Ev.pos (by omega) (Ev.pos (by omega) ((Ev.now _).to ?_)))
  rw [Int.toNat_natCast, Int.toNat_natCast]
  exact digit_at ⟨n, by omega⟩
theorem rput_neg (n : Int) (b : Nat) (h : n ≤ 0) (hb0 : 1 ≤ b) (hb : b ≤ 16) : Ev (fun k => parallaxref1_put.f k n (b : Int)) (strOfNums [Hex.dig 0]) := by
  have hm : mx n 0 = ((0 : Nat) : Int) := by unfold mx; split <;> omega
  refine Ev.step (fun _ => parallaxref1_put.f.eq_2 ..) (Ev.pos (by omega) ?_)
  rw [hm, show wrap64 (((0 : Nat) : Int) + 1) = ((0 + 1 : Nat) : Int) from wrap_nat (by omega)]
  refine Ev.pos (by omega) (Ev.pos (by omega) (Ev.pos (by omega) ((Ev.now _).to ?_)))
  exact digit_at ⟨0, by omega⟩
theorem rput_step (n b : Nat) (hb0 : 2 ≤ b) (hb : b ≤ 16) (hn : n < 9223372036854775808) (h : ¬ n < b) (s : ByteArray) (hs : s.size ≤ 1000) (hi : Ev (fun k => parallaxref1_put.f k ((n / b : Nat) : Int) (b : Int)) s) : Ev (fun k => parallaxref1_put.f k (n : Int) (b : Int)) (s ++ strOfNums [Hex.dig (n % b)]) := by
  have hmod : n % b < b := Nat.mod_lt _ (by omega)
  have hq : wrap64 (Int.tdiv (n : Int) (b : Int)) = ((n / b : Nat) : Int) := by
    rw [Int.tdiv_eq_ediv_of_nonneg (by omega), ← Int.natCast_ediv]
    have := Nat.div_le_self n b
    generalize n / b = q at this ⊢
    exact wrap_in (by omega) (by omega)
  have hr : Int.tmod (n : Int) (b : Int) = ((n % b : Nat) : Int) := by rw [Int.tmod_eq_emod_of_nonneg (by omega), ← Int.natCast_emod]
  refine Ev.step (fun _ => parallaxref1_put.f.eq_2 ..) (Ev.neg (by omega) (Ev.neg (by omega) ?_))
  rw [hq, hr]
  refine Ev.bind hi (Ev.bind (rput_low (n % b) b hb hmod) (Ev.pos ?_ (Ev.now _)))
  rw [strOfNums_size]; simp; omega
theorem known_ev : Ev (fun k => parallaxlaw18_known.f k) true := Ev.of (fun k => parallaxlaw18_known.mono k) (k := 40) (by decide +kernel)
end Go.Proofs.YtfmpajagkjealaaDoor.PHopNamed
