/- What the printed functions of the text layer come to. -/
import Derived.Test.YtfmpajagkjealaaDoorPHopAddsx
import Derived.Test.YtfmpajagkjealaaDoorParts
import Derived.Test.YtfmpajagkjealaaDoorLowP
import Derived.Test.YtfmpajagkjealaaDoorTrimP
import Derived.Test.YtfmpajagkjealaaDoorHex
namespace Go.Proofs.YtfmpajagkjealaaDoor.PHopAdds
open Go.RowKit Go.Proofs.YtfmpajagkjealaaDoorW.PrintWords Go.Proofs.YtfmpajagkjealaaDoorW.PrintLast Go.Proofs.YtfmpajagkjealaaDoorW.PrintMore Go.Proofs.YtfmpajagkjealaaDoor.Aid Go.Proofs.YtfmpajagkjealaaDoor.Parts
set_option linter.unusedVariables false
set_option linter.unusedSimpArgs false

theorem rdOf_mem (l : List ByteArray) (j : Nat) (h : j < l.length) : rdOf ByteArray.empty l (j : Int) ∈ l := by
  unfold rdOf; simp [List.getD_eq_getElem?_getD, h]
theorem set_take (a : List ByteArray) (i : Nat) (x : ByteArray) (h : i < a.length) : (a.set i x).take (i + 1) = a.take i ++ [x] := by
  rw [List.take_succ_eq_append_getElem (by simpa using h), List.getElem_set_self, List.take_set_of_le (Nat.le_refl _)]
theorem BA_one (c : UInt8) : (BA [c]).size = 1 := rfl
theorem wrap_one (j : Nat) (c : UInt8) (h : j < 9223372036854775807) : wrap64 ((j : Int) + ((BA [c]).size : Int)) = ((j + 1 : Nat) : Int) := by
  rw [show ((BA [c]).size : Int) = 1 by rw [BA_one]; rfl]; exact wrap_nat h
theorem genSplit_ev (c : UInt8) (m : Nat) : ∀ (s : ByteArray) (a : List ByteArray) (i n : Nat), s.size ≤ 1000000000000 → s.data.toList.count c = m → n = i + m → a.length = n + 1 → n ≤ 1000000000001 →
    Ev (fun k => strings_genSplit.l0 k s (BA [c]) 0 (n : Int) a (i : Int)) (a.take i ++ parts c s) := by
  induction m with
  | zero =>
    intro s a i n hs hc hn ha hb
    have hp : parts c s = [s] := parts_no c s (by
      rcases Int.lt_or_le (Lib.indexByte s.data.toList c) 0 with x | x
      · exact x
      · have := (index_nil_iff c _).mp x
        have := List.count_pos_iff.mpr this
        omega)
    have hw : wrap64 ((i : Int) + 1) = ((i + 1 : Nat) : Int) := wrap_nat (by omega)
    refine Ev.step (fun _ => strings_genSplit.l0.eq_2 ..) (Ev.neg (by omega) (Ev.pos (by omega) (Ev.pos (by omega) ?_)))
    rw [hw]
    refine Ev.pos (by omega) (Ev.pos (by omega) ((Ev.now _).to ?_))
    rw [hp, Int.toNat_natCast, Int.toNat_natCast, set_take _ _ _ (by omega)]
  | succ m ih =>
    intro s a i n hs hc hn ha hb
    have hidx : 0 ≤ Lib.indexByte s.data.toList c := (index_nil_iff c _).mpr (List.count_pos_iff.mp (by omega))
    obtain ⟨j, hj, hjs, hp, hcnt⟩ := parts_yes c s hidx
    have hI : strings_Index.f s (BA [c]) = some (j : Int) := by
      unfold strings_Index.f; rw [if_pos (BA_one c), data_BA]
      show some (Lib.indexByte s.data.toList c) = _
      rw [hj]
    refine Ev.step (fun _ => strings_genSplit.l0.eq_2 ..) (Ev.pos (by omega) (Ev.val hI (Ev.neg (by omega) ?_)))
    have hi9 : i < 9223372036854775807 := by omega
    have hj9 : j < 9223372036854775807 := by omega
    rw [show wrap64 ((j : Int) + 0) = ((j : Nat) : Int) by rw [Int.add_zero]; exact wrap_in (by omega) (by omega), wrap_one j c hj9, wrap_nat hi9]
    refine Ev.pos (by omega) (Ev.pos (by omega) (Ev.pos (by omega) (Ev.pos (by omega) (Ev.pos (by omega) (Ev.pos (by omega) ?_)))))
    rw [Int.toNat_natCast, Int.toNat_natCast, Int.toNat_natCast]
    have hx : (s.extract (j + 1) s.size).size ≤ 1000000000000 := by rw [Trim.ext_size _ _ _ (Nat.le_refl _)]; omega
    refine (ih (s.extract (j + 1) s.size) (a.set i (s.extract 0 j)) (i + 1) n hx (by omega) (by omega) (by rw [List.length_set]; exact ha) hb).to ?_
    rw [hp, set_take _ _ _ (by omega), List.append_assoc, List.singleton_append]
theorem split_ev (c : UInt8) (s : ByteArray) (hs : s.size ≤ 1000000000000) : Ev (fun k => strings_Split.f k s (BA [c])) (parts c s) := by
  have hcs := count_le_size c s
  have hC : strings_Count.f s (BA [c]) = some ((s.data.toList.count c : Nat) : Int) := by
    unfold strings_Count.f; rw [if_pos (BA_one c), data_BA]; rfl
  unfold strings_Split.f strings_genSplit.f
  refine Ev.bind (a := parts c s) ?_ (Ev.now _)
  refine Ev.neg (by omega) (Ev.neg (by rw [toList_BA]; simp) (Ev.pos (by omega) (Ev.val hC ?_)))
  rw [wrap_nat (by omega)]
  refine Ev.step (fun _ => strings_genSplit.j0.eq_2 ..) ?_
  have hm : mn ((s.data.toList.count c + 1 : Nat) : Int) (wrap64 ((s.size : Int) + 1)) = ((s.data.toList.count c + 1 : Nat) : Int) := by
    rw [wrap_nat (by omega)]; unfold mn; rw [if_neg (by omega)]
  rw [hm, show wrap64 (((s.data.toList.count c + 1 : Nat) : Int) - 1) = ((s.data.toList.count c : Nat) : Int) by rw [wrap_in (by omega) (by omega)]; omega, Int.toNat_natCast]
  refine Ev.pos (by omega) (Ev.pos (by omega) ?_)
  exact (genSplit_ev c (s.data.toList.count c) s _ 0 (s.data.toList.count c) hs rfl (by omega) (by simp) (by omega)).to (by simp)
theorem trim_some {s : ByteArray} (h : s.size ≤ 9223372036854775807) : text_Trim.f s = some (Trim.trimB Trim.blankB s) := by unfold text_Trim.f; rw [if_pos h]
/-- what stands between commas, without blanks at its ends -/
def listB (l : List ByteArray) : List ByteArray := l.flatMap fun v => (parts 44 v).map (Trim.trimB Trim.blankB)
theorem list_in (l : List ByteArray) (n : Int) (i : Nat) (hi : i < 1000000000000) (t : List ByteArray) (ht : ∀ x ∈ t, x.size ≤ 1000000000000) (htl : t.length ≤ 1000000000001) (R : List ByteArray) (d : Nat) : ∀ (j : Nat) (acc : List ByteArray), j + d = t.length → acc.length + d < 8000000000000 →
    Ev (fun k => text_List.l0 k (acc ++ (t.drop j).map (Trim.trimB Trim.blankB)) l n ((i + 1 : Nat) : Int)) R → Ev (fun k => text_List.l1 k acc l n (i : Int) t (t.length : Int) (j : Int)) R := by
  induction d with
  | zero =>
    intro j acc hj ha hR
    refine Ev.step (fun _ => text_List.l1.eq_2 ..) (Ev.neg (by omega) ?_)
    rw [List.drop_of_length_le (by omega), List.map_nil, List.append_nil] at hR
    rw [wrap_nat (by omega)]; exact hR
  | succ d ih =>
    intro j acc hj ha hR
    rw [drop_rdOf ByteArray.empty t j (by omega), List.map_cons] at hR
    refine Ev.step (fun _ => text_List.l1.eq_2 ..) (Ev.pos (by omega) (Ev.pos (by omega) (Ev.pos (by omega) ?_)))
    refine Ev.val (trim_some (by have := ht _ (rdOf_mem t j (by omega)); omega)) (Ev.pos (by omega) ?_)
    rw [wrap_nat (by omega)]
    exact ih (j + 1) _ (by omega) (by simp; omega) (by rw [List.append_assoc]; exact hR)
theorem list_out (l : List ByteArray) (hl : ∀ x ∈ l, x.size ≤ 1000000000000) (hn : l.length ≤ 1000000) (d : Nat) : ∀ (i : Nat) (acc : List ByteArray), i + d = l.length → acc.length + (listB (l.drop i)).length < 7000000000000 →
    Ev (fun k => text_List.l0 k acc l (l.length : Int) (i : Int)) (acc ++ listB (l.drop i)) := by
  induction d with
  | zero =>
    intro i acc hi ha
    refine Ev.step (fun _ => text_List.l0.eq_2 ..) (Ev.neg (by omega) ((Ev.now _).to ?_))
    rw [List.drop_of_length_le (by omega)]; simp [listB]
  | succ d ih =>
    intro i acc hi ha
    have hm := rdOf_mem l i (by omega)
    have hs := hl _ hm
    rw [drop_rdOf ByteArray.empty l i (by omega)] at ha ⊢
    simp only [listB, List.flatMap_cons, List.length_append, List.length_map] at ha ⊢
    have hpl := parts_len 44 (rdOf ByteArray.empty l (i : Int))
    have hcs := count_le_size 44 (rdOf ByteArray.empty l (i : Int))
    refine Ev.step (fun _ => text_List.l0.eq_2 ..) (Ev.pos (by omega) (Ev.pos (by omega) (Ev.pos (by omega) ?_)))
    refine Ev.bind (split_ev 44 _ hs) ?_
    refine list_in l _ i (by omega) _ (fun x hx => Nat.le_trans (parts_size hx) hs) (by omega) _ (parts 44 (rdOf ByteArray.empty l (i : Int))).length 0 acc (by omega) (by omega) ?_
    rw [List.drop_zero]
    refine (ih (i + 1) _ (by omega) (by simp only [listB, List.length_append, List.length_map] at *; omega)).to ?_
    rw [List.append_assoc]; rfl
theorem list_ev (l : List ByteArray) (hl : ∀ x ∈ l, x.size ≤ 1000000000000) (hn : l.length ≤ 1000000) (hb : (listB l).length < 7000000000000) : Ev (fun k => text_List.f k l) (listB l) := by
  unfold text_List.f
  exact (list_out l hl hn l.length 0 [] (by omega) (by simpa using hb)).to (by simp)
theorem same_some {a b : ByteArray} (h : a.size ≤ 9223372036854775807) (h' : b.size ≤ 9223372036854775807) : text_Same.f a b = some (Hand.sameB a b) := by unfold text_Same.f; rw [if_pos ⟨h, h'⟩]
theorem rdT_mem (l : List S28) (j : Nat) (h : j < l.length) : rd_T28 l (j : Int) ∈ l := by
  unfold rd_T28; simp [List.getD_eq_getElem?_getD, h]
theorem drop_rdT (l : List S28) (i : Nat) (h : i < l.length) : l.drop i = rd_T28 l (i : Int) :: l.drop (i + 1) := by
  unfold rd_T28; rw [List.drop_eq_getElem_cons h]; simp [List.getD_eq_getElem?_getD, h]
/-- are the two fields one and the same -/
def fieldB (a b : S28) : Bool := (a.f0.toList == b.f0.toList) && (a.f1.toList == b.f1.toList)
def fieldsB : List S28 → List S28 → Bool
  | [], [] => true
  | a :: l, b :: m => fieldB a b && fieldsB l m
  | _, _ => false
theorem fieldB_iff (a b : S28) : fieldB a b = true ↔ a = b := by
  unfold fieldB
  rw [Bool.and_eq_true, beq_iff_eq, beq_iff_eq, ByteArray.toList_eq, ByteArray.toList_eq, ByteArray.toList_eq, ByteArray.toList_eq]
  constructor
  · rintro ⟨h1, h2⟩
    cases a; cases b; simp only at h1 h2; rw [ba_inj h1, ba_inj h2]
  · rintro rfl; exact ⟨rfl, rfl⟩
theorem fieldsB_iff (a b : List S28) : fieldsB a b = true ↔ a = b := by
  induction a generalizing b with
  | nil => cases b <;> simp [fieldsB]
  | cons x l ih => cases b with
    | nil => simp [fieldsB]
    | cons y m => simp [fieldsB, fieldB_iff, ih]
theorem fieldsB_len {a b : List S28} (h : a.length ≠ b.length) : fieldsB a b = false := by
  rw [Bool.eq_false_iff]; intro e; exact h (congrArg _ ((fieldsB_iff a b).mp e))
theorem fieldB_cond (a b : S28) : (!((a.f0.toList == b.f0.toList)) || !((a.f1.toList == b.f1.toList))) = !(fieldB a b) := by
  unfold fieldB; rw [Bool.not_and]
/-- the values of the fields of a name -/
def findB (l : List S28) (n : ByteArray) : List ByteArray := (l.filter fun f => Hand.sameB f.f0 n).map (·.f1)
theorem find_loop (n : ByteArray) (hn : n.size ≤ 9223372036854775807) (l : List S28) (hl : ∀ x ∈ l, x.f0.size ≤ 9223372036854775807) (hlen : l.length ≤ 1000000000000) (d : Nat) : ∀ (i : Nat) (acc : List ByteArray), i + d = l.length → acc.length + d < 8000000000000 →
    Ev (fun k => text_Find.l0 k n acc l (l.length : Int) (i : Int)) (acc ++ findB (l.drop i) n) := by
  induction d with
  | zero =>
    intro i acc hi ha
    refine Ev.step (fun _ => text_Find.l0.eq_2 ..) (Ev.neg (by omega) ((Ev.now _).to ?_))
    rw [List.drop_of_length_le (by omega)]; simp [findB]
  | succ d ih =>
    intro i acc hi ha
    have h9 : i < 9223372036854775807 := by omega
    have hm := hl _ (rdT_mem l i (by omega))
    rw [drop_rdT l i (by omega)]
    refine Ev.step (fun _ => text_Find.l0.eq_2 ..) (Ev.pos (by omega) (Ev.pos (by omega) (Ev.pos (by omega) (Ev.val (same_some hm hn) ?_))))
    rw [wrap_nat h9]
    by_cases h : Hand.sameB (rd_T28 l (i : Int)).f0 n = true
    · exact Ev.pos h (Ev.pos (by omega) ((ih (i + 1) _ (by omega) (by simp; omega)).to (by simp [findB, h])))
    · exact Ev.neg h ((ih (i + 1) _ (by omega) (by omega)).to (by simp [findB, h]))
theorem find_ev (n : ByteArray) (hn : n.size ≤ 9223372036854775807) (l : List S28) (hl : ∀ x ∈ l, x.f0.size ≤ 9223372036854775807) (hlen : l.length ≤ 1000000000000) : Ev (fun k => text_Find.f k l n) (findB l n) := by
  unfold text_Find.f; exact (find_loop n hn l hl hlen l.length 0 [] (by omega) (by simp; omega)).to (by simp)
theorem findB_len (l : List S28) (n : ByteArray) : (findB l n).length ≤ l.length := by unfold findB; rw [List.length_map]; exact List.length_filter_le _ _
/-- the fields whose name is none of the names -/
def withoutB (l : List S28) (ns : List ByteArray) : List S28 := l.filter fun f => !(ns.any (Hand.sameB f.f0))
theorem wc_some {ns : List ByteArray} {n v : ByteArray} (h : ns.length ≤ 9223372036854775807) (h1 : n.size ≤ 9223372036854775807) (h2 : ∀ x ∈ ns, x.size ≤ 9223372036854775807) : text_Without_1_ContainsFunc.f ns n v = some (ns.any (Hand.sameB n)) := by
  unfold text_Without_1_ContainsFunc.f; rw [if_pos ⟨h, h1, by rw [List.all_eq_true]; intro x hx; exact decide_eq_true (h2 x hx)⟩]
theorem without_loop (ns : List ByteArray) (hn : ns.length ≤ 9223372036854775807) (hs : ∀ x ∈ ns, x.size ≤ 9223372036854775807) (l : List S28) (hl : ∀ x ∈ l, x.f0.size ≤ 9223372036854775807) (hlen : l.length ≤ 1000000000000) (d : Nat) : ∀ (i : Nat) (acc : List S28), i + d = l.length → acc.length + d < 4000000000000 →
    Ev (fun k => text_Without.l0 k ns acc l (l.length : Int) (i : Int)) (acc ++ withoutB (l.drop i) ns) := by
  induction d with
  | zero =>
    intro i acc hi ha
    refine Ev.step (fun _ => text_Without.l0.eq_2 ..) (Ev.neg (by omega) ((Ev.now _).to ?_))
    rw [List.drop_of_length_le (by omega)]; simp [withoutB]
  | succ d ih =>
    intro i acc hi ha
    have h9 : i < 9223372036854775807 := by omega
    have hm := hl _ (rdT_mem l i (by omega))
    rw [drop_rdT l i (by omega)]
    refine Ev.step (fun _ => text_Without.l0.eq_2 ..) (Ev.pos (by omega) (Ev.pos (by omega) (Ev.pos (by omega) (Ev.val (wc_some hn hm hs) ?_))))
    rw [wrap_nat h9]
    by_cases h : (ns.any (Hand.sameB (rd_T28 l (i : Int)).f0)) = true
    · refine Ev.pos h ((ih (i + 1) _ (by omega) (by omega)).to ?_)
      unfold withoutB; rw [List.filter_cons_of_neg (by rw [h]; simp)]
    · refine Ev.neg h (Ev.pos (by omega) ((ih (i + 1) _ (by omega) (by simp; omega)).to ?_))
      unfold withoutB; rw [List.filter_cons_of_pos (by simpa using h), List.append_assoc]; rfl
theorem without_ev (ns : List ByteArray) (hn : ns.length ≤ 9223372036854775807) (hs : ∀ x ∈ ns, x.size ≤ 9223372036854775807) (l : List S28) (hl : ∀ x ∈ l, x.f0.size ≤ 9223372036854775807) (hlen : l.length ≤ 1000000000000) : Ev (fun k => text_Without.f k l ns) (withoutB l ns) := by
  unfold text_Without.f; exact (without_loop ns hn hs l hl hlen l.length 0 [] (by omega) (by simp; omega)).to (by simp)
theorem withoutB_len (l : List S28) (n : List ByteArray) : (withoutB l n).length ≤ l.length := List.length_filter_le _ _
theorem parts_sum (l : List S28) (n : ByteArray) : (findB l n).length + (withoutB l [n]).length = l.length := by
  unfold findB withoutB
  rw [List.length_map]
  induction l with
  | nil => rfl
  | cons a l ih => by_cases h : Hand.sameB a.f0 n = true <;> simp [h] at ih ⊢ <;> omega
theorem rfields_loop (l m : List S28) (he : l.length = m.length) (hlen : l.length < 9223372036854775807) (d : Nat) : ∀ i : Nat, i + d = l.length → Ev (fun k => parallaxref1_Fields.l0 k l m (i : Int)) (fieldsB (l.drop i) (m.drop i)) := by
  induction d with
  | zero =>
    intro i hi
    refine Ev.step (fun _ => parallaxref1_Fields.l0.eq_2 ..) (Ev.neg (by omega) ((Ev.now _).to ?_))
    rw [List.drop_of_length_le (by omega), List.drop_of_length_le (by omega)]; rfl
  | succ d ih =>
    intro i hi
    have h9 : i < 9223372036854775807 := by omega
    rw [drop_rdT l i (by omega), drop_rdT m i (by omega)]
    refine Ev.step (fun _ => parallaxref1_Fields.l0.eq_2 ..) (Ev.pos (by omega) (Ev.pos (by omega) (Ev.pos (by omega) ?_)))
    rw [wrap_nat h9, fieldB_cond]
    by_cases h : fieldB (rd_T28 l (i : Int)) (rd_T28 m (i : Int)) = true
    · exact Ev.neg (by rw [h]; simp) ((ih (i + 1) (by omega)).to (by simp [fieldsB, h]))
    · exact Ev.pos (by simpa using h) ((Ev.now _).to (by simp [fieldsB, h]))
theorem rfields_ev (l m : List S28) (hlen : l.length < 9223372036854775807) : Ev (fun k => parallaxref1_Fields.f k l m) (fieldsB l m) := by
  unfold parallaxref1_Fields.f
  by_cases h : l.length = m.length
  · exact Ev.pos (by omega) ((rfields_loop l m h hlen l.length 0 (by omega)))
  · exact Ev.neg (by omega) ((Ev.now _).to (fieldsB_len h).symm)
theorem rfields_refl (l : List S28) (hlen : l.length < 9223372036854775807) : Ev (fun k => parallaxref1_Fields.f k l l) true := (rfields_ev l l hlen).to ((fieldsB_iff l l).mpr rfl)
theorem hfields_loop (l : List S28) (hn : l.length ≤ 20) (d : Nat) : ∀ i : Nat, i + d = l.length → ∃ b : Bool, Ev (fun k => parallaxhelp_Fields.l0 k l (i : Int)) b := by
  induction d with
  | zero => intro i hi; exact ⟨true, Ev.step (fun _ => parallaxhelp_Fields.l0.eq_2 ..) (Ev.neg (by omega) (Ev.now _))⟩
  | succ d ih =>
    intro i hi
    have h9 : i < 9223372036854775807 := by omega
    obtain ⟨b, hb⟩ := ih (i + 1) (by omega)
    by_cases h : (wrap64 ((((rd_T28 l (i : Int)).f0).size : Int) + (((rd_T28 l (i : Int)).f1).size : Int))) > 120
    · exact ⟨false, Ev.step (fun _ => parallaxhelp_Fields.l0.eq_2 ..) (Ev.pos (by omega) (Ev.pos (by omega) (Ev.pos h (Ev.now _))))⟩
    · refine ⟨b, Ev.step (fun _ => parallaxhelp_Fields.l0.eq_2 ..) (Ev.pos (by omega) (Ev.pos (by omega) (Ev.neg h ?_)))⟩
      rw [wrap_nat h9]; exact hb
theorem hfields_ev (l : List S28) : ∃ b : Bool, Ev (fun k => parallaxhelp_Fields.f k l) b ∧ (b = true → l.length ≤ 20) := by
  unfold parallaxhelp_Fields.f
  by_cases h : (l.length : Int) > 20
  · exact ⟨false, Ev.pos h (Ev.now _), fun e => by cases e⟩
  · obtain ⟨b, hb⟩ := hfields_loop l (by omega) l.length 0 (by omega)
    exact ⟨b, Ev.neg h hb, fun _ => by omega⟩
theorem known_ev : Ev (fun k => parallaxlaw18_known.f k) true := Ev.of (fun k => parallaxlaw18_known.mono k) (k := 40) (by decide +kernel)
end Go.Proofs.YtfmpajagkjealaaDoor.PHopAdds
