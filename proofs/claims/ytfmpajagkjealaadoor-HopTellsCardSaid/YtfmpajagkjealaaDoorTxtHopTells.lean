/- What the printed functions of the text layer come to. -/
import Derived.Test.YtfmpajagkjealaaDoorPHopTellsx
import Derived.Test.YtfmpajagkjealaaDoorParts
import Derived.Test.YtfmpajagkjealaaDoorLowP
import Derived.Test.YtfmpajagkjealaaDoorTrimP
import Derived.Test.YtfmpajagkjealaaDoorHex
namespace Go.Proofs.YtfmpajagkjealaaDoor.PHopTells
open Go.RowKit Go.Proofs.YtfmpajagkjealaaDoorW.PrintWords Go.Proofs.YtfmpajagkjealaaDoorW.PrintLast Go.Proofs.YtfmpajagkjealaaDoorW.PrintMore Go.Proofs.YtfmpajagkjealaaDoor.Aid Go.Proofs.YtfmpajagkjealaaDoor.Parts
set_option linter.unusedVariables false
set_option linter.unusedSimpArgs false

theorem rdOf_mem (l : List ByteArray) (j : Nat) (h : j < l.length) : rdOf ByteArray.empty l (j : Int) ∈ l := by
  unfold rdOf; simp [List.getD_eq_getElem?_getD, h]
theorem set_take (a : List ByteArray) (i : Nat) (x : ByteArray) (h : i < a.length) : (a.set i x).take (i + 1) = a.take i ++ [x] := by
  rw [List.take_succ_eq_append_getElem (by simpa using h), List.getElem_set_self, List.take_set_of_le (Nat.le_refl _)]
theorem BA_one (c : UInt8) : (BA [c]).size = 1 := rfl
theorem wrap_one (j : Nat) (c : UInt8) (h : j < 9223372036854775807) : wrap64 ((j : Int) + ((BA [c]).size : Int)) = ((j + 1 : Nat) : Int) := by
  rw [show ((BA [c]).size : Int) = 1 by rw [BA_one]; rfl]; exact wrap_nat h
theorem genSplit_ev (c : UInt8) (m : Nat) : ∀ (s : ByteArray) (a : List ByteArray) (i n : Nat), s.size ≤ 1000000000000 → s.data.toList.count c = m → n = i + m → a.length = n + 1 → n ≤ 1000000000001 →
    Ev (fun k => strings_genSplit.l0 k s (BA [c]) 0 (n : Int) a (i : Int)) (a.take i ++ parts c s) := by
  induction m with
  | zero =>
    intro s a i n hs hc hn ha hb
    have hp : parts c s = [s] := parts_no c s (by
      rcases Int.lt_or_le (Lib.indexByte s.data.toList c) 0 with x | x
      · exact x
      · have := (index_nil_iff c _).mp x
        have := List.count_pos_iff.mpr this
        omega)
    have hw : wrap64 ((i : Int) + 1) = ((i + 1 : Nat) : Int) := wrap_nat (by omega)
    refine Ev.step (fun _ => strings_genSplit.l0.eq_2 ..) (Ev.neg (by omega) (Ev.pos (by omega) (Ev.pos (by omega) ?_)))
    rw [hw]
    refine Ev.pos (by omega) (Ev.pos (by omega) ((Ev.now _).to ?_))
    rw [hp, Int.toNat_natCast, Int.toNat_natCast, set_take _ _ _ (by omega)]
  | succ m ih =>
    intro s a i n hs hc hn ha hb
    have hidx : 0 ≤ Lib.indexByte s.data.toList c := (index_nil_iff c _).mpr (List.count_pos_iff.mp (by omega))
    obtain ⟨j, hj, hjs, hp, hcnt⟩ := parts_yes c s hidx
    have hI : strings_Index.f s (BA [c]) = some (j : Int) := by
      unfold strings_Index.f; rw [if_pos (BA_one c), data_BA]
      show some (Lib.indexByte s.data.toList c) = _
      rw [hj]
    refine Ev.step (fun _ => strings_genSplit.l0.eq_2 ..) (Ev.pos (by omega) (Ev.val hI (Ev.neg (by omega) ?_)))
    have hi9 : i < 9223372036854775807 := by omega
    have hj9 : j < 9223372036854775807 := by omega
    rw [show wrap64 ((j : Int) + 0) = ((j : Nat) : Int) by rw [Int.add_zero]; exact wrap_in (by omega) (by omega), wrap_one j c hj9, wrap_nat hi9]
    refine Ev.pos (by omega) (Ev.pos (by omega) (Ev.pos (by omega) (Ev.pos (by omega) (Ev.pos (by omega) (Ev.pos (by omega) ?_)))))
    rw [Int.toNat_natCast, Int.toNat_natCast, Int.toNat_natCast]
    have hx : (s.extract (j + 1) s.size).size ≤ 1000000000000 := by rw [Trim.ext_size _ _ _ (Nat.le_refl _)]; omega
    refine (ih (s.extract (j + 1) s.size) (a.set i (s.extract 0 j)) (i + 1) n hx (by omega) (by omega) (by rw [List.length_set]; exact ha) hb).to ?_
    rw [hp, set_take _ _ _ (by omega), List.append_assoc, List.singleton_append]
theorem split_ev (c : UInt8) (s : ByteArray) (hs : s.size ≤ 1000000000000) : Ev (fun k => strings_Split.f k s (BA [c])) (parts c s) := by
  have hcs := count_le_size c s
  have hC : strings_Count.f s (BA [c]) = some ((s.data.toList.count c : Nat) : Int) := by
    unfold strings_Count.f; rw [if_pos (BA_one c), data_BA]; rfl
  unfold strings_Split.f strings_genSplit.f
  refine Ev.bind (a := parts c s) ?_ (Ev.now _)
  refine Ev.neg (by omega) (Ev.neg (by rw [toList_BA]; simp) (Ev.pos (by omega) (Ev.val hC ?_)))
  rw [wrap_nat (by omega)]
  refine Ev.step (fun _ => strings_genSplit.j0.eq_2 ..) ?_
  have hm : mn ((s.data.toList.count c + 1 : Nat) : Int) (wrap64 ((s.size : Int) + 1)) = ((s.data.toList.count c + 1 : Nat) : Int) := by
    rw [wrap_nat (by omega)]; unfold mn; rw [if_neg (by omega)]
  rw [hm, show wrap64 (((s.data.toList.count c + 1 : Nat) : Int) - 1) = ((s.data.toList.count c : Nat) : Int) by rw [wrap_in (by omega) (by omega)]; omega, Int.toNat_natCast]
  refine Ev.pos (by omega) (Ev.pos (by omega) ?_)
  exact (genSplit_ev c (s.data.toList.count c) s _ 0 (s.data.toList.count c) hs rfl (by omega) (by simp) (by omega)).to (by simp)
theorem trim_some {s : ByteArray} (h : s.size ≤ 9223372036854775807) : text_Trim.f s = some (Trim.trimB Trim.blankB s) := by unfold text_Trim.f; rw [if_pos h]
/-- what stands between commas, without blanks at its ends -/
def listB (l : List ByteArray) : List ByteArray := l.flatMap fun v => (parts 44 v).map (Trim.trimB Trim.blankB)
theorem list_in (l : List ByteArray) (n : Int) (i : Nat) (hi : i < 1000000000000) (t : List ByteArray) (ht : ∀ x ∈ t, x.size ≤ 1000000000000) (htl : t.length ≤ 1000000000001) (R : List ByteArray) (d : Nat) : ∀ (j : Nat) (acc : List ByteArray), j + d = t.length → acc.length + d < 8000000000000 →
    Ev (fun k => text_List.l0 k (acc ++ (t.drop j).map (Trim.trimB Trim.blankB)) l n ((i + 1 : Nat) : Int)) R → Ev (fun k => text_List.l1 k acc l n (i : Int) t (t.length : Int) (j : Int)) R := by
  induction d with
  | zero =>
    intro j acc hj ha hR
    refine Ev.step (fun _ => text_List.l1.eq_2 ..) (Ev.neg (by omega) ?_)
    rw [List.drop_of_length_le (by omega), List.map_nil, List.append_nil] at hR
    rw [wrap_nat (by omega)]; exact hR
  | succ d ih =>
    intro j acc hj ha hR
    rw [drop_rdOf ByteArray.empty t j (by omega), List.map_cons] at hR
    refine Ev.step (fun _ => text_List.l1.eq_2 ..) (Ev.pos (by omega) (Ev.pos (by omega) (Ev.pos (by omega) ?_)))
    refine Ev.val (trim_some (by have := ht _ (rdOf_mem t j (by omega)); omega)) (Ev.pos (by omega) ?_)
    rw [wrap_nat (by omega)]
    exact ih (j + 1) _ (by omega) (by simp; omega) (by rw [List.append_assoc]; exact hR)
theorem list_out (l : List ByteArray) (hl : ∀ x ∈ l, x.size ≤ 1000000000000) (hn : l.length ≤ 1000000) (d : Nat) : ∀ (i : Nat) (acc : List ByteArray), i + d = l.length → acc.length + (listB (l.drop i)).length < 7000000000000 →
    Ev (fun k => text_List.l0 k acc l (l.length : Int) (i : Int)) (acc ++ listB (l.drop i)) := by
  induction d with
  | zero =>
    intro i acc hi ha
    refine Ev.step (fun _ => text_List.l0.eq_2 ..) (Ev.neg (by omega) ((Ev.now _).to ?_))
    rw [List.drop_of_length_le (by omega)]; simp [listB]
  | succ d ih =>
    intro i acc hi ha
    have hm := rdOf_mem l i (by omega)
    have hs := hl _ hm
    rw [drop_rdOf ByteArray.empty l i (by omega)] at ha ⊢
    simp only [listB, List.flatMap_cons, List.length_append, List.length_map] at ha ⊢
    have hpl := parts_len 44 (rdOf ByteArray.empty l (i : Int))
    have hcs := count_le_size 44 (rdOf ByteArray.empty l (i : Int))
    refine Ev.step (fun _ => text_List.l0.eq_2 ..) (Ev.pos (by omega) (Ev.pos (by omega) (Ev.pos (by omega) ?_)))
    refine Ev.bind (split_ev 44 _ hs) ?_
    refine list_in l _ i (by omega) _ (fun x hx => Nat.le_trans (parts_size hx) hs) (by omega) _ (parts 44 (rdOf ByteArray.empty l (i : Int))).length 0 acc (by omega) (by omega) ?_
    rw [List.drop_zero]
    refine (ih (i + 1) _ (by omega) (by simp only [listB, List.length_append, List.length_map] at *; omega)).to ?_
    rw [List.append_assoc]; rfl
theorem list_ev (l : List ByteArray) (hl : ∀ x ∈ l, x.size ≤ 1000000000000) (hn : l.length ≤ 1000000) (hb : (listB l).length < 7000000000000) : Ev (fun k => text_List.f k l) (listB l) := by
  unfold text_List.f
  exact (list_out l hl hn l.length 0 [] (by omega) (by simpa using hb)).to (by simp)
theorem same_some {a b : ByteArray} (h : a.size ≤ 9223372036854775807) (h' : b.size ≤ 9223372036854775807) : text_Same.f a b = some (Hand.sameB a b) := by unfold text_Same.f; rw [if_pos ⟨h, h'⟩]
theorem rlower_some {s : ByteArray} (h : s.size ≤ 9223372036854775807) : parallaxref1_Lower.f s = some (Low.lower s) := by unfold parallaxref1_Lower.f; rw [if_pos h]
theorem rsame_some {a b : ByteArray} (h : a.size ≤ 9223372036854775807) (h' : b.size ≤ 9223372036854775807) : parallaxref1_Same.f a b = some (Hand.sameB a b) := by
  unfold parallaxref1_Same.f; rw [rlower_some h, Option.bind_some, rlower_some h', Option.bind_some]; rfl
theorem rin_loop (t : ByteArray) (c : Int) (ht : t.size < 9223372036854775807) (d : Nat) : ∀ i : Nat, i + d = t.size → Ev (fun k => parallaxref1_in.l0 k c t (i : Int)) (((bytesOf t).drop i).any fun b => b == c) := by
  induction d with
  | zero =>
    intro i hi
    refine Ev.step (fun _ => parallaxref1_in.l0.eq_2 ..) (Ev.neg (by omega) ((Ev.now _).to ?_))
    rw [List.drop_of_length_le (by rw [bytesOf_length]; omega)]; rfl
  | succ d ih =>
    intro i hi
    have h9 : i < 9223372036854775807 := by omega
    rw [drop_bytes t i (by omega), List.any_cons]
    refine Ev.step (fun _ => parallaxref1_in.l0.eq_2 ..) (Ev.pos (by omega) (Ev.pos (by omega) ?_))
    by_cases h : bt t (i : Int) = c
    · exact Ev.pos h ((Ev.now _).to (by simp [h]))
    · refine Ev.neg h ?_
      rw [wrap_nat h9]
      exact (ih (i + 1) (by omega)).to (by simp [h])
theorem inB_any (t : ByteArray) (c : Int) (hc : 0 ≤ c ∧ c < 256) : Trim.inB t c = (bytesOf t).any fun b => b == c := by
  unfold Trim.inB
  rw [Bool.eq_iff_iff, decide_eq_true_eq, index_nil_iff, List.any_eq_true]
  unfold bytesOf
  constructor
  · intro h
    refine ⟨c, List.mem_map.mpr ⟨_, h, ?_⟩, by simp⟩
    rw [show c.toNat.toUInt8 = UInt8.ofNat c.toNat from rfl, UInt8.toNat_ofNat_of_lt' (by show c.toNat < 256; omega)]; omega
  · rintro ⟨x, hx, he⟩
    obtain ⟨b, hb, rfl⟩ := List.mem_map.mp hx
    have : (b.toNat : Int) = c := by simpa using he
    have e : c.toNat.toUInt8 = b := by rw [← this]; simp
    rw [e]; exact hb
theorem rin_ev (t : ByteArray) (c : Int) (hc : 0 ≤ c ∧ c < 256) (ht : t.size < 9223372036854775807) : Ev (fun k => parallaxref1_in.f k c t) (Trim.inB t c) := by
  unfold parallaxref1_in.f
  exact (rin_loop t c ht t.size 0 (by omega)).to (by rw [List.drop_zero, inB_any t c hc])
theorem rtrim_l1 (t : ByteArray) (ht : t.size < 9223372036854775807) (n : Nat) : ∀ s : ByteArray, s.size = n → s.size < 9223372036854775807 → Ev (fun k => parallaxref1_TrimOf.l1 k s t) (Trim.trimR (Trim.inB t) s) := by
  induction n with
  | zero =>
    intro s hs _
    have e : s = ByteArray.empty := ByteArray.size_eq_zero_iff.mp hs
    refine Ev.step (fun _ => parallaxref1_TrimOf.l1.eq_2 ..) (Ev.pos (by rw [e, ByteArray.toList_eq]; rfl) ((Ev.now _).to ?_))
    apply ba_inj; rw [TrimP.trimR_data, e]; rfl
  | succ n ih =>
    intro s hs hb
    have hne : ¬ s.toList = [] := by rw [ByteArray.toList_eq]; intro h; have := data_length s; rw [h] at this; simp at this; omega
    have hw : wrap64 ((s.size : Int) - 1) = ((n : Nat) : Int) := by rw [wrap_in (i := (s.size : Int) - 1) (by omega) (by omega)]; omega
    have hn9 : n < s.size := by omega
    have hbt := bt_lt s (n : Int)
    obtain ⟨b, hb1, hb2⟩ : ∃ b : UInt8, s.data.toList = s.data.toList.take n ++ [b] ∧ bt s (n : Int) = (b.toNat : Int) := by
      have hl : n < s.data.toList.length := by rw [data_length]; exact hn9
      refine ⟨s.data.toList[n], ?_, ?_⟩
      · rw [← List.take_succ_eq_append_getElem hl, List.take_of_length_le (by rw [data_length]; omega)]
      · rw [bt_nat s n hn9]; rfl
    refine Ev.step (fun _ => parallaxref1_TrimOf.l1.eq_2 ..) (Ev.neg hne ?_)
    rw [hw]
    refine Ev.pos (by omega) (Ev.pos (by omega) (Ev.bind (rin_ev t _ hbt ht) ?_))
    have hrd : s.data.toList.reverse.dropWhile (TrimP.asU (Trim.inB t)) = if Trim.inB t (bt s (n : Int)) = true then (s.data.toList.take n).reverse.dropWhile (TrimP.asU (Trim.inB t)) else s.data.toList.reverse := by
      conv => lhs; rw [hb1]
      rw [List.reverse_append, List.reverse_singleton, List.singleton_append, List.dropWhile_cons]
      have e : TrimP.asU (Trim.inB t) b = Trim.inB t (bt s (n : Int)) := by unfold TrimP.asU; rw [hb2]
      rw [e]
      by_cases h : Trim.inB t (bt s (n : Int)) = true
      · rw [if_pos h, if_pos h]
      · rw [if_neg h, if_neg h]
        conv => rhs; rw [hb1]
        rw [List.reverse_append, List.reverse_singleton, List.singleton_append]
    by_cases h : Trim.inB t (bt s (n : Int)) = true
    · refine Ev.pos h (Ev.pos (by omega) ?_)
      rw [Int.toNat_natCast]
      refine (ih (s.extract 0 n) (by rw [Trim.ext_size _ _ _ (by omega)]; omega) (by rw [Trim.ext_size _ _ _ (by omega)]; omega)).to ?_
      apply ba_inj
      rw [TrimP.trimR_data, TrimP.trimR_data, hrd, if_pos h, ext_data, List.drop_zero, Nat.sub_zero]
    · refine Ev.neg h ((Ev.now _).to ?_)
      apply ba_inj
      rw [TrimP.trimR_data, hrd, if_neg h, List.reverse_reverse]
theorem rtrim_l0 (t : ByteArray) (ht : t.size < 9223372036854775807) (n : Nat) : ∀ s : ByteArray, s.size = n → s.size < 9223372036854775807 → Ev (fun k => parallaxref1_TrimOf.l0 k s t) (Trim.trimB (Trim.inB t) s) := by
  induction n with
  | zero =>
    intro s hs hb
    have e : s = ByteArray.empty := ByteArray.size_eq_zero_iff.mp hs
    refine Ev.step (fun _ => parallaxref1_TrimOf.l0.eq_2 ..) (Ev.pos (by rw [e, ByteArray.toList_eq]; rfl) (Ev.step (fun _ => parallaxref1_TrimOf.j1.eq_2 ..) ?_))
    refine (rtrim_l1 t ht 0 s hs hb).to ?_
    apply ba_inj; unfold Trim.trimB; rw [TrimP.trimR_data, TrimP.trimR_data, TrimP.trimL_data, e]; rfl
  | succ n ih =>
    intro s hs hb
    have hne : ¬ s.toList = [] := by rw [ByteArray.toList_eq]; intro h; have := data_length s; rw [h] at this; simp at this; omega
    have hbt := bt_lt s (((0 : Nat) : Int))
    have h0 : (0 : Nat) < s.size := by omega
    obtain ⟨b, l, hb1, hb2⟩ : ∃ (b : UInt8) (l : List UInt8), s.data.toList = b :: l ∧ bt s ((0 : Nat) : Int) = (b.toNat : Int) := by
      cases hd : s.data.toList with
      | nil => have := data_length s; rw [hd] at this; simp at this; omega
      | cons b l =>
        refine ⟨b, l, rfl, ?_⟩
        rw [bt_nat s 0 h0]
        have : s[0] = s.data.toList[0]'(by rw [data_length]; exact h0) := rfl
        rw [this]; simp [hd]
    have e : TrimP.asU (Trim.inB t) b = Trim.inB t (bt s ((0 : Nat) : Int)) := by unfold TrimP.asU; rw [hb2]
    have hx : (s.extract 1 s.size).data.toList = l := by rw [ext_data, hb1]; simp; rw [List.take_of_length_le]; have := data_length s; rw [hb1] at this; simp at this; omega
    refine Ev.step (fun _ => parallaxref1_TrimOf.l0.eq_2 ..) (Ev.neg hne (Ev.pos (by omega) (Ev.bind (rin_ev t _ hbt ht) ?_)))
    by_cases h : Trim.inB t (bt s ((0 : Nat) : Int)) = true
    · refine Ev.pos h (Ev.pos (by omega) ?_)
      refine (ih (s.extract 1 s.size) (by rw [Trim.ext_size _ _ _ (Nat.le_refl _)]; omega) (by rw [Trim.ext_size _ _ _ (Nat.le_refl _)]; omega)).to ?_
      rw [TrimP.trimB_eq, TrimP.trimB_eq, hx, hb1]
      congr 1
      unfold TrimP.trimU
      rw [List.dropWhile_cons, if_pos (by rw [e]; exact h)]
    · refine Ev.neg h (Ev.step (fun _ => parallaxref1_TrimOf.j1.eq_2 ..) ?_)
      refine (rtrim_l1 t ht (n + 1) s hs hb).to ?_
      apply ba_inj; unfold Trim.trimB
      rw [TrimP.trimR_data, TrimP.trimR_data, TrimP.trimL_data, hb1, List.dropWhile_cons, if_neg (by rw [e]; exact h)]
theorem rtrimOf_ev (s t : ByteArray) (hs : s.size < 9223372036854775807) (ht : t.size < 9223372036854775807) : Ev (fun k => parallaxref1_TrimOf.f k s t) (Trim.trimB (Trim.inB t) s) := by
  unfold parallaxref1_TrimOf.f; exact rtrim_l0 t ht s.size s rfl hs
theorem blank_in : Trim.inB (⟨#[32, 9]⟩ : ByteArray) = fun c => Trim.inB (⟨#[32, 9]⟩ : ByteArray) c := rfl
theorem blank_eq : ∀ n : Fin 256, Trim.inB (⟨#[32, 9]⟩ : ByteArray) (n.val : Int) = Trim.blankB (n.val : Int) := by decide +kernel
theorem trimB_congr (p q : Int → Bool) (s : ByteArray) (h : ∀ c : Int, 0 ≤ c → c < 256 → p c = q c) : Trim.trimB p s = Trim.trimB q s := by
  have e : TrimP.asU p = TrimP.asU q := by
    funext b; unfold TrimP.asU; have := b.toNat_lt; exact h _ (by omega) (by omega)
  rw [TrimP.trimB_eq, TrimP.trimB_eq, e]
theorem rtrim_ev (s : ByteArray) (hs : s.size < 9223372036854775807) : Ev (fun k => parallaxref1_Trim.f k s) (Trim.trimB Trim.blankB s) := by
  unfold parallaxref1_Trim.f
  refine Ev.bind (rtrimOf_ev s _ hs (by decide)) ((Ev.now _).to ?_)
  exact trimB_congr _ _ s (fun c h0 h1 => byte_all (p := fun c => Trim.inB (⟨#[32, 9]⟩ : ByteArray) c = Trim.blankB c) blank_eq h0 h1)
theorem rstrings_loop (l : List ByteArray) (hn : l.length < 9223372036854775807) (d : Nat) : ∀ i : Nat, i + d = l.length → Ev (fun k => parallaxref1_Strings.l0 k l l (i : Int)) true := by
  induction d with
  | zero => intro i hi; exact Ev.step (fun _ => parallaxref1_Strings.l0.eq_2 ..) (Ev.neg (by omega) (Ev.now _))
  | succ d ih =>
    intro i hi
    have h9 : i < 9223372036854775807 := by omega
    refine Ev.step (fun _ => parallaxref1_Strings.l0.eq_2 ..) (Ev.pos (by omega) (Ev.pos (by omega) (Ev.pos (by omega) (Ev.pos rfl ?_))))
    rw [wrap_nat h9]; exact ih (i + 1) (by omega)
theorem rstrings_refl (l : List ByteArray) (hn : l.length < 9223372036854775807) : Ev (fun k => parallaxref1_Strings.f k l l) true := by
  unfold parallaxref1_Strings.f
  exact Ev.pos rfl (rstrings_loop l hn l.length 0 (by omega))
theorem rsplit_loop (c : UInt8) (s : ByteArray) (hs : s.size ≤ 1000000000000) (d : Nat) : ∀ (f i : Nat) (acc : List ByteArray), i + d = s.size → f ≤ i → (∀ j, f ≤ j → j < i → bt s (j : Int) ≠ (c.toNat : Int)) → acc.length + d < 8000000000000 →
    Ev (fun k => parallaxref1_Split.l0 k s (c.toNat : Int) acc (f : Int) (i : Int)) (acc ++ (splitU c (s.data.toList.drop f)).map BA) := by
  have seg : ∀ (f i : Nat), f ≤ i → i ≤ s.size → (∀ j, f ≤ j → j < i → bt s (j : Int) ≠ (c.toNat : Int)) → c ∉ (s.data.toList.drop f).take (i - f) := by
    intro f i hfi his hno hm
    obtain ⟨n, hn, he⟩ := List.mem_iff_getElem.mp hm
    rw [List.length_take, List.length_drop, data_length] at hn
    rw [List.getElem_take, List.getElem_drop] at he
    have h1 := hno (f + n) (by omega) (by omega)
    rw [bt_nat s (f + n) (by omega)] at h1
    exact h1 (congrArg (fun z : UInt8 => (z.toNat : Int)) he)
  induction d with
  | zero =>
    intro f i acc hi hf hno ha
    have h9 : i < 9223372036854775807 := by omega
    refine Ev.step (fun _ => parallaxref1_Split.l0.eq_2 ..) (Ev.pos (by omega) (Ev.pos (by omega) (Ev.pos (by omega) (Ev.pos (by omega) (Ev.pos (by omega) ?_)))))
    rw [wrap_nat h9]
    refine Ev.step (fun _ => parallaxref1_Split.l0.eq_2 ..) (Ev.neg (by omega) ((Ev.now _).to ?_))
    have h1 := seg f i hf (by omega) hno
    rw [List.take_of_length_le (by rw [List.length_drop, data_length]; omega)] at h1
    rw [splitU_none c _ h1, Int.toNat_natCast, Int.toNat_natCast, ext_BA, List.take_of_length_le (by rw [List.length_drop, data_length]; omega)]; rfl
  | succ d ih =>
    intro f i acc hi hf hno ha
    have h9 : i < 9223372036854775807 := by omega
    refine Ev.step (fun _ => parallaxref1_Split.l0.eq_2 ..) (Ev.pos (by omega) (Ev.neg (by omega) (Ev.pos (by omega) (Ev.pos (by omega) ?_))))
    rw [wrap_nat h9]
    by_cases h : bt s (i : Int) = (c.toNat : Int)
    · refine Ev.pos h (Ev.pos (by omega) (Ev.pos (by omega) (Ev.pos (by omega) ?_)))
      refine (ih (i + 1) (i + 1) _ (by omega) (Nat.le_refl _) (fun j h1 h2 => by omega) (by simp; omega)).to ?_
      have h1 := seg f i hf (by omega) hno
      have hc : s.data.toList[i]'(by rw [data_length]; omega) = c := by
        rw [bt_nat s i (by omega)] at h
        have : (s[i]'(by omega)) = c := by apply UInt8.toNat_inj.mp; omega
        exact this
      have e : s.data.toList.drop f = (s.data.toList.drop f).take (i - f) ++ c :: s.data.toList.drop (i + 1) := by
        have e1 := List.take_append_drop (i - f) (s.data.toList.drop f)
        rw [List.drop_drop, show f + (i - f) = i by omega, List.drop_eq_getElem_cons (i := i) (by rw [data_length]; omega), hc] at e1
        exact e1.symm
      rw [e, splitU_at c _ _ h1, Int.toNat_natCast, Int.toNat_natCast, ext_BA, List.map_cons, List.append_assoc, List.singleton_append]
    · refine Ev.neg h ?_
      exact ih f (i + 1) acc (by omega) (by omega) (fun j h1 h2 => by
        by_cases e : j = i
        · subst e; exact h
        · exact hno j h1 (by omega)) (by omega)
theorem rsplit_ev (c : UInt8) (s : ByteArray) (hs : s.size ≤ 1000000000000) : Ev (fun k => parallaxref1_Split.f k s (c.toNat : Int)) (parts c s) := by
  unfold parallaxref1_Split.f
  exact (rsplit_loop c s hs s.size 0 0 [] (by omega) (Nat.le_refl _) (fun j h1 h2 => by omega) (by simp; omega)).to (by rw [List.drop_zero, List.nil_append]; rfl)
theorem rlist_in (l : List ByteArray) (i : Nat) (hi : i < 1000000000000) (t : List ByteArray) (ht : ∀ x ∈ t, x.size ≤ 1000000000000) (htl : t.length ≤ 1000000000001) (R : List ByteArray) (d : Nat) : ∀ (j : Nat) (acc : List ByteArray), j + d = t.length → acc.length + d < 8000000000000 →
    Ev (fun k => parallaxref1_List.l0 k l (acc ++ (t.drop j).map (Trim.trimB Trim.blankB)) ((i + 1 : Nat) : Int)) R → Ev (fun k => parallaxref1_List.l1 k l acc (i : Int) t (j : Int)) R := by
  induction d with
  | zero =>
    intro j acc hj ha hR
    have h9 : i < 9223372036854775807 := by omega
    refine Ev.step (fun _ => parallaxref1_List.l1.eq_2 ..) (Ev.neg (by omega) ?_)
    rw [List.drop_of_length_le (by omega), List.map_nil, List.append_nil] at hR
    rw [wrap_nat h9]; exact hR
  | succ d ih =>
    intro j acc hj ha hR
    have h9 : j < 9223372036854775807 := by omega
    rw [drop_rdOf ByteArray.empty t j (by omega), List.map_cons] at hR
    refine Ev.step (fun _ => parallaxref1_List.l1.eq_2 ..) (Ev.pos (by omega) (Ev.pos (by omega) ?_))
    refine Ev.bind (rtrim_ev _ (by have := ht _ (rdOf_mem t j (by omega)); omega)) (Ev.pos (by omega) ?_)
    rw [wrap_nat h9]
    exact ih (j + 1) _ (by omega) (by simp; omega) (by rw [List.append_assoc]; exact hR)
theorem rlist_out (l : List ByteArray) (hl : ∀ x ∈ l, x.size ≤ 1000000000000) (hn : l.length ≤ 1000000) (d : Nat) : ∀ (i : Nat) (acc : List ByteArray), i + d = l.length → acc.length + (listB (l.drop i)).length < 7000000000000 →
    Ev (fun k => parallaxref1_List.l0 k l acc (i : Int)) (acc ++ listB (l.drop i)) := by
  induction d with
  | zero =>
    intro i acc hi ha
    refine Ev.step (fun _ => parallaxref1_List.l0.eq_2 ..) (Ev.neg (by omega) ((Ev.now _).to ?_))
    rw [List.drop_of_length_le (by omega)]; simp [listB]
  | succ d ih =>
    intro i acc hi ha
    have hm := rdOf_mem l i (by omega)
    have hs := hl _ hm
    rw [drop_rdOf ByteArray.empty l i (by omega)] at ha ⊢
    simp only [listB, List.flatMap_cons, List.length_append, List.length_map] at ha ⊢
    have hpl := parts_len 44 (rdOf ByteArray.empty l (i : Int))
    have hcs := count_le_size 44 (rdOf ByteArray.empty l (i : Int))
    refine Ev.step (fun _ => parallaxref1_List.l0.eq_2 ..) (Ev.pos (by omega) (Ev.pos (by omega) ?_))
    refine Ev.bind (rsplit_ev 44 _ hs) ?_
    refine rlist_in l i (by omega) _ (fun x hx => Nat.le_trans (parts_size hx) hs) (by omega) _ (parts 44 (rdOf ByteArray.empty l (i : Int))).length 0 acc (by omega) (by omega) ?_
    rw [List.drop_zero]
    refine (ih (i + 1) _ (by omega) (by simp only [listB, List.length_append, List.length_map] at *; omega)).to ?_
    rw [List.append_assoc]; rfl
theorem rlist_ev (l : List ByteArray) (hl : ∀ x ∈ l, x.size ≤ 1000000000000) (hn : l.length ≤ 1000000) (hb : (listB l).length < 7000000000000) : Ev (fun k => parallaxref1_List.f k l) (listB l) := by
  unfold parallaxref1_List.f
  exact (rlist_out l hl hn l.length 0 [] (by omega) (by simpa using hb)).to (by simp)
theorem listB_len (l : List ByteArray) (m : Nat) (h : ∀ x ∈ l, x.size ≤ m) : (listB l).length ≤ l.length * (m + 1) := by
  induction l with
  | nil => simp [listB]
  | cons a l ih =>
    have h1 := ih (fun x hx => h x (by simp [hx]))
    have h2 := h a (by simp)
    have h3 := parts_len 44 a
    have h4 := count_le_size 44 a
    simp only [listB, List.flatMap_cons, List.length_append, List.length_map, List.length_cons] at *
    rw [Nat.succ_mul]; omega
theorem rdT_mem (l : List S28) (j : Nat) (h : j < l.length) : rd_T28 l (j : Int) ∈ l := by
  unfold rd_T28; simp [List.getD_eq_getElem?_getD, h]
theorem drop_rdT (l : List S28) (i : Nat) (h : i < l.length) : l.drop i = rd_T28 l (i : Int) :: l.drop (i + 1) := by
  unfold rd_T28; rw [List.drop_eq_getElem_cons h]; simp [List.getD_eq_getElem?_getD, h]
/-- are the two fields one and the same -/
def fieldB (a b : S28) : Bool := (a.f0.toList == b.f0.toList) && (a.f1.toList == b.f1.toList)
def fieldsB : List S28 → List S28 → Bool
  | [], [] => true
  | a :: l, b :: m => fieldB a b && fieldsB l m
  | _, _ => false
theorem fieldB_iff (a b : S28) : fieldB a b = true ↔ a = b := by
  unfold fieldB
  rw [Bool.and_eq_true, beq_iff_eq, beq_iff_eq, ByteArray.toList_eq, ByteArray.toList_eq, ByteArray.toList_eq, ByteArray.toList_eq]
  constructor
  · rintro ⟨h1, h2⟩
    cases a; cases b; simp only at h1 h2; rw [ba_inj h1, ba_inj h2]
  · rintro rfl; exact ⟨rfl, rfl⟩
theorem fieldsB_iff (a b : List S28) : fieldsB a b = true ↔ a = b := by
  induction a generalizing b with
  | nil => cases b <;> simp [fieldsB]
  | cons x l ih => cases b with
    | nil => simp [fieldsB]
    | cons y m => simp [fieldsB, fieldB_iff, ih]
theorem fieldsB_len {a b : List S28} (h : a.length ≠ b.length) : fieldsB a b = false := by
  rw [Bool.eq_false_iff]; intro e; exact h (congrArg _ ((fieldsB_iff a b).mp e))
theorem fieldB_cond (a b : S28) : (!((a.f0.toList == b.f0.toList)) || !((a.f1.toList == b.f1.toList))) = !(fieldB a b) := by
  unfold fieldB; rw [Bool.not_and]
/-- the values of the fields of a name -/
def findB (l : List S28) (n : ByteArray) : List ByteArray := (l.filter fun f => Hand.sameB f.f0 n).map (·.f1)
theorem find_loop (n : ByteArray) (hn : n.size ≤ 9223372036854775807) (l : List S28) (hl : ∀ x ∈ l, x.f0.size ≤ 9223372036854775807) (hlen : l.length ≤ 1000000000000) (d : Nat) : ∀ (i : Nat) (acc : List ByteArray), i + d = l.length → acc.length + d < 8000000000000 →
    Ev (fun k => text_Find.l0 k n acc l (l.length : Int) (i : Int)) (acc ++ findB (l.drop i) n) := by
  induction d with
  | zero =>
    intro i acc hi ha
    refine Ev.step (fun _ => text_Find.l0.eq_2 ..) (Ev.neg (by omega) ((Ev.now _).to ?_))
    rw [List.drop_of_length_le (by omega)]; simp [findB]
  | succ d ih =>
    intro i acc hi ha
    have h9 : i < 9223372036854775807 := by omega
    have hm := hl _ (rdT_mem l i (by omega))
    rw [drop_rdT l i (by omega)]
    refine Ev.step (fun _ => text_Find.l0.eq_2 ..) (Ev.pos (by omega) (Ev.pos (by omega) (Ev.pos (by omega) (Ev.val (same_some hm hn) ?_))))
    rw [wrap_nat h9]
    by_cases h : Hand.sameB (rd_T28 l (i : Int)).f0 n = true
    · exact Ev.pos h (Ev.pos (by omega) ((ih (i + 1) _ (by omega) (by simp; omega)).to (by simp [findB, h])))
    · exact Ev.neg h ((ih (i + 1) _ (by omega) (by omega)).to (by simp [findB, h]))
theorem find_ev (n : ByteArray) (hn : n.size ≤ 9223372036854775807) (l : List S28) (hl : ∀ x ∈ l, x.f0.size ≤ 9223372036854775807) (hlen : l.length ≤ 1000000000000) : Ev (fun k => text_Find.f k l n) (findB l n) := by
  unfold text_Find.f; exact (find_loop n hn l hl hlen l.length 0 [] (by omega) (by simp; omega)).to (by simp)
theorem findB_len (l : List S28) (n : ByteArray) : (findB l n).length ≤ l.length := by unfold findB; rw [List.length_map]; exact List.length_filter_le _ _
theorem rfind_loop (n : ByteArray) (hn : n.size ≤ 9223372036854775807) (l : List S28) (hl : ∀ x ∈ l, x.f0.size ≤ 9223372036854775807) (hlen : l.length ≤ 1000000000000) (d : Nat) : ∀ (i : Nat) (acc : List ByteArray), i + d = l.length → acc.length + d < 8000000000000 →
    Ev (fun k => parallaxref1_Find.l0 k l n acc (i : Int)) (acc ++ findB (l.drop i) n) := by
  induction d with
  | zero =>
    intro i acc hi ha
    refine Ev.step (fun _ => parallaxref1_Find.l0.eq_2 ..) (Ev.neg (by omega) ((Ev.now _).to ?_))
    rw [List.drop_of_length_le (by omega)]; simp [findB]
  | succ d ih =>
    intro i acc hi ha
    have h9 : i < 9223372036854775807 := by omega
    have hm := hl _ (rdT_mem l i (by omega))
    rw [drop_rdT l i (by omega)]
    refine Ev.step (fun _ => parallaxref1_Find.l0.eq_2 ..) (Ev.pos (by omega) (Ev.pos (by omega) (Ev.val (rsame_some hm hn) ?_)))
    rw [wrap_nat h9]
    by_cases h : Hand.sameB (rd_T28 l (i : Int)).f0 n = true
    · exact Ev.pos h (Ev.pos (by omega) ((ih (i + 1) _ (by omega) (by simp; omega)).to (by simp [findB, h])))
    · exact Ev.neg h ((ih (i + 1) _ (by omega) (by omega)).to (by simp [findB, h]))
theorem rfind_ev (n : ByteArray) (hn : n.size ≤ 9223372036854775807) (l : List S28) (hl : ∀ x ∈ l, x.f0.size ≤ 9223372036854775807) (hlen : l.length ≤ 1000000000000) : Ev (fun k => parallaxref1_Find.f k l n) (findB l n) := by
  unfold parallaxref1_Find.f; exact (rfind_loop n hn l hl hlen l.length 0 [] (by omega) (by simp; omega)).to (by simp)
/-- the fields whose name is none of the names -/
def withoutB (l : List S28) (ns : List ByteArray) : List S28 := l.filter fun f => !(ns.any (Hand.sameB f.f0))
theorem wc_some {ns : List ByteArray} {n v : ByteArray} (h : ns.length ≤ 9223372036854775807) (h1 : n.size ≤ 9223372036854775807) (h2 : ∀ x ∈ ns, x.size ≤ 9223372036854775807) : text_Without_1_ContainsFunc.f ns n v = some (ns.any (Hand.sameB n)) := by
  unfold text_Without_1_ContainsFunc.f; rw [if_pos ⟨h, h1, by rw [List.all_eq_true]; intro x hx; exact decide_eq_true (h2 x hx)⟩]
theorem without_loop (ns : List ByteArray) (hn : ns.length ≤ 9223372036854775807) (hs : ∀ x ∈ ns, x.size ≤ 9223372036854775807) (l : List S28) (hl : ∀ x ∈ l, x.f0.size ≤ 9223372036854775807) (hlen : l.length ≤ 1000000000000) (d : Nat) : ∀ (i : Nat) (acc : List S28), i + d = l.length → acc.length + d < 4000000000000 →
    Ev (fun k => text_Without.l0 k ns acc l (l.length : Int) (i : Int)) (acc ++ withoutB (l.drop i) ns) := by
  induction d with
  | zero =>
    intro i acc hi ha
    refine Ev.step (fun _ => text_Without.l0.eq_2 ..) (Ev.neg (by omega) ((Ev.now _).to ?_))
    rw [List.drop_of_length_le (by omega)]; simp [withoutB]
  | succ d ih =>
    intro i acc hi ha
    have h9 : i < 9223372036854775807 := by omega
    have hm := hl _ (rdT_mem l i (by omega))
    rw [drop_rdT l i (by omega)]
    refine Ev.step (fun _ => text_Without.l0.eq_2 ..) (Ev.pos (by omega) (Ev.pos (by omega) (Ev.pos (by omega) (Ev.val (wc_some hn hm hs) ?_))))
    rw [wrap_nat h9]
    by_cases h : (ns.any (Hand.sameB (rd_T28 l (i : Int)).f0)) = true
    · refine Ev.pos h ((ih (i + 1) _ (by omega) (by omega)).to ?_)
      unfold withoutB; rw [List.filter_cons_of_neg (by rw [h]; simp)]
    · refine Ev.neg h (Ev.pos (by omega) ((ih (i + 1) _ (by omega) (by simp; omega)).to ?_))
      unfold withoutB; rw [List.filter_cons_of_pos (by simpa using h), List.append_assoc]; rfl
theorem without_ev (ns : List ByteArray) (hn : ns.length ≤ 9223372036854775807) (hs : ∀ x ∈ ns, x.size ≤ 9223372036854775807) (l : List S28) (hl : ∀ x ∈ l, x.f0.size ≤ 9223372036854775807) (hlen : l.length ≤ 1000000000000) : Ev (fun k => text_Without.f k l ns) (withoutB l ns) := by
  unfold text_Without.f; exact (without_loop ns hn hs l hl hlen l.length 0 [] (by omega) (by simp; omega)).to (by simp)
theorem withoutB_len (l : List S28) (n : List ByteArray) : (withoutB l n).length ≤ l.length := List.length_filter_le _ _
theorem parts_sum (l : List S28) (n : ByteArray) : (findB l n).length + (withoutB l [n]).length = l.length := by
  unfold findB withoutB
  rw [List.length_map]
  induction l with
  | nil => rfl
  | cons a l ih => by_cases h : Hand.sameB a.f0 n = true <;> simp [h] at ih ⊢ <;> omega
theorem rone_loop (n : ByteArray) (hn : n.size ≤ 9223372036854775807) (l : List ByteArray) (hs : ∀ x ∈ l, x.size ≤ 9223372036854775807) (hlen : l.length ≤ 9223372036854775807) (d : Nat) : ∀ i : Nat, i + d = l.length →
    Ev (fun k => parallaxref1_One.l0 k l n (i : Int)) ((l.drop i).any (Hand.sameB n)) := by
  induction d with
  | zero =>
    intro i hi
    refine Ev.step (fun _ => parallaxref1_One.l0.eq_2 ..) (Ev.neg (by omega) ((Ev.now _).to ?_))
    rw [List.drop_of_length_le (by omega)]; rfl
  | succ d ih =>
    intro i hi
    have h9 : i < 9223372036854775807 := by omega
    have hm := hs _ (rdOf_mem l i (by omega))
    rw [drop_rdOf ByteArray.empty l i (by omega), List.any_cons, LowP.same_comm n]
    refine Ev.step (fun _ => parallaxref1_One.l0.eq_2 ..) (Ev.pos (by omega) (Ev.pos (by omega) (Ev.val (rsame_some hm hn) ?_)))
    rw [wrap_nat h9]
    by_cases h : Hand.sameB (rdOf ByteArray.empty l (i : Int)) n = true
    · exact Ev.pos h ((Ev.now _).to (by rw [h]; rfl))
    · exact Ev.neg h ((ih (i + 1) (by omega)).to (by rw [Bool.eq_false_iff.mpr h]; rfl))
theorem rone_ev (n : ByteArray) (hn : n.size ≤ 9223372036854775807) (l : List ByteArray) (hs : ∀ x ∈ l, x.size ≤ 9223372036854775807) (hlen : l.length ≤ 9223372036854775807) : Ev (fun k => parallaxref1_One.f k l n) (l.any (Hand.sameB n)) := by
  unfold parallaxref1_One.f; exact rone_loop n hn l hs hlen l.length 0 (by omega)
theorem rwithout_loop (ns : List ByteArray) (hn : ns.length ≤ 9223372036854775807) (hs : ∀ x ∈ ns, x.size ≤ 9223372036854775807) (l : List S28) (hl : ∀ x ∈ l, x.f0.size ≤ 9223372036854775807) (hlen : l.length ≤ 1000000000000) (d : Nat) : ∀ (i : Nat) (acc : List S28), i + d = l.length → acc.length + d < 4000000000000 →
    Ev (fun k => parallaxref1_Without.l0 k l ns acc (i : Int)) (acc ++ withoutB (l.drop i) ns) := by
  induction d with
  | zero =>
    intro i acc hi ha
    refine Ev.step (fun _ => parallaxref1_Without.l0.eq_2 ..) (Ev.neg (by omega) ((Ev.now _).to ?_))
    rw [List.drop_of_length_le (by omega)]; simp [withoutB]
  | succ d ih =>
    intro i acc hi ha
    have h9 : i < 9223372036854775807 := by omega
    have hm := hl _ (rdT_mem l i (by omega))
    rw [drop_rdT l i (by omega)]
    refine Ev.step (fun _ => parallaxref1_Without.l0.eq_2 ..) (Ev.pos (by omega) (Ev.pos (by omega) (Ev.bind (rone_ev _ hm ns hs hn) ?_)))
    rw [wrap_nat h9]
    by_cases h : (ns.any (Hand.sameB (rd_T28 l (i : Int)).f0)) = true
    · refine Ev.pos h ((ih (i + 1) _ (by omega) (by omega)).to ?_)
      unfold withoutB; rw [List.filter_cons_of_neg (by rw [h]; simp)]
    · refine Ev.neg h (Ev.pos (by omega) ((ih (i + 1) _ (by omega) (by simp; omega)).to ?_))
      unfold withoutB; rw [List.filter_cons_of_pos (by simpa using h), List.append_assoc]; rfl
theorem rwithout_ev (ns : List ByteArray) (hn : ns.length ≤ 9223372036854775807) (hs : ∀ x ∈ ns, x.size ≤ 9223372036854775807) (l : List S28) (hl : ∀ x ∈ l, x.f0.size ≤ 9223372036854775807) (hlen : l.length ≤ 1000000000000) : Ev (fun k => parallaxref1_Without.f k l ns) (withoutB l ns) := by
  unfold parallaxref1_Without.f; exact (rwithout_loop ns hn hs l hl hlen l.length 0 [] (by omega) (by simp; omega)).to (by simp)
theorem rfields_loop (l m : List S28) (he : l.length = m.length) (hlen : l.length < 9223372036854775807) (d : Nat) : ∀ i : Nat, i + d = l.length → Ev (fun k => parallaxref1_Fields.l0 k l m (i : Int)) (fieldsB (l.drop i) (m.drop i)) := by
  induction d with
  | zero =>
    intro i hi
    refine Ev.step (fun _ => parallaxref1_Fields.l0.eq_2 ..) (Ev.neg (by omega) ((Ev.now _).to ?_))
    rw [List.drop_of_length_le (by omega), List.drop_of_length_le (by omega)]; rfl
  | succ d ih =>
    intro i hi
    have h9 : i < 9223372036854775807 := by omega
    rw [drop_rdT l i (by omega), drop_rdT m i (by omega)]
    refine Ev.step (fun _ => parallaxref1_Fields.l0.eq_2 ..) (Ev.pos (by omega) (Ev.pos (by omega) (Ev.pos (by omega) ?_)))
    rw [wrap_nat h9, fieldB_cond]
    by_cases h : fieldB (rd_T28 l (i : Int)) (rd_T28 m (i : Int)) = true
    · exact Ev.neg (by rw [h]; simp) ((ih (i + 1) (by omega)).to (by simp [fieldsB, h]))
    · exact Ev.pos (by simpa using h) ((Ev.now _).to (by simp [fieldsB, h]))
theorem rfields_ev (l m : List S28) (hlen : l.length < 9223372036854775807) : Ev (fun k => parallaxref1_Fields.f k l m) (fieldsB l m) := by
  unfold parallaxref1_Fields.f
  by_cases h : l.length = m.length
  · exact Ev.pos (by omega) ((rfields_loop l m h hlen l.length 0 (by omega)))
  · exact Ev.neg (by omega) ((Ev.now _).to (fieldsB_len h).symm)
theorem rfields_refl (l : List S28) (hlen : l.length < 9223372036854775807) : Ev (fun k => parallaxref1_Fields.f k l l) true := (rfields_ev l l hlen).to ((fieldsB_iff l l).mpr rfl)
theorem hfields_loop (l : List S28) (hn : l.length ≤ 20) (d : Nat) : ∀ i : Nat, i + d = l.length → ∃ b : Bool, Ev (fun k => parallaxhelp_Fields.l0 k l (i : Int)) b := by
  induction d with
  | zero => intro i hi; exact ⟨true, Ev.step (fun _ => parallaxhelp_Fields.l0.eq_2 ..) (Ev.neg (by omega) (Ev.now _))⟩
  | succ d ih =>
    intro i hi
    have h9 : i < 9223372036854775807 := by omega
    obtain ⟨b, hb⟩ := ih (i + 1) (by omega)
    by_cases h : (wrap64 ((((rd_T28 l (i : Int)).f0).size : Int) + (((rd_T28 l (i : Int)).f1).size : Int))) > 120
    · exact ⟨false, Ev.step (fun _ => parallaxhelp_Fields.l0.eq_2 ..) (Ev.pos (by omega) (Ev.pos (by omega) (Ev.pos h (Ev.now _))))⟩
    · refine ⟨b, Ev.step (fun _ => parallaxhelp_Fields.l0.eq_2 ..) (Ev.pos (by omega) (Ev.pos (by omega) (Ev.neg h ?_)))⟩
      rw [wrap_nat h9]; exact hb
theorem hfields_ev (l : List S28) : ∃ b : Bool, Ev (fun k => parallaxhelp_Fields.f k l) b ∧ (b = true → l.length ≤ 20) := by
  unfold parallaxhelp_Fields.f
  by_cases h : (l.length : Int) > 20
  · exact ⟨false, Ev.pos h (Ev.now _), fun e => by cases e⟩
  · obtain ⟨b, hb⟩ := hfields_loop l (by omega) l.length 0 (by omega)
    exact ⟨b, Ev.neg h hb, fun _ => by omega⟩
theorem hfields2_loop (l : List S28) (hn : l.length ≤ 20) (hz : ∀ x ∈ l, x.f0.size ≤ 140737488351232 ∧ x.f1.size ≤ 140737488351232) (d : Nat) : ∀ i : Nat, i + d = l.length → ∃ b : Bool, Ev (fun k => parallaxhelp_Fields.l0 k l (i : Int)) b ∧ (b = true → ∀ x ∈ l.drop i, x.f0.size + x.f1.size ≤ 120) := by
  induction d with
  | zero => intro i hi; exact ⟨true, Ev.step (fun _ => parallaxhelp_Fields.l0.eq_2 ..) (Ev.neg (by omega) (Ev.now _)), fun _ x hx => by rw [List.drop_of_length_le (by omega)] at hx; cases hx⟩
  | succ d ih =>
    intro i hi
    have h9 : i < 9223372036854775807 := by omega
    obtain ⟨b, hb, hp⟩ := ih (i + 1) (by omega)
    obtain ⟨z0, z1⟩ := hz _ (rdT_mem l i (by omega))
    by_cases h : (wrap64 ((((rd_T28 l (i : Int)).f0).size : Int) + (((rd_T28 l (i : Int)).f1).size : Int))) > 120
    · exact ⟨false, Ev.step (fun _ => parallaxhelp_Fields.l0.eq_2 ..) (Ev.pos (by omega) (Ev.pos (by omega) (Ev.pos h (Ev.now _)))), fun e => by cases e⟩
    · refine ⟨b, Ev.step (fun _ => parallaxhelp_Fields.l0.eq_2 ..) (Ev.pos (by omega) (Ev.pos (by omega) (Ev.neg h ?_))), fun e x hx => ?_⟩
      · rw [wrap_nat h9]; exact hb
      · rw [drop_rdT l i (by omega)] at hx
        rcases List.mem_cons.mp hx with rfl | hx
        · rw [wrap_in (i := (((rd_T28 l (i : Int)).f0).size : Int) + (((rd_T28 l (i : Int)).f1).size : Int)) (by omega) (by omega)] at h; omega
        · exact hp e x hx
/-- fields that may be asked: few, and short -/
theorem hfields2_ev (l : List S28) (hz : ∀ x ∈ l, x.f0.size ≤ 140737488351232 ∧ x.f1.size ≤ 140737488351232) : ∃ b : Bool, Ev (fun k => parallaxhelp_Fields.f k l) b ∧ (b = true → l.length ≤ 20 ∧ ∀ x ∈ l, x.f0.size + x.f1.size ≤ 120) := by
  unfold parallaxhelp_Fields.f
  by_cases h : (l.length : Int) > 20
  · exact ⟨false, Ev.pos h (Ev.now _), fun e => by cases e⟩
  · obtain ⟨b, hb, hp⟩ := hfields2_loop l (by omega) hz l.length 0 (by omega)
    exact ⟨b, Ev.neg h hb, fun e => ⟨by omega, by simpa using hp e⟩⟩
theorem trimB_le (s : ByteArray) : (Trim.trimB Trim.blankB s).size ≤ s.size := by
  unfold Trim.trimB Trim.trimR Trim.trimL
  rw [ByteArray.size_extract, ByteArray.size_extract]; omega
theorem listB_sz (l : List ByteArray) (m : Nat) (h : ∀ x ∈ l, x.size ≤ m) : ∀ x ∈ listB l, x.size ≤ m := by
  intro x hx
  unfold listB at hx
  obtain ⟨v, hv, hx⟩ := List.mem_flatMap.mp hx
  obtain ⟨p, hp, rfl⟩ := List.mem_map.mp hx
  exact Nat.le_trans (trimB_le p) (Nat.le_trans (parts_size hp) (h v hv))
theorem listB_num (l : List ByteArray) (m : Nat) (h : ∀ x ∈ l, x.size ≤ m) : (listB l).length ≤ l.length * (m + 1) := by
  unfold listB
  induction l with
  | nil => simp
  | cons v l ih =>
    have hv := h v (by simp)
    have := ih (fun x hx => h x (by simp [hx]))
    have hp := parts_len 44 v
    have hc := count_le_size 44 v
    rw [List.flatMap_cons, List.length_append, List.length_map, List.length_cons, Nat.add_mul]
    omega
def connB : ByteArray := ⟨#[67, 111, 110, 110, 101, 99, 116, 105, 111, 110]⟩
/-- the names of fields of one hop -/
def namesB : List ByteArray := [(⟨#[67, 111, 110, 110, 101, 99, 116, 105, 111, 110]⟩ : ByteArray), (⟨#[75, 101, 101, 112, 45, 65, 108, 105, 118, 101]⟩ : ByteArray), (⟨#[80, 114, 111, 120, 121, 45, 65, 117, 116, 104, 101, 110, 116, 105, 99, 97, 116, 101]⟩ : ByteArray), (⟨#[80, 114, 111, 120, 121, 45, 65, 117, 116, 104, 111, 114, 105, 122, 97, 116, 105, 111, 110]⟩ : ByteArray), (⟨#[80, 114, 111, 120, 121, 45, 67, 111, 110, 110, 101, 99, 116, 105, 111, 110]⟩ : ByteArray), (⟨#[84, 69]⟩ : ByteArray), (⟨#[84, 114, 97, 105, 108, 101, 114]⟩ : ByteArray), (⟨#[84, 114, 97, 110, 115, 102, 101, 114, 45, 69, 110, 99, 111, 100, 105, 110, 103]⟩ : ByteArray), (⟨#[85, 112, 103, 114, 97, 100, 101]⟩ : ByteArray)]
theorem names_some : hop_Names.f = some namesB := by decide +kernel
/-- the names of fields that go no further -/
def goneB (l : List S28) : List ByteArray := namesB ++ (listB (findB l connB)).filter fun s => !ownB s
def stripB (l : List S28) : List S28 := withoutB l (goneB l)
theorem find_sz (l : List S28) (n : ByteArray) (m : Nat) (h : ∀ x ∈ l, x.f1.size ≤ m) : ∀ x ∈ findB l n, x.size ≤ m := by
  intro x hx
  unfold findB at hx
  obtain ⟨f, hf, rfl⟩ := List.mem_map.mp hx
  exact h f ((List.mem_filter.mp hf).1)
theorem gone_facts (l : List S28) (hl : l.length ≤ 100) (hz : ∀ x ∈ l, x.f0.size ≤ 200 ∧ x.f1.size ≤ 200) : (findB l connB).length ≤ 100 ∧ (∀ x ∈ findB l connB, x.size ≤ 200) ∧ (listB (findB l connB)).length ≤ 20100 ∧ (∀ x ∈ listB (findB l connB), x.size ≤ 200) ∧ (goneB l).length ≤ 20109 ∧ (∀ x ∈ goneB l, x.size ≤ 200) := by
  have h1 := findB_len l connB
  have h2 := find_sz l connB 200 (fun x hx => (hz x hx).2)
  have h3 := listB_num _ 200 h2
  have h4 := listB_sz _ 200 h2
  have h5 : ((listB (findB l connB)).filter fun s => !ownB s).length ≤ (listB (findB l connB)).length := List.length_filter_le _ _
  refine ⟨by omega, h2, by omega, h4, ?_, fun x hx => ?_⟩
  · unfold goneB; rw [List.length_append, show namesB.length = 9 from rfl]; omega
  · unfold goneB at hx
    rcases List.mem_append.mp hx with h | h
    · have : ∀ y ∈ namesB, y.size ≤ 200 := by decide +kernel
      exact this x h
    · exact h4 x (((List.mem_filter.mp h).1))
theorem strip_ev (l : List S28) (hl : l.length ≤ 100) (hz : ∀ x ∈ l, x.f0.size ≤ 200 ∧ x.f1.size ≤ 200) : Ev (fun k => hop_Strip.f k l) (stripB l) := by
  obtain ⟨h1, h2, h3, h4, h5, h6⟩ := gone_facts l hl hz
  unfold hop_Strip.f
  refine Ev.bind (find_ev connB (by decide) l (fun x hx => by have := (hz x hx).1; omega) (by omega)) (Ev.bind (list_ev _ (fun x hx => by have := h2 x hx; omega) (by omega) (by omega)) (Ev.pos ⟨by omega, ?_⟩ (Ev.val names_some (Ev.pos (by decide) ?_))))
  · rw [List.all_eq_true]; intro x hx; exact decide_eq_true (by have := h4 x hx; omega)
  · exact without_ev (goneB l) (by omega) (fun x hx => by have := h6 x hx; omega) l (fun x hx => by have := (hz x hx).1; omega) (by omega)
theorem strip_sub (l : List S28) : ∀ x ∈ stripB l, x ∈ l := fun x hx => (List.mem_filter.mp hx).1
theorem strip_len (l : List S28) : (stripB l).length ≤ l.length := withoutB_len _ _
theorem strip_none (l : List S28) (x : S28) (h : x ∈ stripB l) : (namesB.any (Hand.sameB x.f0)) = false := by
  have := (List.mem_filter.mp h).2
  rw [Bool.not_eq_true'] at this
  unfold goneB at this
  rw [List.any_append, Bool.or_eq_false_iff] at this
  exact this.1
theorem strip_again (l : List S28) : stripB (stripB l) = stripB l := by
  have h1 : findB (stripB l) connB = [] := by
    unfold findB
    rw [List.filter_eq_nil_iff.mpr]; rfl
    intro x hx
    have := strip_none l x hx
    unfold namesB at this
    rw [List.any_cons, Bool.or_eq_false_iff] at this
    rw [show connB = (⟨#[67, 111, 110, 110, 101, 99, 116, 105, 111, 110]⟩ : ByteArray) from rfl, this.1]; simp
  have h2 : goneB (stripB l) = namesB := by unfold goneB; rw [h1]; simp [listB]
  rw [show stripB (stripB l) = withoutB (stripB l) (goneB (stripB l)) from rfl, h2]
  unfold withoutB
  rw [List.filter_eq_self]
  intro x hx
  rw [strip_none l x hx]; rfl
theorem rnames_some : parallaxref17_Names.f = some namesB := rfl
theorem rstrip_loop (l : List S28) (hl : l.length ≤ 100) (hz : ∀ x ∈ l, x.f0.size ≤ 200 ∧ x.f1.size ≤ 200) (t : List ByteArray) (ht : t.length ≤ 20100) (hts : ∀ x ∈ t, x.size ≤ 200) (d : Nat) : ∀ (i : Nat) (acc : List ByteArray), i + d = t.length → acc.length ≤ 9 + i → (∀ x ∈ acc, x.size ≤ 200) →
    Ev (fun k => parallaxref17_Strip.l0 k l acc t (i : Int)) (withoutB l (acc ++ (t.drop i).filter fun s => !ownB s)) := by
  induction d with
  | zero =>
    intro i acc hi ha hs
    refine Ev.step (fun _ => parallaxref17_Strip.l0.eq_2 ..) (Ev.neg (by omega) (Ev.bind (rwithout_ev acc (by omega) (fun x hx => by have := hs x hx; omega) l (fun x hx => by have := (hz x hx).1; omega) (by omega)) ((Ev.now _).to ?_)))
    rw [List.drop_of_length_le (by omega)]; simp
  | succ d ih =>
    intro i acc hi ha hs
    have hm := hts _ (rdOf_mem t i (by omega))
    rw [drop_rdOf ByteArray.empty t i (by omega)]
    refine Ev.step (fun _ => parallaxref17_Strip.l0.eq_2 ..) (Ev.pos (by omega) (Ev.pos (by omega) (Ev.val (rsame_some (by omega) (by decide)) ?_)))
    rw [wrap_nat (by omega)]
    have ih' := ih (i + 1)
    generalize rdOf ByteArray.empty t (i : Int) = x at *
    by_cases h : Hand.sameB x (⟨#[72, 111, 115, 116]⟩ : ByteArray) = true
    · refine Ev.pos h ((ih' acc (by omega) (by omega) hs).to ?_)
      rw [List.filter_cons_of_neg (by unfold ownB; rw [h]; simp)]
    refine Ev.neg h (Ev.val (rsame_some (by omega) (by decide)) ?_)
    by_cases h2 : Hand.sameB x (⟨#[67, 111, 110, 116, 101, 110, 116, 45, 76, 101, 110, 103, 116, 104]⟩ : ByteArray) = true
    · refine Ev.pos h2 ((ih' acc (by omega) (by omega) hs).to ?_)
      rw [List.filter_cons_of_neg (by unfold ownB; rw [h2]; simp)]
    · refine Ev.neg h2 (Ev.pos (by omega) ((ih' (acc ++ [x]) (by omega) (by simp; omega) ?_).to ?_))
      · intro y hy
        rcases List.mem_append.mp hy with e | e
        · exact hs y e
        · rw [List.mem_singleton.mp e]; exact hm
      · rw [List.filter_cons_of_pos (by unfold ownB; simp [h, h2]), List.append_assoc]; rfl
theorem rstrip_ev (l : List S28) (hl : l.length ≤ 100) (hz : ∀ x ∈ l, x.f0.size ≤ 200 ∧ x.f1.size ≤ 200) : Ev (fun k => parallaxref17_Strip.f k l) (stripB l) := by
  obtain ⟨h1, h2, h3, h4, h5, h6⟩ := gone_facts l hl hz
  unfold parallaxref17_Strip.f
  refine Ev.val rnames_some (Ev.bind (rfind_ev connB (by decide) l (fun x hx => by have := (hz x hx).1; omega) (by omega)) (Ev.bind (rlist_ev _ (fun x hx => by have := h2 x hx; omega) (by omega) (by omega)) ?_))
  have hn : ∀ y ∈ namesB, y.size ≤ 200 := by decide +kernel
  exact (rstrip_loop l hl hz _ h3 h4 (listB (findB l connB)).length 0 namesB (by omega) (by decide) hn).to (by rw [List.drop_zero]; rfl)
theorem known_ev : Ev (fun k => parallaxlaw18_known.f k) true := Ev.of (fun k => parallaxlaw18_known.mono k) (k := 40) (by decide +kernel)
end Go.Proofs.YtfmpajagkjealaaDoor.PHopTells
