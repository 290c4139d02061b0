/- What the printed functions of the text layer come to. -/
import Derived.Test.YtljmpmipjdlkaaaDoorPPercentOncex
import Derived.Test.YtljmpmipjdlkaaaDoorParts
import Derived.Test.YtljmpmipjdlkaaaDoorLowP
import Derived.Test.YtljmpmipjdlkaaaDoorTrimP
import Derived.Test.YtljmpmipjdlkaaaDoorHex
namespace Go.Proofs.YtljmpmipjdlkaaaDoor.PPercentOnce
open Go.RowKit Go.Proofs.YtljmpmipjdlkaaaDoorW.PrintWords Go.Proofs.YtljmpmipjdlkaaaDoorW.PrintLast Go.Proofs.YtljmpmipjdlkaaaDoorW.PrintMore Go.Proofs.YtljmpmipjdlkaaaDoor.Aid Go.Proofs.YtljmpmipjdlkaaaDoor.Parts
set_option linter.unusedVariables false
set_option linter.unusedSimpArgs false

theorem rdOf_mem (l : List ByteArray) (j : Nat) (h : j < l.length) : rdOf ByteArray.empty l (j : Int) ∈ l := by
  unfold rdOf; simp [List.getD_eq_getElem?_getD, h]
theorem set_take (a : List ByteArray) (i : Nat) (x : ByteArray) (h : i < a.length) : (a.set i x).take (i + 1) = a.take i ++ [x] := by
  rw [List.take_succ_eq_append_getElem (by simpa using h), List.getElem_set_self, List.take_set_of_le (Nat.le_refl _)]
theorem BA_one (c : UInt8) : (BA [c]).size = 1 := rfl
theorem wrap_one (j : Nat) (c : UInt8) (h : j < 9223372036854775807) : wrap64 ((j : Int) + ((BA [c]).size : Int)) = ((j + 1 : Nat) : Int) := by
  rw [show ((BA [c]).size : Int) = 1 by rw [BA_one]; rfl]; exact wrap_nat h
theorem genSplit_ev (c : UInt8) (m : Nat) : ∀ (s : ByteArray) (a : List ByteArray) (i n : Nat), s.size ≤ 1000000000000 → s.data.toList.count c = m → n = i + m → a.length = n + 1 → n ≤ 1000000000001 →
    Ev (fun k => strings_genSplit.l0 k s (BA [c]) 0 (n : Int) a (i : Int)) (a.take i ++ parts c s) := by
  induction m with
  | zero =>
    intro s a i n hs hc hn ha hb
    have hp : parts c s = [s] := parts_no c s (by
      rcases Int.lt_or_le (Lib.indexByte s.data.toList c) 0 with x | x
      · exact x
      · have := (index_nil_iff c _).mp x
        have := List.count_pos_iff.mpr this
        omega)
    have hw : wrap64 ((i : Int) + 1) = ((i + 1 : Nat) : Int) := wrap_nat (by omega)
    refine Ev.step (fun _ => strings_genSplit.l0.eq_2 ..) (Ev.neg (by omega) (Ev.pos (by omega) (Ev.pos (by omega) ?_)))
    rw [hw]
    refine Ev.pos (by omega) (Ev.pos (by omega) ((Ev.now _).to ?_))
    rw [hp, Int.toNat_natCast, Int.toNat_natCast, set_take _ _ _ (by omega)]
  | succ m ih =>
    intro s a i n hs hc hn ha hb
    have hidx : 0 ≤ Lib.indexByte s.data.toList c := (index_nil_iff c _).mpr (List.count_pos_iff.mp (by omega))
    obtain ⟨j, hj, hjs, hp, hcnt⟩ := parts_yes c s hidx
    have hI : strings_Index.f s (BA [c]) = some (j : Int) := by
      unfold strings_Index.f; rw [if_pos (BA_one c), data_BA]
      show some (Lib.indexByte s.data.toList c) = _
      rw [hj]
    refine Ev.step (fun _ => strings_genSplit.l0.eq_2 ..) (Ev.pos (by omega) (Ev.val hI (Ev.neg (by omega) ?_)))
    have hi9 : i < 9223372036854775807 := by omega
    have hj9 : j < 9223372036854775807 := by omega
    rw [show wrap64 ((j : Int) + 0) = ((j : Nat) : Int) by rw [Int.add_zero]; exact wrap_in (by omega) (by omega), wrap_one j c hj9, wrap_nat hi9]
    refine Ev.pos (by omega) (Ev.pos (by omega) (Ev.pos (by omega) (Ev.pos (by omega) (Ev.pos (by omega) (Ev.pos (by omega) ?_)))))
    rw [Int.toNat_natCast, Int.toNat_natCast, Int.toNat_natCast]
    have hx : (s.extract (j + 1) s.size).size ≤ 1000000000000 := by rw [Trim.ext_size _ _ _ (Nat.le_refl _)]; omega
    refine (ih (s.extract (j + 1) s.size) (a.set i (s.extract 0 j)) (i + 1) n hx (by omega) (by omega) (by rw [List.length_set]; exact ha) hb).to ?_
    rw [hp, set_take _ _ _ (by omega), List.append_assoc, List.singleton_append]
theorem split_ev (c : UInt8) (s : ByteArray) (hs : s.size ≤ 1000000000000) : Ev (fun k => strings_Split.f k s (BA [c])) (parts c s) := by
  have hcs := count_le_size c s
  have hC : strings_Count.f s (BA [c]) = some ((s.data.toList.count c : Nat) : Int) := by
    unfold strings_Count.f; rw [if_pos (BA_one c), data_BA]; rfl
  unfold strings_Split.f strings_genSplit.f
  refine Ev.bind (a := parts c s) ?_ (Ev.now _)
  refine Ev.neg (by omega) (Ev.neg (by rw [toList_BA]; simp) (Ev.pos (by omega) (Ev.val hC ?_)))
  rw [wrap_nat (by omega)]
  refine Ev.step (fun _ => strings_genSplit.j0.eq_2 ..) ?_
  have hm : mn ((s.data.toList.count c + 1 : Nat) : Int) (wrap64 ((s.size : Int) + 1)) = ((s.data.toList.count c + 1 : Nat) : Int) := by
    rw [wrap_nat (by omega)]; unfold mn; rw [if_neg (by omega)]
  rw [hm, show wrap64 (((s.data.toList.count c + 1 : Nat) : Int) - 1) = ((s.data.toList.count c : Nat) : Int) by rw [wrap_in (by omega) (by omega)]; omega, Int.toNat_natCast]
  refine Ev.pos (by omega) (Ev.pos (by omega) ?_)
  exact (genSplit_ev c (s.data.toList.count c) s _ 0 (s.data.toList.count c) hs rfl (by omega) (by simp) (by omega)).to (by simp)
/-- is a byte of a kind? -/
def ofB (c kind : Int) : Bool := (octet_of.f c kind).getD false
/-- is each byte of a text of one of some kinds? -/
def allB (s : ByteArray) (l : List Int) : Bool := (bytesOf s).all fun c => l.any (ofB c)


theorem of_k (kind : Fin 8) : ∀ n : Fin 256, octet_of.f (n.val : Int) (kind.val : Int) = some (ofB (n.val : Int) (kind.val : Int)) := by
  revert kind; decide +kernel

theorem of_far {c kind : Int} (h : ¬ (1 ≤ kind ∧ kind ≤ 6)) : octet_of.f c kind = some false := by
  unfold octet_of.f
  rw [if_neg (by omega), if_neg (by omega), if_neg (by omega), if_neg (by omega), if_neg (by omega), if_neg (by omega)]

theorem of_some {c : Int} (h0 : 0 ≤ c) (h1 : c < 256) (kind : Int) : octet_of.f c kind = some (ofB c kind) := by
  by_cases hk : 0 ≤ kind ∧ kind < 8
  · have := byte_all (p := fun c => octet_of.f c kind = some (ofB c kind)) (fun n => by
      have := of_k ⟨kind.toNat, by omega⟩ n
      rwa [show ((⟨kind.toNat, by omega⟩ : Fin 8).val : Int) = kind by simp; omega] at this) h0 h1
    exact this
  · have := of_far (c := c) (kind := kind) (by omega)
    unfold ofB; rw [this]; rfl

/-- one text's byte against the kinds from the j-th on -/
theorem own_in (s : ByteArray) (l : List Int) (hl : l.length < 9223372036854775807) (hs : s.size < 9223372036854775807) (i : Nat) (hi : i < s.size) (R : Bool)
    (hR : Ev (fun k => octet_All.l0 k s l (s.size : Int) ((i + 1 : Nat) : Int)) R) (d : Nat) : ∀ (j : Nat) (b : Bool), j + d = l.length →
    Ev (fun k => octet_All.l1 k s l (i : Int) b (s.size : Int) (i : Int) l (l.length : Int) (j : Int)) (if (b || (l.drop j).any (ofB (bt s (i : Int)))) = true then R else false) := by
  induction d with
  | zero =>
    intro j b hj
    refine Ev.step (fun _ => octet_All.l1.eq_2 ..) (Ev.neg (by omega) ?_)
    rw [List.drop_of_length_le (by omega), List.any_nil, Bool.or_false, wrap_nat (by omega)]
    exact Ev.cond (fun _ => hR) (fun _ => Ev.now _)
  | succ d ih =>
    intro j b hj
    have hw : wrap64 ((j : Int) + 1) = ((j + 1 : Nat) : Int) := wrap_nat (by omega)
    refine Ev.step (fun _ => octet_All.l1.eq_2 ..) (Ev.pos (by omega) (Ev.pos (by omega) (Ev.pos (by omega) ?_)))
    rw [drop_rd l j (by omega), List.any_cons, hw]
    cases b with
    | true => exact Ev.pos rfl ((ih (j + 1) true (by omega)).to (by simp))
    | false =>
      refine Ev.neg (by simp) (Ev.pos (by omega) (Ev.pos (by omega) ?_))
      have := bt_lt s (i : Int)
      exact Ev.val (of_some this.1 this.2 _) ((ih (j + 1) _ (by omega)).to (by rw [Bool.false_or]))

theorem own_out (s : ByteArray) (l : List Int) (hl : l.length < 9223372036854775807) (hs : s.size < 9223372036854775807) (d : Nat) : ∀ (i : Nat), i + d = s.size →
    Ev (fun k => octet_All.l0 k s l (s.size : Int) (i : Int)) (((bytesOf s).drop i).all fun c => l.any (ofB c)) := by
  induction d with
  | zero =>
    intro i hi
    refine Ev.step (fun _ => octet_All.l0.eq_2 ..) (Ev.neg (by omega) ?_)
    rw [List.drop_of_length_le (by rw [bytesOf_length]; omega)]; exact Ev.now _
  | succ d ih =>
    intro i hi
    refine Ev.step (fun _ => octet_All.l0.eq_2 ..) (Ev.pos (by omega) ?_)
    refine (own_in s l hl hs i (by omega) _ (ih (i + 1) (by omega)) l.length 0 false (by omega)).to ?_
    rw [drop_bytes s i (by omega), List.all_cons, List.drop_zero, Bool.false_or]
    cases l.any (ofB (bt s (i : Int))) <;> simp

theorem own_ev (s : ByteArray) (l : List Int) (hl : l.length < 9223372036854775807) (hs : s.size < 9223372036854775807) : Ev (fun k => octet_All.f k s l) (allB s l) :=
  (own_out s l hl hs s.size 0 (by omega)).to (by rw [List.drop_zero]; rfl)

theorem all_app (s t : ByteArray) (l : List Int) : allB (s ++ t) l = (allB s l && allB t l) := by
  unfold allB bytesOf
  rw [show (s ++ t).data.toList = s.data.toList ++ t.data.toList by simp [ByteArray.data_append], List.map_append, List.all_append]
/-- does a text begin with another one? -/
def prefB (s t : ByteArray) : Bool := (s.extract 0 t.size).toList == t.toList
theorem prefix_some (s t : ByteArray) : strings_HasPrefix.f s t = some (prefB s t) := by
  unfold strings_HasPrefix.f stringslite_HasPrefix.f prefB
  by_cases h : (s.size : Int) ≥ (t.size : Int)
  · rw [if_pos h, if_pos (by omega), if_pos (by omega), Option.bind_some]
  · rw [if_neg h, Option.bind_some]
    congr 1
    symm
    rw [beq_eq_false_iff_ne]
    intro e
    have := congrArg List.length e
    rw [ByteArray.toList_eq, ByteArray.toList_eq, data_length, data_length, ByteArray.size_extract] at this
    omega
theorem pref_size {s t : ByteArray} (h : prefB s t = true) : t.size ≤ s.size := by
  unfold prefB at h
  have := congrArg List.length (beq_iff_eq.mp h)
  rw [ByteArray.toList_eq, ByteArray.toList_eq, data_length, data_length, ByteArray.size_extract] at this
  omega
theorem known_ev : Ev (fun k => parallaxlaw19_known.f k) true := Ev.of (fun k => parallaxlaw19_known.mono k) (k := 40) (by decide +kernel)
end Go.Proofs.YtljmpmipjdlkaaaDoor.PPercentOnce
