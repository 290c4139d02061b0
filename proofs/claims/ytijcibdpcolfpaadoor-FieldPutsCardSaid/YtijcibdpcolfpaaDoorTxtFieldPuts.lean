/- What the printed functions of the text layer come to. -/
import Derived.Test.YtijcibdpcolfpaaDoorPFieldPutsx
import Derived.Test.YtijcibdpcolfpaaDoorParts
import Derived.Test.YtijcibdpcolfpaaDoorLowP
import Derived.Test.YtijcibdpcolfpaaDoorTrimP
import Derived.Test.YtijcibdpcolfpaaDoorHex
namespace Go.Proofs.YtijcibdpcolfpaaDoor.PFieldPuts
open Go.RowKit Go.Proofs.YtijcibdpcolfpaaDoorW.PrintWords Go.Proofs.YtijcibdpcolfpaaDoorW.PrintLast Go.Proofs.YtijcibdpcolfpaaDoorW.PrintMore Go.Proofs.YtijcibdpcolfpaaDoor.Aid Go.Proofs.YtijcibdpcolfpaaDoor.Parts
set_option linter.unusedVariables false
set_option linter.unusedSimpArgs false

theorem rdOf_mem (l : List ByteArray) (j : Nat) (h : j < l.length) : rdOf ByteArray.empty l (j : Int) ∈ l := by
  unfold rdOf; simp [List.getD_eq_getElem?_getD, h]
theorem trim_some {s : ByteArray} (h : s.size ≤ 9223372036854775807) : text_Trim.f s = some (Trim.trimB Trim.blankB s) := by unfold text_Trim.f; rw [if_pos h]
theorem rdT_mem (l : List S25) (j : Nat) (h : j < l.length) : rd_T25 l (j : Int) ∈ l := by
  unfold rd_T25; simp [List.getD_eq_getElem?_getD, h]
theorem drop_rdT (l : List S25) (i : Nat) (h : i < l.length) : l.drop i = rd_T25 l (i : Int) :: l.drop (i + 1) := by
  unfold rd_T25; rw [List.drop_eq_getElem_cons h]; simp [List.getD_eq_getElem?_getD, h]
/-- are the two fields one and the same -/
def fieldB (a b : S25) : Bool := (a.f0.toList == b.f0.toList) && (a.f1.toList == b.f1.toList)
def fieldsB : List S25 → List S25 → Bool
  | [], [] => true
  | a :: l, b :: m => fieldB a b && fieldsB l m
  | _, _ => false
theorem fieldB_iff (a b : S25) : fieldB a b = true ↔ a = b := by
  unfold fieldB
  rw [Bool.and_eq_true, beq_iff_eq, beq_iff_eq, ByteArray.toList_eq, ByteArray.toList_eq, ByteArray.toList_eq, ByteArray.toList_eq]
  constructor
  · rintro ⟨h1, h2⟩
    cases a; cases b; simp only at h1 h2; rw [ba_inj h1, ba_inj h2]
  · rintro rfl; exact ⟨rfl, rfl⟩
theorem fieldsB_iff (a b : List S25) : fieldsB a b = true ↔ a = b := by
  induction a generalizing b with
  | nil => cases b <;> simp [fieldsB]
  | cons x l ih => cases b with
    | nil => simp [fieldsB]
    | cons y m => simp [fieldsB, fieldB_iff, ih]
theorem fieldsB_len {a b : List S25} (h : a.length ≠ b.length) : fieldsB a b = false := by
  rw [Bool.eq_false_iff]; intro e; exact h (congrArg _ ((fieldsB_iff a b).mp e))
theorem fieldB_cond (a b : S25) : (!((a.f0.toList == b.f0.toList)) || !((a.f1.toList == b.f1.toList))) = !(fieldB a b) := by
  unfold fieldB; rw [Bool.not_and]
/-- is a byte of a kind? -/
def ofB (c kind : Int) : Bool := (octet_of.f c kind).getD false
/-- is each byte of a text of one of some kinds? -/
def allB (s : ByteArray) (l : List Int) : Bool := (bytesOf s).all fun c => l.any (ofB c)


theorem of_k (kind : Fin 8) : ∀ n : Fin 256, octet_of.f (n.val : Int) (kind.val : Int) = some (ofB (n.val : Int) (kind.val : Int)) := by
  revert kind; decide +kernel

theorem of_far {c kind : Int} (h : ¬ (1 ≤ kind ∧ kind ≤ 6)) : octet_of.f c kind = some false := by
  unfold octet_of.f
  rw [if_neg (by omega), if_neg (by omega), if_neg (by omega), if_neg (by omega), if_neg (by omega), if_neg (by omega)]

theorem of_some {c : Int} (h0 : 0 ≤ c) (h1 : c < 256) (kind : Int) : octet_of.f c kind = some (ofB c kind) := by
  by_cases hk : 0 ≤ kind ∧ kind < 8
  · have := byte_all (p := fun c => octet_of.f c kind = some (ofB c kind)) (fun n => by
      have := of_k ⟨kind.toNat, by omega⟩ n
      rwa [show ((⟨kind.toNat, by omega⟩ : Fin 8).val : Int) = kind by simp; omega] at this) h0 h1
    exact this
  · have := of_far (c := c) (kind := kind) (by omega)
    unfold ofB; rw [this]; rfl

/-- one text's byte against the kinds from the j-th on -/
theorem own_in (s : ByteArray) (l : List Int) (hl : l.length < 9223372036854775807) (hs : s.size < 9223372036854775807) (i : Nat) (hi : i < s.size) (R : Bool)
    (hR : Ev (fun k => octet_All.l0 k s l (s.size : Int) ((i + 1 : Nat) : Int)) R) (d : Nat) : ∀ (j : Nat) (b : Bool), j + d = l.length →
    Ev (fun k => octet_All.l1 k s l (i : Int) b (s.size : Int) (i : Int) l (l.length : Int) (j : Int)) (if (b || (l.drop j).any (ofB (bt s (i : Int)))) = true then R else false) := by
  induction d with
  | zero =>
    intro j b hj
    refine Ev.step (fun _ => octet_All.l1.eq_2 ..) (Ev.neg (by omega) ?_)
    rw [List.drop_of_length_le (by omega), List.any_nil, Bool.or_false, wrap_nat (by omega)]
    exact Ev.cond (fun _ => hR) (fun _ => Ev.now _)
  | succ d ih =>
    intro j b hj
    have hw : wrap64 ((j : Int) + 1) = ((j + 1 : Nat) : Int) := wrap_nat (by omega)
    refine Ev.step (fun _ => octet_All.l1.eq_2 ..) (Ev.pos (by omega) (Ev.pos (by omega) (Ev.pos (by omega) ?_)))
    rw [drop_rd l j (by omega), List.any_cons, hw]
    cases b with
    | true => exact Ev.pos rfl ((ih (j + 1) true (by omega)).to (by simp))
    | false =>
      refine Ev.neg (by simp) (Ev.pos (by omega) (Ev.pos (by omega) ?_))
      have := bt_lt s (i : Int)
      exact Ev.val (of_some this.1 this.2 _) ((ih (j + 1) _ (by omega)).to (by rw [Bool.false_or]))

theorem own_out (s : ByteArray) (l : List Int) (hl : l.length < 9223372036854775807) (hs : s.size < 9223372036854775807) (d : Nat) : ∀ (i : Nat), i + d = s.size →
    Ev (fun k => octet_All.l0 k s l (s.size : Int) (i : Int)) (((bytesOf s).drop i).all fun c => l.any (ofB c)) := by
  induction d with
  | zero =>
    intro i hi
    refine Ev.step (fun _ => octet_All.l0.eq_2 ..) (Ev.neg (by omega) ?_)
    rw [List.drop_of_length_le (by rw [bytesOf_length]; omega)]; exact Ev.now _
  | succ d ih =>
    intro i hi
    refine Ev.step (fun _ => octet_All.l0.eq_2 ..) (Ev.pos (by omega) ?_)
    refine (own_in s l hl hs i (by omega) _ (ih (i + 1) (by omega)) l.length 0 false (by omega)).to ?_
    rw [drop_bytes s i (by omega), List.all_cons, List.drop_zero, Bool.false_or]
    cases l.any (ofB (bt s (i : Int))) <;> simp

theorem own_ev (s : ByteArray) (l : List Int) (hl : l.length < 9223372036854775807) (hs : s.size < 9223372036854775807) : Ev (fun k => octet_All.f k s l) (allB s l) :=
  (own_out s l hl hs s.size 0 (by omega)).to (by rw [List.drop_zero]; rfl)

theorem all_app (s t : ByteArray) (l : List Int) : allB (s ++ t) l = (allB s l && allB t l) := by
  unfold allB bytesOf
  rw [show (s ++ t).data.toList = s.data.toList ++ t.data.toList by simp [ByteArray.data_append], List.map_append, List.all_append]
theorem bits_and32 (a b : Nat) (ha : a < 4294967296) (hb : b < 4294967296) : Go.bits .and .u32 (a : Int) (b : Int) = ((a &&& b : Nat) : Int) :=
  (Go.bits_nat .u32 32 (by decide) (fun n h0 h1 => by rw [IntKind.wrap_u32]; omega) a b ha hb).1
theorem bits_or32 (a b : Nat) (ha : a < 4294967296) (hb : b < 4294967296) : Go.bits .or .u32 (a : Int) (b : Int) = ((a ||| b : Nat) : Int) :=
  (Go.bits_nat .u32 32 (by decide) (fun n h0 h1 => by rw [IntKind.wrap_u32]; omega) a b ha hb).2
theorem bits_shr32 (a c : Nat) (hc : c ≤ 32) : shr .u32 (a : Int) (c : Int) = ((a >>> c : Nat) : Int) := by
  unfold shr
  rw [Int.toNat_natCast, show min c IntKind.u32.bits = c from Nat.min_eq_left hc, Nat.shiftRight_eq_div_pow]
  simp
theorem shr_le (a c : Nat) : a >>> c ≤ a := by rw [Nat.shiftRight_eq_div_pow]; exact Nat.div_le_self _ _
/-- is a bit set? -/
theorem bit_at (a c : Nat) (ha : a < 4294967296) (hc : c ≤ 32) : (Go.bits .and .u32 (shr .u32 (a : Int) (c : Int)) 1 == 1) = a.testBit c := by
  have := shr_le a c
  rw [bits_shr32 a c hc, show (1 : Int) = ((1 : Nat) : Int) from rfl, bits_and32 _ _ (by omega) (by omega)]
  unfold Nat.testBit
  rw [Nat.and_comm]
  have h : 1 &&& (a >>> c) = 0 ∨ 1 &&& (a >>> c) = 1 := by rw [Nat.and_comm, Nat.and_one_is_mod]; omega
  rcases h with h | h <;> rw [h] <;> rfl
/-- is a clause in a profile? -/
def hasB (n : Nat) (c : Int) : Bool := decide (0 ≤ c ∧ c < 30) && n.testBit c.toNat
theorem hasB_far {n : Nat} {c : Int} (h : ¬ (0 ≤ c ∧ c < 30)) : hasB n c = false := by unfold hasB; rw [decide_eq_false h]; rfl
theorem hasB_nat (n c : Nat) (h : c < 30) : hasB n (c : Int) = n.testBit c := by unfold hasB; rw [decide_eq_true (by omega)]; simp
theorem mask30 (a : Nat) : a &&& 1073741823 = a % 1073741824 := Nat.and_two_pow_sub_one_eq_mod a 30
theorem bits_mask32 (a : Nat) (ha : a < 4294967296) : Go.bits .and .u32 (a : Int) 1073741823 = ((a % 1073741824 : Nat) : Int) := by
  rw [← mask30]; exact bits_and32 a 1073741823 ha (by decide)
theorem bit_beyond {n c : Nat} (hn : n < 1073741824) (hc : 30 ≤ c) : n.testBit c = false :=
  Nat.testBit_lt_two_pow (Nat.lt_of_lt_of_le hn (Nat.pow_le_pow_right (n := 2) (by decide) hc))
theorem qknown (c : Int) : quirks_known.f c = some (decide (0 ≤ c ∧ c < 30)) := by
  unfold quirks_known.f
  by_cases h : c ≥ 0
  · rw [if_pos h]; congr 1; simp; omega
  · rw [if_neg h]; congr 1; simp; omega
theorem qhas_some (n : Nat) (hn : n < 4294967296) (c : Int) : quirks_Has.f (n : Int) c = some (hasB n c) := by
  unfold quirks_Has.f
  rw [qknown, Option.bind_some]
  by_cases h : 0 ≤ c ∧ c < 30
  · obtain ⟨m, rfl⟩ : ∃ m : Nat, c = (m : Int) := ⟨c.toNat, by omega⟩
    rw [if_pos (decide_eq_true h), if_pos h.1, bit_at n m hn (by omega), hasB_nat n m (by omega)]
  · rw [if_neg (by simpa using h), hasB_far h]
theorem take_at (c : UInt8) (a r : List UInt8) (h : c ∉ a) : (a ++ c :: r).takeWhile (· != c) = a ∧ (a ++ c :: r).dropWhile (· != c) = c :: r := by
  induction a with
  | nil => simp
  | cons b a ih =>
    have hb : (b != c) = true := by simp only [bne_iff_ne]; intro e; exact h (by simp [e])
    obtain ⟨h1, h2⟩ := ih (fun hm => h (by simp [hm]))
    rw [List.cons_append, List.takeWhile_cons, List.dropWhile_cons, if_pos hb, if_pos hb, h1, h2]
    exact ⟨rfl, rfl⟩
theorem take_no (c : UInt8) (l : List UInt8) (h : c ∉ l) : l.takeWhile (· != c) = l ∧ l.dropWhile (· != c) = [] := by
  induction l with
  | nil => simp
  | cons b a ih =>
    have hb : (b != c) = true := by simp only [bne_iff_ne]; intro e; exact h (by simp [e])
    obtain ⟨h1, h2⟩ := ih (fun hm => h (by simp [hm]))
    rw [List.takeWhile_cons, List.dropWhile_cons, if_pos hb, if_pos hb, h1, h2]
    exact ⟨rfl, rfl⟩
/-- what stands ahead of a byte, what stands from it on, what stands behind it; is it there? -/
def beforeB (c : UInt8) (s : ByteArray) : ByteArray := BA (s.data.toList.takeWhile (· != c))
def restB (c : UInt8) (s : ByteArray) : ByteArray := BA (s.data.toList.dropWhile (· != c))
def afterB (c : UInt8) (s : ByteArray) : ByteArray := BA ((s.data.toList.dropWhile (· != c)).drop 1)
def hasC (c : UInt8) (s : ByteArray) : Bool := decide (c ∈ s.data.toList)
theorem before_size (c : UInt8) (s : ByteArray) : (beforeB c s).size ≤ s.size := by
  unfold beforeB; rw [size_BA, ← data_length s]; exact (List.takeWhile_sublist _).length_le
theorem rest_size (c : UInt8) (s : ByteArray) : (restB c s).size ≤ s.size := by
  unfold restB; rw [size_BA, ← data_length s]; exact (List.dropWhile_sublist _).length_le
theorem after_size (c : UInt8) (s : ByteArray) : (afterB c s).size ≤ s.size := by
  unfold afterB; rw [size_BA, ← data_length s, List.length_drop]; have := (List.dropWhile_sublist (l := s.data.toList) (· != c)).length_le; omega
theorem rest_ext (c : UInt8) (s : ByteArray) : s.extract (beforeB c s).size s.size = restB c s := by
  apply ba_inj
  unfold beforeB restB
  rw [ext_data, data_BA, size_BA, ← data_length s]
  rw [TrimP.drop_take_while, List.take_of_length_le]
  rw [← TrimP.drop_take_while, List.length_drop]
  exact Nat.le_refl _
theorem cut_yes (c : UInt8) (s : ByteArray) (i : Nat) (hi : i < s.size) (hc : bt s (i : Int) = (c.toNat : Int)) (hno : ∀ j, j < i → bt s (j : Int) ≠ (c.toNat : Int)) :
    beforeB c s = s.extract 0 i ∧ restB c s = s.extract i s.size ∧ afterB c s = s.extract (i + 1) s.size ∧ hasC c s = true := by
  have hl : i < s.data.toList.length := by rw [data_length]; exact hi
  have hci : s.data.toList[i] = c := by
    rw [bt_nat s i hi] at hc
    have : (s[i]'hi) = c := by apply UInt8.toNat_inj.mp; omega
    exact this
  have hnm : c ∉ s.data.toList.take i := by
    intro hm
    obtain ⟨n, hn, he⟩ := List.mem_iff_getElem.mp hm
    rw [List.length_take, data_length] at hn
    rw [List.getElem_take] at he
    have h1 := hno n (by omega)
    rw [bt_nat s n (by omega)] at h1
    exact h1 (congrArg (fun z : UInt8 => (z.toNat : Int)) he)
  have e : s.data.toList = s.data.toList.take i ++ c :: s.data.toList.drop (i + 1) := by
    conv => lhs; rw [← List.take_append_drop i s.data.toList, List.drop_eq_getElem_cons hl, hci]
  obtain ⟨t1, t2⟩ := take_at c _ (s.data.toList.drop (i + 1)) hnm
  rw [← e] at t1 t2
  unfold beforeB restB afterB hasC
  rw [t1, t2]
  refine ⟨?_, ?_, ?_, ?_⟩
  · rw [ext_BA, List.drop_zero, Nat.sub_zero]
  · rw [ext_BA, ← hci, ← List.drop_eq_getElem_cons hl, List.take_of_length_le (by rw [List.length_drop, data_length]; omega)]
  · rw [ext_BA, List.take_of_length_le (by rw [List.length_drop, data_length]; omega)]; rfl
  · rw [decide_eq_true_eq, e]; simp
theorem cut_no (c : UInt8) (s : ByteArray) (hno : ∀ j, j < s.size → bt s (j : Int) ≠ (c.toNat : Int)) : beforeB c s = s ∧ restB c s = BA [] ∧ afterB c s = BA [] ∧ hasC c s = false := by
  have hnm : c ∉ s.data.toList := by
    intro hm
    obtain ⟨n, hn, he⟩ := List.mem_iff_getElem.mp hm
    rw [data_length] at hn
    have h1 := hno n hn
    rw [bt_nat s n hn] at h1
    exact h1 (congrArg (fun z : UInt8 => (z.toNat : Int)) he)
  obtain ⟨t1, t2⟩ := take_no c _ hnm
  unfold beforeB restB afterB hasC
  rw [t1, t2, BA_data]
  exact ⟨rfl, rfl, rfl, decide_eq_false hnm⟩
theorem cut_app (c : UInt8) (a s : ByteArray) (h : ∀ x ∈ bytesOf a, x ≠ (c.toNat : Int)) : beforeB c (a ++ BA [c] ++ s) = a ∧ restB c (a ++ BA [c] ++ s) = BA [c] ++ s := by
  have hn : c ∉ a.data.toList := fun hm => h _ (List.mem_map.mpr ⟨c, hm, rfl⟩) rfl
  have e : (a ++ BA [c] ++ s).data.toList = a.data.toList ++ c :: s.data.toList := by rw [data_app, data_app, data_BA]; simp
  obtain ⟨t1, t2⟩ := take_at c _ s.data.toList hn
  unfold beforeB restB
  rw [e, t1, t2, BA_data]
  refine ⟨rfl, ?_⟩
  apply ba_inj; rw [data_app, data_BA, data_BA]; rfl
theorem cut_none (c : UInt8) (a : ByteArray) (h : ∀ x ∈ bytesOf a, x ≠ (c.toNat : Int)) : beforeB c a = a ∧ restB c a = BA [] := by
  have hn : c ∉ a.data.toList := fun hm => h _ (List.mem_map.mpr ⟨c, hm, rfl⟩) rfl
  obtain ⟨t1, t2⟩ := take_no c _ hn
  unfold beforeB restB
  rw [t1, t2, BA_data]; exact ⟨rfl, rfl⟩
theorem cut_after (c : UInt8) (a s : ByteArray) (h : ∀ x ∈ bytesOf a, x ≠ (c.toNat : Int)) : afterB c (a ++ BA [c] ++ s) = s ∧ hasC c (a ++ BA [c] ++ s) = true := by
  have hn : c ∉ a.data.toList := fun hm => h _ (List.mem_map.mpr ⟨c, hm, rfl⟩) rfl
  have e : (a ++ BA [c] ++ s).data.toList = a.data.toList ++ c :: s.data.toList := by rw [data_app, data_app, data_BA]; simp
  obtain ⟨t1, t2⟩ := take_at c _ s.data.toList hn
  unfold afterB hasC
  rw [e, t2]
  exact ⟨by rw [List.drop_one, List.tail_cons, BA_data], decide_eq_true (by simp)⟩
theorem cut_has (c : UInt8) (a : ByteArray) (h : ∀ x ∈ bytesOf a, x ≠ (c.toNat : Int)) : hasC c a = false := by
  have hn : c ∉ a.data.toList := fun hm => h _ (List.mem_map.mpr ⟨c, hm, rfl⟩) rfl
  exact decide_eq_false hn
theorem cut_some (c : UInt8) (s : ByteArray) (hs : s.size < 4611686018427387904) : strings_Cut.f s (BA [c]) = some (beforeB c s, afterB c s, hasC c s) := by
  have h1 : (BA [c]).size = 1 := rfl
  have hI : stringslite_Index.f s (BA [c]) = some (Lib.indexByte s.data.toList c) := by
    unfold stringslite_Index.f; rw [if_pos h1, data_BA]; rfl
  unfold strings_Cut.f stringslite_Cut.f
  rw [hI, Option.bind_some]
  rcases Int.lt_or_le (Lib.indexByte s.data.toList c) 0 with x | x
  · have hn := index_no c _ x
    obtain ⟨t1, t2⟩ := take_no c _ hn
    rw [if_neg (by omega), Option.bind_some]
    unfold beforeB afterB hasC
    rw [t1, t2, decide_eq_false hn, BA_data]; rfl
  · obtain ⟨a, r, e, hn, hi⟩ := index_yes c _ x
    obtain ⟨t1, t2⟩ := take_at c a r hn
    have hsz : s.size = a.length + (r.length + 1) := by rw [← data_length s, e]; simp
    have hw : wrap64 (Lib.indexByte s.data.toList c + ((BA [c]).size : Int)) = ((a.length + 1 : Nat) : Int) := by
      rw [hi, h1]; exact wrap_nat (by omega)
    rw [if_pos x, if_pos x, hw, hi, if_pos (by omega), if_pos (by omega), if_pos (by omega), Option.bind_some]
    unfold beforeB afterB hasC
    rw [e, t1, t2, decide_eq_true (by simp), Int.toNat_natCast, Int.toNat_natCast]
    have e1 : s.extract 0 a.length = BA a := by rw [ext_BA, e]; simp
    have e2 : s.extract (a.length + 1) s.size = BA r := by
      rw [ext_BA, e, show (a ++ c :: r).drop (a.length + 1) = r by simp, List.take_of_length_le (by omega)]
    rw [e1, e2]; rfl
theorem bits_andnot32 (a b : Nat) (ha : a < 4294967296) (hb : b < 4294967296) : ∃ r : Nat, Go.bits .andNot .u32 (a : Int) (b : Int) = (r : Int) ∧ r ≤ a ∧ ∀ i, i < 32 → r.testBit i = (a.testBit i && !(b.testBit i)) := by
  refine ⟨(BitVec.ofInt 32 (a : Int) &&& ~~~BitVec.ofInt 32 (b : Int)).toNat, ?_, ?_, fun i hi => ?_⟩
  · show IntKind.u32.wrap (((BitVec.ofInt 32 (a : Int) &&& ~~~BitVec.ofInt 32 (b : Int)).toNat : Nat) : Int) = _
    rw [IntKind.wrap_u32]
    have := (BitVec.ofInt 32 (a : Int) &&& ~~~BitVec.ofInt 32 (b : Int)).isLt
    omega
  · rw [BitVec.toNat_and, BitVec.ofInt_natCast, BitVec.toNat_ofNat]
    exact Nat.le_trans Nat.and_le_left (Nat.mod_le _ _)
  · rw [BitVec.testBit_toNat, BitVec.getLsbD_and, BitVec.getLsbD_not, BitVec.ofInt_natCast, BitVec.ofInt_natCast, BitVec.getLsbD_ofNat, BitVec.getLsbD_ofNat]
    simp [hi]
theorem bit_or_set (a k : Nat) : (a ||| 2 ^ k).testBit k = true := by rw [Nat.testBit_or, Nat.testBit_two_pow]; simp
theorem bit_or_other (a k i : Nat) (h : k ≠ i) : (a ||| 2 ^ k).testBit i = a.testBit i := by rw [Nat.testBit_or, Nat.testBit_two_pow]; simp [h]
/-- a profile without a clause, and with it -/
theorem clause_off (a k : Nat) (ha : a < 4294967296) (hk : k < 30) : ∃ r : Nat, r < 1073741824 ∧ Go.bits .andNot .u32 (Go.bits .and .u32 (a : Int) 1073741823) (shl .u32 1 (k : Int)) = (r : Int) ∧ Go.bits .or .u32 (r : Int) (shl .u32 1 (k : Int)) = ((r ||| 2 ^ k : Nat) : Int) ∧ r ||| 2 ^ k < 1073741824 ∧ hasB r (k : Int) = false ∧ hasB (r ||| 2 ^ k) (k : Int) = true ∧ ∀ c : Nat, c < 30 → c ≠ k → hasB (r ||| 2 ^ k) (c : Int) = hasB r (c : Int) := by
  have hm : a % 1073741824 < 1073741824 := Nat.mod_lt _ (by decide)
  have hp : 2 ^ k < 1073741824 := Nat.pow_lt_pow_right (by decide) hk
  obtain ⟨r, h1, h2, h3⟩ := bits_andnot32 (a % 1073741824) (2 ^ k) (by omega) (by omega)
  have hs : shl .u32 1 (k : Int) = ((2 ^ k : Nat) : Int) := by
    unfold shl
    rw [Int.toNat_natCast, show min k IntKind.u32.bits = k from Nat.min_eq_left (by show k ≤ 32; omega), IntKind.wrap_u32, Int.one_mul, show ((2 : Int) ^ k) = ((2 ^ k : Nat) : Int) by simp]
    generalize 2 ^ k = q at hp ⊢
    omega
  have hor : r ||| 2 ^ k < 1073741824 := Nat.or_lt_two_pow (n := 30) (show r < 2 ^ 30 by omega) hp
  refine ⟨r, by omega, ?_, ?_, hor, ?_, ?_, fun c hc hne => ?_⟩
  · rw [bits_mask32 a ha, hs]; exact h1
  · rw [hs]; exact bits_or32 r (2 ^ k) (by omega) (by omega)
  · rw [hasB_nat _ _ hk, h3 k (by omega), Nat.testBit_two_pow]; simp
  · rw [hasB_nat _ _ hk]; exact bit_or_set r k
  · rw [hasB_nat _ _ hc, hasB_nat _ _ hc]; exact bit_or_other r k c (fun e => hne e.symm)
/-- a line that is left out, or is wrong -/
def outF (b : Bool) : ByteArray × ByteArray × Bool × Int := ((⟨#[]⟩ : ByteArray), (⟨#[]⟩ : ByteArray), false, if b = true then 0 else 400)
/-- the name that a line has, as a clause has it -/
def nameF (s : ByteArray) (cs : Bool) : ByteArray := if cs = true then (⟨(Lib.trimRightS (beforeB 58 s).data.toList [32, 9]).toArray⟩ : ByteArray) else beforeB 58 s
def valueF (s : ByteArray) : ByteArray := Trim.trimB Trim.blankB (afterB 58 s)
/-- the field that a line is: by five clauses -/
def parseG (s : ByteArray) (cs nb nc nn vb : Bool) : ByteArray × ByteArray × Bool × Int :=
  if hasC 58 s = true then (if (nameF s cs).size = 0 then outF nn else if ((nb || allB (nameF s cs) [1]) && (vb || allB (valueF s) [6])) = true then (nameF s cs, valueF s, true, 0) else outF false) else outF nc
theorem out_some (p : Nat) (hp : p < 4294967296) (c : Int) : field_out.f (p : Int) c = some (outF (hasB p c)) := by
  unfold field_out.f
  rw [qhas_some p hp, Option.bind_some]
  unfold outF
  cases hasB p c <;> rfl
theorem trimRightS_size (l t : List UInt8) : (Lib.trimRightS l t).length ≤ l.length := by
  unfold Lib.trimRightS
  first | exact (List.rdropWhile_sublist ..).length_le | (rw [List.length_reverse]; exact Nat.le_trans (List.dropWhile_sublist _).length_le (by simp)) | simp
theorem nameF_size (s : ByteArray) (cs : Bool) : (nameF s cs).size ≤ s.size := by
  unfold nameF
  have hb := before_size 58 s
  cases cs with
  | true =>
    rw [if_pos rfl]
    have := trimRightS_size (beforeB 58 s).data.toList [32, 9]
    rw [data_length] at this
    exact Nat.le_trans (by show (Lib.trimRightS _ _).toArray.size ≤ _; simpa using this) hb
  | false => exact hb
theorem trimB_le2 (s : ByteArray) : (Trim.trimB Trim.blankB s).size ≤ s.size := by
  unfold Trim.trimB Trim.trimR Trim.trimL
  rw [ByteArray.size_extract, ByteArray.size_extract]; omega
theorem fparse_j0 (p : Nat) (hp : p < 4294967296) (n v : ByteArray) (hn : n.size < 4611686018427387904) (hv : v.size < 4611686018427387904) :
    Ev (fun k => field_Parse.j0 k (p : Int) n v) (if n.size = 0 then outF (hasB p 12) else if ((hasB p 10 || allB n [1]) && (hasB p 14 || allB (Trim.trimB Trim.blankB v) [6])) = true then (n, Trim.trimB Trim.blankB v, true, 0) else outF false) := by
  refine Ev.step (fun _ => field_Parse.j0.eq_2 ..) ?_
  have hz : n.toList = ([] : List UInt8) ↔ n.size = 0 := by
    rw [ByteArray.toList_eq, ← data_length n, List.length_eq_zero_iff]
  have ht := trimB_le2 v
  by_cases h : n.size = 0
  · rw [if_pos h]
    exact Ev.pos (hz.mpr h) (Ev.val (out_some p hp 12) (Ev.now _))
  · rw [if_neg h]
    refine Ev.neg (fun e => h (hz.mp e)) (Ev.val (trim_some (by omega)) (Ev.val (qhas_some p hp 10) ?_))
    have last : Ev (fun k => (quirks_Has.f (p : Int) 14).bind fun t140 => (if t140 = true then (some (n, Trim.trimB Trim.blankB v, true, 0)) else ((octet_All.f k (Trim.trimB Trim.blankB v) (([6] : List Int))).bind fun t144 => (if t144 = true then (some (n, Trim.trimB Trim.blankB v, true, (0 : Int))) else (some ((⟨#[]⟩ : ByteArray), (⟨#[]⟩ : ByteArray), false, 400)))))) (if (hasB p 14 || allB (Trim.trimB Trim.blankB v) [6]) = true then (n, Trim.trimB Trim.blankB v, true, 0) else outF false) := by
      refine Ev.val (qhas_some p hp 14) ?_
      cases h14 : hasB p 14 with
      | true => exact Ev.pos rfl ((Ev.now _).to (by simp))
      | false =>
        refine Ev.neg (by simp) (Ev.bind (own_ev _ [6] (by decide) (by omega)) ?_)
        cases ha : allB (Trim.trimB Trim.blankB v) [6] with
        | true => exact Ev.pos rfl ((Ev.now _).to (by simp))
        | false => exact Ev.neg (by simp) ((Ev.now _).to (by simp [outF]))
    cases h10 : hasB p 10 with
    | true => exact Ev.pos rfl (last.to (by simp))
    | false =>
      refine Ev.neg (by simp) (Ev.bind (own_ev n [1] (by decide) (by omega)) ?_)
      cases ha : allB n [1] with
      | true => exact Ev.pos rfl (last.to (by simp))
      | false => exact Ev.neg (by simp) ((Ev.now _).to (by simp [outF]))
theorem fparse_ev (s : ByteArray) (hs : s.size < 4611686018427387904) (p : Nat) (hp : p < 4294967296) : Ev (fun k => field_Parse.f k s (p : Int)) (parseG s (hasB p 9) (hasB p 10) (hasB p 11) (hasB p 12) (hasB p 14)) := by
  unfold field_Parse.f parseG
  have hb := before_size 58 s
  have ha := after_size 58 s
  refine Ev.val (cut_some 58 s hs) ?_
  simp only
  cases hc : hasC 58 s with
  | false => exact Ev.neg (by simp) (Ev.val (out_some p hp 11) ((Ev.now _).to (by simp)))
  | true =>
    refine Ev.pos rfl (Ev.val (qhas_some p hp 9) ?_)
    rw [if_pos rfl]
    have hns := nameF_size s
    cases h9 : hasB p 9 with
    | true =>
      refine Ev.pos rfl (Ev.val (x := nameF s true) ?_ (fparse_j0 p hp _ _ (by have := hns true; omega) (by omega)))
      unfold strings_TrimRight.f nameF
      rw [if_pos ⟨by omega, by decide, by decide⟩]; rfl
    | false => exact Ev.neg (by simp) (fparse_j0 p hp _ _ (by omega) (by omega))
theorem trimU_parts (q : UInt8 → Bool) (l : List UInt8) : ∃ a b : List UInt8, l = a ++ TrimP.trimU q l ++ b ∧ (∀ x ∈ a, q x = true) ∧ ∀ x ∈ b, q x = true := by
  refine ⟨l.takeWhile q, ((l.dropWhile q).reverse.takeWhile q).reverse, ?_, fun x hx => TrimP.all_take hx, fun x hx => TrimP.all_take (List.mem_reverse.mp hx)⟩
  unfold TrimP.trimU
  rw [List.append_assoc, ← List.reverse_append, List.takeWhile_append_dropWhile, List.reverse_reverse, List.takeWhile_append_dropWhile]
theorem trimU_again (q : UInt8 → Bool) (l : List UInt8) : TrimP.trimU q (TrimP.trimU q l) = TrimP.trimU q l := by
  obtain ⟨a, b, h, ha, hb⟩ := trimU_parts q l
  have : TrimP.trimU q l = TrimP.trimU q (a ++ TrimP.trimU q l ++ b) := congrArg _ h
  rw [TrimP.trimU_right hb, TrimP.trimU_left ha] at this
  exact this.symm
theorem trimB_again (s : ByteArray) : Trim.trimB Trim.blankB (Trim.trimB Trim.blankB s) = Trim.trimB Trim.blankB s := by
  rw [TrimP.trimB_eq, TrimP.trimB_eq, data_BA, trimU_again]
theorem trimB_sp (s : ByteArray) : Trim.trimB Trim.blankB ((⟨#[32]⟩ : ByteArray) ++ s) = Trim.trimB Trim.blankB s := by
  rw [TrimP.trimB_eq, TrimP.trimB_eq, data_app, TrimP.trimU_left]
  intro b hb
  have : b = 32 := by simpa using hb
  subst this; decide
theorem tok_not : ∀ n : Fin 256, ofB (n.val : Int) 1 = true → (n.val : Int) ≠ 58 ∧ (n.val : Int) ≠ 32 ∧ (n.val : Int) ≠ 9 := by decide +kernel
theorem allB_mem {s : ByteArray} {k x : Int} (h : allB s [k] = true) (hx : x ∈ bytesOf s) : ofB x k = true := by
  unfold allB at h
  have := List.all_eq_true.mp h x hx
  simpa using this
theorem tok_at {s : ByteArray} (h : allB s [1] = true) {x : Int} (hx : x ∈ bytesOf s) : x ≠ 58 ∧ x ≠ 32 ∧ x ≠ 9 := by
  have h2 := bytes_lt s hx
  exact byte_all (p := fun x => ofB x 1 = true → x ≠ 58 ∧ x ≠ 32 ∧ x ≠ 9) tok_not h2.1 h2.2 (allB_mem h hx)
theorem name_plain {n : ByteArray} (h : allB n [1] = true) : (⟨(Lib.trimRightS n.data.toList [32, 9]).toArray⟩ : ByteArray) = n := by
  unfold Lib.trimRightS
  have : n.data.toList.reverse.dropWhile (([32, 9] : List UInt8).contains ·) = n.data.toList.reverse := by
    refine TrimP.dropWhile_none (fun b hb => ?_)
    have hm := tok_at h (List.mem_map.mpr ⟨b, List.mem_reverse.mp hb, rfl⟩ : (b.toNat : Int) ∈ bytesOf n)
    rw [Bool.eq_false_iff]
    intro e
    have e2 : b = 32 ∨ b = 9 := by simpa using e
    rcases e2 with rfl | rfl
    · exact hm.2.1 rfl
    · exact hm.2.2 rfl
  rw [this, List.reverse_reverse]
theorem nameF_plain {s : ByteArray} (h : allB (beforeB 58 s) [1] = true) (cs : Bool) : nameF s cs = beforeB 58 s := by
  unfold nameF
  cases cs with
  | true => rw [if_pos rfl]; exact name_plain h
  | false => exact if_neg (by simp)
/-- what the strict reader takes all take -/
theorem strict_all (s : ByteArray) (h : (parseG s false false false false false).2.2.2 = 0) : hasC 58 s = true ∧ 0 < (beforeB 58 s).size ∧ allB (beforeB 58 s) [1] = true ∧ allB (valueF s) [6] = true ∧ ∀ cs nb nc nn vb : Bool, parseG s cs nb nc nn vb = (beforeB 58 s, valueF s, true, 0) := by
  have hn0 : nameF s false = beforeB 58 s := rfl
  have hout : (outF false).2.2.2 ≠ 0 := by decide
  unfold parseG at h
  rw [hn0] at h
  by_cases hc : hasC 58 s = true
  · rw [if_pos hc] at h
    by_cases hz : (beforeB 58 s).size = 0
    · rw [if_pos hz] at h; exact absurd h hout
    · rw [if_neg hz] at h
      by_cases ha : ((false || allB (beforeB 58 s) [1]) && (false || allB (valueF s) [6])) = true
      · rw [Bool.false_or, Bool.false_or, Bool.and_eq_true] at ha
        refine ⟨hc, by omega, ha.1, ha.2, fun cs nb nc nn vb => ?_⟩
        unfold parseG
        rw [nameF_plain ha.1, if_pos hc, if_neg hz, if_pos (by rw [ha.1, ha.2, Bool.or_true, Bool.or_true]; rfl)]
      · rw [if_neg ha] at h; exact absurd h hout
  · rw [if_neg hc] at h; exact absurd h hout
/-- a line that is made of a name and a value -/
theorem parse_made (n w : ByteArray) (h0 : 0 < n.size) (hn : allB n [1] = true) (hv : allB (Trim.trimB Trim.blankB w) [6] = true) (cs nb nc nn vb : Bool) : parseG (n ++ BA [58] ++ w) cs nb nc nn vb = (n, Trim.trimB Trim.blankB w, true, 0) := by
  have hno : ∀ x ∈ bytesOf n, x ≠ ((58 : UInt8).toNat : Int) := fun x hx => (tok_at hn hx).1
  obtain ⟨c1, _⟩ := cut_app 58 n w hno
  obtain ⟨c3, c4⟩ := cut_after 58 n w hno
  unfold parseG
  have e1 : nameF (n ++ BA [58] ++ w) cs = n := by rw [nameF_plain (by rw [c1]; exact hn), c1]
  have e2 : valueF (n ++ BA [58] ++ w) = Trim.trimB Trim.blankB w := by unfold valueF; rw [c3]
  rw [e1, e2, if_pos c4, if_neg (by omega), if_pos (by rw [hn, hv, Bool.or_true, Bool.or_true]; rfl)]
theorem hasB_zero (c : Int) : hasB 0 c = false := by unfold hasB; simp
theorem fright_ev (n v : ByteArray) (h0 : 0 < n.size) (hn : allB n [1] = true) (hv : allB v [6] = true) (ht : Trim.trimB Trim.blankB v = v) (hs : n.size + v.size < 1000000000000) : Ev (fun k => field_Right.f k n v) true := by
  unfold field_Right.f
  have hsz : (n ++ (⟨#[58]⟩ : ByteArray)).size = n.size + 1 := by rw [ByteArray.size_append]; rfl
  refine Ev.pos (by omega) (Ev.pos (by rw [hsz]; omega) ?_)
  have hp := fparse_ev ((n ++ (⟨#[58]⟩ : ByteArray)) ++ v) (by rw [ByteArray.size_append, hsz]; omega) 0 (by decide)
  have hm := parse_made n v h0 hn (by rw [ht]; exact hv) (hasB 0 9) (hasB 0 10) (hasB 0 11) (hasB 0 12) (hasB 0 14)
  rw [ht] at hm
  exact Ev.bind (hp.to hm) (Ev.pos rfl (Ev.pos rfl ((Ev.now _).to (by simp))))
theorem fput_some (l : List S25) (hl : l.length ≤ 1000) (hz : ∀ x ∈ l, x.f0.size ≤ 1000000000 ∧ x.f1.size ≤ 1000000000) : field_Put.f l = some (putB l) := by
  unfold field_Put.f; rw [if_pos ⟨hz, hl⟩]
theorem put_one (f : S25) : putB [f] = lineB f := by
  unfold putB
  rw [List.foldl_cons, List.foldl_nil]
  apply ba_inj; rw [data_app]; rfl
/-- does a line go on? -/
def goesF (s : ByteArray) (f : Bool) : Bool := f && (decide (0 < s.size) && Trim.blankB (bt s 0))
theorem nil_iff (s : ByteArray) : s.toList = ([] : List UInt8) ↔ s.size = 0 := by rw [ByteArray.toList_eq, ← data_length s, List.length_eq_zero_iff]
theorem oblank : ∀ n : Fin 256, octet_Blank.f (n.val : Int) = some (Trim.blankB (n.val : Int)) := by decide +kernel
theorem fgoes_some (s : ByteArray) (p : Nat) (hp : p < 4294967296) : field_Goes.f s (p : Int) = some (goesF s (hasB p 13)) := by
  unfold field_Goes.f goesF
  rw [qhas_some p hp, Option.bind_some]
  have hb := bt_lt s 0
  have he : octet_Blank.f (bt s 0) = some (Trim.blankB (bt s 0)) := byte_all (p := fun x => octet_Blank.f x = some (Trim.blankB x)) oblank hb.1 hb.2
  cases hasB p 13 with
  | false => rfl
  | true =>
    rw [if_pos rfl]
    by_cases h : s.size = 0
    · rw [if_pos ((nil_iff s).mpr h), decide_eq_false (by omega)]; rfl
    · rw [if_neg (fun e => h ((nil_iff s).mp e)), if_pos (by omega), he, decide_eq_true (show 0 < s.size by omega)]; rfl
theorem known_ev : Ev (fun k => parallaxlaw9_known.f k) true := Ev.of (fun k => parallaxlaw9_known.mono k) (k := 40) (by decide +kernel)
end Go.Proofs.YtijcibdpcolfpaaDoor.PFieldPuts
