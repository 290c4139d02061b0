/- Plain words for a text's parts between signs of one kind. -/
import Derived.Test.YtijcibdpcolfpaaDoorAid
import Derived.Test.YtijcibdpcolfpaaDoorTrim
import Derived.Lib.Bytealg
namespace Go.Proofs.YtijcibdpcolfpaaDoor.Parts
open Go.RowKit Go.Proofs.YtijcibdpcolfpaaDoorW.PrintWords Go.Proofs.YtijcibdpcolfpaaDoorW.PrintLast Go.Proofs.YtijcibdpcolfpaaDoorW.PrintMore

/-- bytes as a text -/
def BA (l : List UInt8) : ByteArray := ⟨l.toArray⟩
theorem BA_data (s : ByteArray) : BA s.data.toList = s := by unfold BA; simp
theorem data_BA (l : List UInt8) : (BA l).data.toList = l := by unfold BA; simp
theorem ba_inj {a b : ByteArray} (h : a.data.toList = b.data.toList) : a = b := by rw [← BA_data a, ← BA_data b, h]
theorem size_BA (l : List UInt8) : (BA l).size = l.length := by rw [← data_length, data_BA]
theorem BA_app (a b : List UInt8) : BA a ++ BA b = BA (a ++ b) := by
  apply ba_inj
  rw [data_BA]
  show (ByteArray.append (BA a) (BA b)).data.toList = _
  rw [ByteArray.toList_data_append', data_BA, data_BA]
theorem data_app (a b : ByteArray) : (a ++ b).data.toList = a.data.toList ++ b.data.toList := by
  show (ByteArray.append a b).data.toList = _
  rw [ByteArray.toList_data_append']
theorem ext_data (s : ByteArray) (i j : Nat) : (s.extract i j).data.toList = (s.data.toList.drop i).take (j - i) := by
  rw [ByteArray.data_extract]; simp
theorem ext_BA (s : ByteArray) (i j : Nat) : s.extract i j = BA ((s.data.toList.drop i).take (j - i)) := by
  apply ba_inj; rw [data_BA, ext_data]
theorem toList_BA (l : List UInt8) : (BA l).toList = l := by rw [ByteArray.toList_eq, data_BA]
/-- the parts of bytes between signs c -/
def splitU (c : UInt8) : List UInt8 → List (List UInt8)
  | [] => [[]]
  | b :: l => if b = c then [] :: splitU c l else match splitU c l with | [] => [[b]] | h :: t => (b :: h) :: t
theorem splitU_ne (c : UInt8) (l : List UInt8) : splitU c l ≠ [] := by
  cases l with
  | nil => simp [splitU]
  | cons b l =>
    unfold splitU
    split
    · simp
    · split <;> simp
theorem splitU_len (c : UInt8) (l : List UInt8) : (splitU c l).length = l.count c + 1 := by
  induction l with
  | nil => simp [splitU]
  | cons b l ih =>
    unfold splitU
    by_cases h : b = c
    · subst h; rw [if_pos rfl, List.count_cons_self, List.length_cons, ih]
    · rw [if_neg h, List.count_cons_of_ne h]
      split
      · rename_i e; exact absurd e (splitU_ne c l)
      · rename_i e; rw [e] at ih; simpa using ih
theorem splitU_none (c : UInt8) (l : List UInt8) (h : c ∉ l) : splitU c l = [l] := by
  induction l with
  | nil => rfl
  | cons b l ih =>
    have h1 : ¬ b = c := fun e => h (by simp [e])
    have h2 : c ∉ l := fun e => h (by simp [e])
    unfold splitU
    rw [if_neg h1, ih h2]
theorem splitU_at (c : UInt8) (a l : List UInt8) (h : c ∉ a) : splitU c (a ++ c :: l) = a :: splitU c l := by
  induction a with
  | nil => simp [splitU]
  | cons b a ih =>
    have h1 : ¬ b = c := fun e => h (by simp [e])
    have h2 : c ∉ a := fun e => h (by simp [e])
    rw [List.cons_append]
    show (if b = c then [] :: splitU c (a ++ c :: l) else match splitU c (a ++ c :: l) with | [] => [[b]] | h :: t => (b :: h) :: t) = _
    rw [if_neg h1, ih h2]
/-- what indexByte tells -/
theorem index_no (c : UInt8) (l : List UInt8) (h : Lib.indexByte l c < 0) : c ∉ l := by
  induction l with
  | nil => simp
  | cons b l ih =>
    have hg := Lib.indexByte_ge l c
    unfold Lib.indexByte at h
    by_cases hb : (b == c) = true
    · rw [if_pos hb] at h; omega
    · rw [if_neg hb] at h
      by_cases h1 : (Lib.indexByte l c == -1) = true
      · have : Lib.indexByte l c = -1 := by simpa using h1
        have hc := ih (by omega)
        intro hm
        rcases List.mem_cons.mp hm with e | e
        · exact hb (by simp [e])
        · exact hc e
      · rw [if_neg h1] at h; omega
theorem index_yes (c : UInt8) (l : List UInt8) (h : 0 ≤ Lib.indexByte l c) : ∃ a r, l = a ++ c :: r ∧ c ∉ a ∧ Lib.indexByte l c = (a.length : Nat) := by
  induction l with
  | nil => simp [Lib.indexByte] at h
  | cons b l ih =>
    have hg := Lib.indexByte_ge l c
    unfold Lib.indexByte at h ⊢
    by_cases hb : (b == c) = true
    · rw [if_pos hb]
      have : b = c := by simpa using hb
      subst this
      exact ⟨[], l, rfl, by simp, rfl⟩
    · rw [if_neg hb] at h ⊢
      by_cases h1 : (Lib.indexByte l c == -1) = true
      · rw [if_pos h1] at h; omega
      · rw [if_neg h1]
        have h1' : ¬ Lib.indexByte l c = -1 := by simpa using h1
        obtain ⟨a, r, e1, e2, e3⟩ := ih (by omega)
        refine ⟨b :: a, r, by rw [e1]; rfl, ?_, by rw [e3]; simp⟩
        intro hm
        rcases List.mem_cons.mp hm with e | e
        · exact hb (by simp [e])
        · exact e2 e
theorem index_nil_iff (c : UInt8) (l : List UInt8) : (0 ≤ Lib.indexByte l c) ↔ c ∈ l := by
  constructor
  · intro h; obtain ⟨a, r, e, _, _⟩ := index_yes c l h; rw [e]; simp
  · intro h; rcases Int.lt_or_le (Lib.indexByte l c) 0 with x | x
    · exact absurd h (index_no c l x)
    · exact x
/-- the parts of a text -/
def parts (c : UInt8) (s : ByteArray) : List ByteArray := (splitU c s.data.toList).map BA
theorem parts_len (c : UInt8) (s : ByteArray) : (parts c s).length = s.data.toList.count c + 1 := by unfold parts; rw [List.length_map, splitU_len]
theorem parts_no (c : UInt8) (s : ByteArray) (h : Lib.indexByte s.data.toList c < 0) : parts c s = [s] := by
  unfold parts; rw [splitU_none c _ (index_no c _ h), List.map_cons, List.map_nil, BA_data]
theorem parts_yes (c : UInt8) (s : ByteArray) (h : 0 ≤ Lib.indexByte s.data.toList c) : ∃ i : Nat, Lib.indexByte s.data.toList c = i ∧ i < s.size ∧ parts c s = s.extract 0 i :: parts c (s.extract (i + 1) s.size) ∧ s.data.toList.count c = (s.extract (i + 1) s.size).data.toList.count c + 1 := by
  obtain ⟨a, r, e1, e2, e3⟩ := index_yes c _ h
  have hlen : a.length + r.length + 1 = s.size := by have := data_length s; rw [e1] at this; simp at this; omega
  have hx : (s.extract (a.length + 1) s.size).data.toList = r := by
    rw [ext_data, e1]
    have : List.drop (a.length + 1) (a ++ c :: r) = r := by rw [← List.drop_drop]; simp
    rw [this, List.take_of_length_le (by omega)]
  refine ⟨a.length, e3, by omega, ?_, ?_⟩
  · unfold parts
    rw [hx, e1, splitU_at c a r e2, List.map_cons, ext_BA, e1]
    simp
  · rw [hx, e1, List.count_append, List.count_cons_self, List.count_eq_zero_of_not_mem e2]; omega
theorem splitU_mem (c : UInt8) (l x : List UInt8) (h : x ∈ splitU c l) : x.length ≤ l.length := by
  induction l generalizing x with
  | nil => simp [splitU] at h; subst h; simp
  | cons b l ih =>
    unfold splitU at h
    split at h
    · rcases List.mem_cons.mp h with e | e
      · subst e; simp
      · have := ih x e; simp; omega
    · split at h
      · simp at h; subst h; simp
      · rename_i y t e
        rcases List.mem_cons.mp h with e1 | e1
        · subst e1; have := ih y (by rw [e]; simp); simp; omega
        · have := ih x (by rw [e]; simp [e1]); simp; omega
theorem parts_size {c : UInt8} {s p : ByteArray} (h : p ∈ parts c s) : p.size ≤ s.size := by
  unfold parts at h
  obtain ⟨x, hx, rfl⟩ := List.mem_map.mp h
  rw [size_BA, ← data_length s]; exact splitU_mem c _ x hx
theorem count_le_size (c : UInt8) (s : ByteArray) : s.data.toList.count c ≤ s.size := by rw [← data_length s]; exact List.count_le_length
end Go.Proofs.YtijcibdpcolfpaaDoor.Parts
