/- Plain words for a text's parts between signs of one kind. -/
import Derived.Test.YtnnehbbfokoklaaAid
import Derived.Test.YtnnehbbfokoklaaTrim
import Derived.Lib.Bytealg
namespace Go.Proofs.Ytnnehbbfokoklaa.Parts
open Go.RowKit Go.Proofs.YtnnehbbfokoklaaW.PrintWords Go.Proofs.YtnnehbbfokoklaaW.PrintLast Go.Proofs.YtnnehbbfokoklaaW.PrintMore
def BA (l : List UInt8) : ByteArray := ⟨l.toArray⟩
theorem BA_data (s : ByteArray) : BA s.data.toList = s := by unfold BA; simp
theorem data_BA (l : List UInt8) : (BA l).data.toList = l := by unfold BA; simp
theorem ba_inj {a b : ByteArray} (h : a.data.toList = b.data.toList) : a = b := by rw [← BA_data a, ← BA_data b, h]
theorem size_BA (l : List UInt8) : (BA l).size = l.length := by rw [← data_length, data_BA]
theorem data_app (a b : ByteArray) : (a ++ b).data.toList = a.data.toList ++ b.data.toList := by
  show (ByteArray.append a b).data.toList = _
  rw [ByteArray.toList_data_append']
theorem ext_data (s : ByteArray) (i j : Nat) : (s.extract i j).data.toList = (s.data.toList.drop i).take (j - i) := by
  rw [ByteArray.data_extract]; simp
theorem ext_BA (s : ByteArray) (i j : Nat) : s.extract i j = BA ((s.data.toList.drop i).take (j - i)) := by
  apply ba_inj; rw [data_BA, ext_data]
def splitU (c : UInt8) : List UInt8 → List (List UInt8)
  | [] => [[]]
  | b :: l => if b = c then [] :: splitU c l else match splitU c l with | [] => [[b]] | h :: t => (b :: h) :: t
theorem splitU_ne (c : UInt8) (l : List UInt8) : splitU c l ≠ [] := by
  cases l with
  | nil => simp [splitU]
  | cons b l =>
    unfold splitU
    split
    · simp
    · split <;> simp
theorem splitU_len (c : UInt8) (l : List UInt8) : (splitU c l).length = l.count c + 1 := by
  induction l with
  | nil => simp [splitU]
  | cons b l ih =>
    unfold splitU
    by_cases h : b = c
    · subst h; rw [if_pos rfl, List.count_cons_self, List.length_cons, ih]
    · rw [if_neg h, List.count_cons_of_ne h]
      split
      · rename_i e; exact absurd e (splitU_ne c l)
      · rename_i e; rw [e] at ih; simpa using ih
theorem splitU_none (c : UInt8) (l : List UInt8) (h : c ∉ l) : splitU c l = [l] := by
  induction l with
  | nil => rfl
  | cons b l ih =>
    have h1 : ¬ b = c := fun e => h (by simp [e])
    have h2 : c ∉ l := fun e => h (by simp [e])
    unfold splitU
    rw [if_neg h1, ih h2]
theorem splitU_at (c : UInt8) (a l : List UInt8) (h : c ∉ a) : splitU c (a ++ c :: l) = a :: splitU c l := by
  induction a with
  | nil => simp [splitU]
  | cons b a ih =>
    have h1 : ¬ b = c := fun e => h (by simp [e])
    have h2 : c ∉ a := fun e => h (by simp [e])
    rw [List.cons_append]
    show (if b = c then [] :: splitU c (a ++ c :: l) else match splitU c (a ++ c :: l) with | [] => [[b]] | h :: t => (b :: h) :: t) = _
    rw [if_neg h1, ih h2]
theorem index_no (c : UInt8) (l : List UInt8) (h : Lib.indexByte l c < 0) : c ∉ l := by
  induction l with
  | nil => simp
  | cons b l ih =>
    have hg := Lib.indexByte_ge l c
    unfold Lib.indexByte at h
    by_cases hb : (b == c) = true
    · rw [if_pos hb] at h; omega
    · rw [if_neg hb] at h
      by_cases h1 : (Lib.indexByte l c == -1) = true
      · have : Lib.indexByte l c = -1 := by simpa using h1
        have hc := ih (by omega)
        intro hm
        rcases List.mem_cons.mp hm with e | e
        · exact hb (by simp [e])
        · exact hc e
      · rw [if_neg h1] at h; omega
theorem index_yes (c : UInt8) (l : List UInt8) (h : 0 ≤ Lib.indexByte l c) : ∃ a r, l = a ++ c :: r ∧ c ∉ a ∧ Lib.indexByte l c = (a.length : Nat) := by
  induction l with
  | nil => simp [Lib.indexByte] at h
  | cons b l ih =>
    have hg := Lib.indexByte_ge l c
    unfold Lib.indexByte at h ⊢
    by_cases hb : (b == c) = true
    · rw [if_pos hb]
      have : b = c := by simpa using hb
      subst this
      exact ⟨[], l, rfl, by simp, rfl⟩
    · rw [if_neg hb] at h ⊢
      by_cases h1 : (Lib.indexByte l c == -1) = true
      · rw [if_pos h1] at h; omega
      · rw [if_neg h1]
        have h1' : ¬ Lib.indexByte l c = -1 := by simpa using h1
        obtain ⟨a, r, e1, e2, e3⟩ := ih (by omega)
        refine ⟨b :: a, r, by rw [e1]; rfl, ?_, by rw [e3]; simp⟩
        intro hm
        rcases List.mem_cons.mp hm with e | e
        · exact hb (by simp [e])
        · exact e2 e
theorem index_nil_iff (c : UInt8) (l : List UInt8) : (0 ≤ Lib.indexByte l c) ↔ c ∈ l := by
  constructor
  · intro h; obtain ⟨a, r, e, _, _⟩ := index_yes c l h; rw [e]; simp
  · intro h; rcases Int.lt_or_le (Lib.indexByte l c) 0 with x | x
    · exact absurd h (index_no c l x)
    · exact x
def parts (c : UInt8) (s : ByteArray) : List ByteArray := (splitU c s.data.toList).map BA
theorem parts_len (c : UInt8) (s : ByteArray) : (parts c s).length = s.data.toList.count c + 1 := by unfold parts; rw [List.length_map, splitU_len]
end Go.Proofs.Ytnnehbbfokoklaa.Parts
