/- Plain words for texts without some bytes at their ends. -/
import Derived.Test.YtijcibdpcolfpaaDoorWMore
import Derived.Lib.Hide
import Derived.Lib.Bytealg
import Derived.Laws.Strings
namespace Go.Proofs.YtijcibdpcolfpaaDoor.Trim
open Go.RowKit Go.Proofs.YtijcibdpcolfpaaDoorW.PrintWords Go.Proofs.YtijcibdpcolfpaaDoorW.PrintLast Go.Proofs.YtijcibdpcolfpaaDoorW.PrintMore

/-- how many at the beginning -/
def lead (p : Int → Bool) (l : List Int) : Nat := (l.takeWhile p).length
def trimL (p : Int → Bool) (s : ByteArray) : ByteArray := s.extract (lead p (bytesOf s)) s.size
def trimR (p : Int → Bool) (s : ByteArray) : ByteArray := s.extract 0 (s.size - lead p (bytesOf s).reverse)
/-- a text without bytes of a kind at its ends -/
def trimB (p : Int → Bool) (s : ByteArray) : ByteArray := trimR p (trimL p s)
def blankB (c : Int) : Bool := c == 32 || c == 9
/-- is a byte in a text? -/
def inB (t : ByteArray) (c : Int) : Bool := decide (0 ≤ Lib.indexByte t.data.toList c.toNat.toUInt8)

theorem lead_le (p : Int → Bool) (l : List Int) : lead p l ≤ l.length := (List.takeWhile_sublist p).length_le
theorem lead_yes (p : Int → Bool) (l : List Int) (i : Nat) (h : i < lead p l) : p (l.getD i 0) = true := by
  induction l generalizing i with
  | nil => simp [lead] at h
  | cons a l ih =>
    unfold lead at h
    rw [List.takeWhile_cons] at h
    split at h
    · rename_i ha
      cases i with
      | zero => simpa using ha
      | succ i => simpa using ih i (by unfold lead; simpa using h)
    · simp at h
theorem lead_no (p : Int → Bool) (l : List Int) (h : lead p l < l.length) : p (l.getD (lead p l) 0) = false := by
  induction l with
  | nil => simp at h
  | cons a l ih =>
    unfold lead at h ⊢
    rw [List.takeWhile_cons] at h ⊢
    split
    · rename_i ha
      rw [if_pos ha] at h
      have := ih (by unfold lead; simpa using h)
      unfold lead at this
      simpa using this
    · rename_i ha
      simpa using ha
theorem ext_size (s : ByteArray) (i j : Nat) (hj : j ≤ s.size) : (s.extract i j).size = j - i := by rw [ByteArray.size_extract]; omega
theorem ext_bt (s : ByteArray) (i j k : Nat) (hj : j ≤ s.size) (hk : i + k < j) : bt (s.extract i j) (k : Int) = bt s ((i + k : Nat) : Int) := by
  unfold bt
  have h1 : (k : Int).toNat = k := by omega
  have h2 : ((i + k : Nat) : Int).toNat = i + k := by omega
  rw [dif_pos (show (k : Int).toNat < (s.extract i j).size by rw [ext_size _ _ _ hj]; omega), dif_pos (show ((i + k : Nat) : Int).toNat < s.size by omega)]
  congr 2
  simp only [h1, h2]
  rw [ByteArray.getElem_extract]
theorem ext_left (s : ByteArray) (i j : Nat) : (s.extract i s.size).extract j (s.extract i s.size).size = s.extract (i + j) s.size := by
  rw [ByteArray.extract_extract, ByteArray.size_extract]
  congr 1
  omega
theorem ext_right (s : ByteArray) (m n : Nat) (h : n ≤ m) : (s.extract 0 m).extract 0 n = s.extract 0 n := by
  rw [ByteArray.extract_extract]
  congr 1
  omega
theorem bytes_getD (s : ByteArray) (i : Nat) : (bytesOf s).getD i 0 = bt s (i : Int) := by rw [← rd_bytesOf]; rfl
theorem bytes_rev (s : ByteArray) (i : Nat) (h : i < s.size) : (bytesOf s).reverse.getD i 0 = bt s ((s.size - 1 - i : Nat) : Int) := by
  rw [← bytes_getD, List.getD_eq_getElem?_getD, List.getD_eq_getElem?_getD, List.getElem?_reverse (by rw [bytesOf_length]; exact h), bytesOf_length]
/-- the left end, as the loop goes: i bytes are gone -/
theorem left_yes {p : Int → Bool} {s : ByteArray} {i : Nat} (h : i < lead p (bytesOf s)) : i < s.size ∧ p (bt (s.extract i s.size) 0) = true := by
  have h1 := lead_le p (bytesOf s); rw [bytesOf_length] at h1
  have h2 := lead_yes p _ i h
  rw [bytes_getD] at h2
  have := ext_bt s i s.size 0 (Nat.le_refl _) (by omega)
  rw [Nat.add_zero] at this
  exact ⟨by omega, by rw [show ((0 : Int)) = ((0 : Nat) : Int) from rfl, this]; exact h2⟩
theorem left_no {p : Int → Bool} {s : ByteArray} (h : lead p (bytesOf s) < s.size) : p (bt (trimL p s) 0) = false := by
  have h2 := lead_no p (bytesOf s) (by rw [bytesOf_length]; exact h)
  rw [bytes_getD] at h2
  have := ext_bt s (lead p (bytesOf s)) s.size 0 (Nat.le_refl _) (by omega)
  rw [Nat.add_zero] at this
  unfold trimL
  rw [show ((0 : Int)) = ((0 : Nat) : Int) from rfl, this]; exact h2
/-- the right end: m bytes are left -/
theorem right_yes {p : Int → Bool} {s : ByteArray} {m : Nat} (hm : m ≤ s.size) (h : s.size - lead p (bytesOf s).reverse < m) : 0 < m ∧ p (bt (s.extract 0 m) ((m : Int) - 1)) = true := by
  have h1 := lead_le p (bytesOf s).reverse; rw [List.length_reverse, bytesOf_length] at h1
  have h2 := lead_yes p (bytesOf s).reverse (s.size - m) (by omega)
  rw [bytes_rev s _ (by omega)] at h2
  have := ext_bt s 0 m (m - 1) hm (by omega)
  rw [show ((m : Int) - 1) = ((m - 1 : Nat) : Int) by omega, this, show (0 + (m - 1)) = s.size - 1 - (s.size - m) by omega]
  exact ⟨by omega, h2⟩
theorem right_no {p : Int → Bool} {s : ByteArray} (h : 0 < s.size - lead p (bytesOf s).reverse) : p (bt (trimR p s) (((s.size - lead p (bytesOf s).reverse : Nat) : Int) - 1)) = false := by
  have h2 := lead_no p (bytesOf s).reverse (by rw [List.length_reverse, bytesOf_length]; omega)
  rw [bytes_rev s _ (by omega)] at h2
  have := ext_bt s 0 (s.size - lead p (bytesOf s).reverse) (s.size - lead p (bytesOf s).reverse - 1) (by omega) (by omega)
  unfold trimR
  rw [show ((((s.size - lead p (bytesOf s).reverse : Nat) : Int) - 1)) = ((s.size - lead p (bytesOf s).reverse - 1 : Nat) : Int) by omega, this, show 0 + (s.size - lead p (bytesOf s).reverse - 1) = s.size - 1 - lead p (bytesOf s).reverse by omega]
  exact h2
theorem empty_iff (x : ByteArray) : x.toList.isEmpty = decide (x.size = 0) := by
  rw [ByteArray.toList_eq, Bool.eq_iff_iff, List.isEmpty_iff, decide_eq_true_eq, ← List.length_eq_zero_iff, data_length]
theorem one_byte {s : ByteArray} (h : s.size = 1) : ∃ c : UInt8, s = ⟨#[c]⟩ := by
  obtain ⟨⟨l⟩⟩ := s
  match l, h with
  | [c], _ => exact ⟨c, rfl⟩
end Go.Proofs.YtijcibdpcolfpaaDoor.Trim
