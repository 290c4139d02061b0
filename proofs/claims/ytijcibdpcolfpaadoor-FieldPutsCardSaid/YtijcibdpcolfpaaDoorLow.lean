/- What '[]byte(s)' leaves, byte by byte turned into small letters: plain words for the two functions Lower. -/
import Derived.Test.YtijcibdpcolfpaaDoorWMore
import Derived.Laws.IdiomStrings
import Derived.Laws.BytesArg
import Derived.Lib.Hide
namespace Go.Proofs.YtijcibdpcolfpaaDoor.Low
open Go.RowKit Go.Proofs.YtijcibdpcolfpaaDoorW.PrintWords Go.Proofs.YtijcibdpcolfpaaDoorW.PrintLast Go.Proofs.YtijcibdpcolfpaaDoorW.PrintMore

/-- a byte in small letters -/
def loC (c : Int) : Int := if 65 ≤ c ∧ c ≤ 90 then c + 32 else c
/-- a text in small letters -/
def lower (s : ByteArray) : ByteArray := strOfNums ((bytesOf s).map loC)
/-- the row of '[]byte(s)' at block B, its first k bytes in small letters -/
def LowRow (s : ByteArray) (k B : Nat) (t : TypeId) (W : World) : Prop :=
  ∃ (cur : Array Value), W.heap[B]? = some (.cells cur t (cur.size, cur.size + 1)) ∧ s.size ≤ cur.size ∧ ∀ j, j < s.size → cur[j]? = some (.int .u8 (if j < k then loC (bt s j) else bt s j))
theorem start (s : ByteArray) (t : TypeId) (w : World) (cap : Nat) : LowRow s 0 w.heap.size t (w.drew.alloc (.cells (bytesRow s cap) t ((bytesRow s cap).size, (bytesRow s cap).size + 1))) := by
  refine ⟨bytesRow s cap, ?_, ?_, fun j hj => ?_⟩
  · show (w.heap.push _)[w.heap.size]? = _
    simp
  · simp [bytesRow]
  · rw [bytesRow_at s cap j hj, if_neg (Nat.not_lt_zero _)]
    unfold bt; rw [dif_pos (show ((j : Int).toNat < s.size) by simpa using hj)]; rfl
theorem size_lt {s : ByteArray} {k B : Nat} {t : TypeId} {W : World} (h : LowRow s k B t W) : B < W.heap.size := by
  obtain ⟨cur, hb, _⟩ := h
  rcases Nat.lt_or_ge B W.heap.size with x | x
  · exact x
  · rw [Array.getElem?_eq_none x] at hb; cases hb
theorem cell {s : ByteArray} {k B : Nat} {t : TypeId} {W : World} (h : LowRow s k B t W) (j : Nat) (hj : j < s.size) : W.cell? ⟨B, j, none⟩ = some (.int .u8 (if j < k then loC (bt s j) else bt s j)) := by
  obtain ⟨cur, hb, _, hc⟩ := h
  rw [cell_of_row W B j cur t _ hb]; exact hc j hj
theorem free {s : ByteArray} {k B : Nat} {t : TypeId} {W : World} (h : LowRow s k B t W) (j : Nat) (hj : j < s.size) : W.frozen? ⟨B, j, none⟩ = false := by
  obtain ⟨cur, hb, hs, hc⟩ := h
  simp [World.frozen?, hb]; omega
theorem skip {s : ByteArray} {k B : Nat} {t : TypeId} {W : World} (h : LowRow s k B t W) (hl : loC (bt s k) = bt s k) : LowRow s (k + 1) B t W := by
  obtain ⟨cur, hb, hs, hc⟩ := h
  refine ⟨cur, hb, hs, fun j hj => ?_⟩
  rw [hc j hj]
  by_cases e : j = k
  · subst e; rw [if_neg (by omega), if_pos (by omega), hl]
  · by_cases h2 : j < k
    · rw [if_pos h2, if_pos (by omega)]
    · rw [if_neg h2, if_neg (by omega)]
theorem store {s : ByteArray} {k B : Nat} {t : TypeId} {W : World} (h : LowRow s k B t W) (hk : k < s.size) : LowRow s (k + 1) B t (W.setCell ⟨B, k, none⟩ (.int .u8 (loC (bt s k)))) := by
  obtain ⟨cur, hb, hs, hc⟩ := h
  refine ⟨cur.setIfInBounds k (.int .u8 (loC (bt s k))), ?_, by simpa using hs, fun j hj => ?_⟩
  · have hlt : B < W.heap.size := size_lt (k := k) ⟨cur, hb, hs, hc⟩
    simp [World.setCell, hb, Array.getElem?_modify]
  · by_cases e : j = k
    · subst e
      rw [if_pos (by omega), Array.getElem?_setIfInBounds_self_of_lt (by omega)]
    · rw [Array.getElem?_setIfInBounds_ne (by omega), hc j hj]
      by_cases h2 : j < k
      · rw [if_pos h2, if_pos (by omega)]
      · rw [if_neg h2, if_neg (by omega)]
theorem drew {s : ByteArray} {k B : Nat} {t : TypeId} {W : World} (h : LowRow s k B t W) : LowRow s k B t W.drew := h
theorem drewN {s : ByteArray} {k B : Nat} {t : TypeId} {W : World} (h : LowRow s k B t W) (n : Nat) : LowRow s k B t (W.drewN n) := h
theorem string {P : Program} {s : ByteArray} {B : Nat} {t : TypeId} {W : World} (h : LowRow s s.size B t W) (src dst : TypeId) (hs : P.underlying src = some (.slice t)) (he : P.underlying t = some (.int .u8)) (hd : P.underlying dst = some .string) (cap : Nat) :
    (convert src dst (.slice (some ⟨B, 0, none⟩) s.size cap)).run P W = .ok (.string (lower s)) W := by
  refine run_convert_bytes_arg W src t hs he B 0 s.size cap ((bytesOf s).map loC) (by rw [List.length_map, bytesOf_length]) (fun i hi => ?_) dst hd
  rw [Nat.zero_add, cell h i hi, if_pos hi]
  have : (bytesOf s).getD i 0 = bt s i := by rw [← rd_bytesOf]; rfl
  have hl : i < (bytesOf s).length := by rw [bytesOf_length]; exact hi
  rw [List.getD_eq_getElem?_getD, List.getElem?_map, List.getElem?_eq_getElem hl] at *
  simp at this ⊢
  rw [this]
theorem byte_hi (s : ByteArray) (k : Nat) : 0 ≤ bt s k ∧ bt s k ≤ 255 := bt_range s k
theorem lo_up {c : Int} (h : 65 ≤ c) (h2 : c ≤ 90) : loC c = c + 32 := by unfold loC; rw [if_pos ⟨h, h2⟩]
theorem lo_not {c : Int} (h : ¬ (65 ≤ c ∧ c ≤ 90)) : loC c = c := by unfold loC; rw [if_neg h]
end Go.Proofs.YtijcibdpcolfpaaDoor.Low
