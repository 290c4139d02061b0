/- Numbers to the base sixteen, digit by digit from behind: plain words for strconv.FormatInt. -/
import Derived.Test.YtijcibdpcolfpaaDoorWMore
import Derived.Laws.IdiomStrings
import Derived.Laws.BytesArg
import Derived.Lib.Hide
namespace Go.Proofs.YtijcibdpcolfpaaDoor.Hex
open Go.RowKit Go.Proofs.YtijcibdpcolfpaaDoorW.PrintWords Go.Proofs.YtijcibdpcolfpaaDoorW.PrintLast Go.Proofs.YtijcibdpcolfpaaDoorW.PrintMore

/-- a digit's byte -/
def dig (d : Nat) : Int := if d < 10 then 48 + (d : Int) else 87 + (d : Int)
/-- a number's digits to the base sixteen -/
def hexL : Nat → Nat → List Int
  | 0, _ => []
  | f + 1, u => if u < 16 then [dig u] else hexL f (u / 16) ++ [dig (u % 16)]
def hexB (n : Nat) : ByteArray := strOfNums (hexL 17 n)
/-- the digits L stand at the end of the array of 65 cells at block B -/
def HexRow (L : List Int) (B : Nat) (t : TypeId) (W : World) : Prop :=
  ∃ (cur : Array Value), W.heap[B]? = some (.cells cur t (0, 0)) ∧ cur.size = 65 ∧ L.length ≤ 65 ∧ (∀ j, j < 65 → ∃ v : Int, cur[j]? = some (.int .u8 v)) ∧ ∀ j, j < L.length → cur[65 - L.length + j]? = some (.int .u8 (L.getD j 0))
theorem start (w : World) (t : TypeId) : HexRow [] w.heap.size t (w.alloc (.cells (Array.replicate 65 (.int .u8 0)) t)) := by
  refine ⟨Array.replicate 65 (.int .u8 0), ?_, by simp, by simp, fun j hj => ⟨0, ?_⟩, fun j hj => by simp at hj⟩
  · show (w.heap.push _)[w.heap.size]? = _
    simp
  · simp [hj]
theorem size_lt {L : List Int} {B : Nat} {t : TypeId} {W : World} (h : HexRow L B t W) : B < W.heap.size := by
  obtain ⟨cur, hb, _⟩ := h
  rcases Nat.lt_or_ge B W.heap.size with x | x
  · exact x
  · rw [Array.getElem?_eq_none x] at hb; cases hb
theorem cell {L : List Int} {B : Nat} {t : TypeId} {W : World} (h : HexRow L B t W) (j : Nat) (hj : j < 65) : ∃ v : Int, W.cell? ⟨B, j, none⟩ = some (.int .u8 v) := by
  obtain ⟨cur, hb, hs, hl, hv, hc⟩ := h
  rw [cell_of_row W B j cur t _ hb]; exact hv j hj
theorem free {L : List Int} {B : Nat} {t : TypeId} {W : World} (h : HexRow L B t W) (j : Nat) : W.frozen? ⟨B, j, none⟩ = false := by
  obtain ⟨cur, hb, hs, hc⟩ := h
  simp [World.frozen?, hb]
theorem store {L : List Int} {B : Nat} {t : TypeId} {W : World} (h : HexRow L B t W) (hl : L.length < 65) (d : Int) : HexRow (d :: L) B t (W.setCell ⟨B, 65 - (L.length + 1), none⟩ (.int .u8 d)) := by
  have hlt := size_lt h
  obtain ⟨cur, hb, hs, _, hv, hc⟩ := h
  refine ⟨cur.setIfInBounds (65 - (L.length + 1)) (.int .u8 d), ?_, by simpa using hs, by simp; omega, fun j hj => ?_, fun j hj => ?_⟩
  · simp [World.setCell, hb, Array.getElem?_modify]
  · by_cases e : j = 65 - (L.length + 1)
    · subst e; exact ⟨d, Array.getElem?_setIfInBounds_self_of_lt (by omega)⟩
    · rw [Array.getElem?_setIfInBounds_ne (by omega)]; exact hv j hj
  · simp only [List.length_cons] at hj ⊢
    cases j with
    | zero => exact Array.getElem?_setIfInBounds_self_of_lt (by omega)
    | succ j =>
      rw [Array.getElem?_setIfInBounds_ne (by omega), show 65 - (L.length + 1) + (j + 1) = 65 - L.length + j by omega, hc j (by omega)]; rfl
theorem string {P : Program} {L : List Int} {B : Nat} {t : TypeId} {W : World} (h : HexRow L B t W) (src dst e : TypeId) (hs : P.underlying src = some (.slice e)) (he : P.underlying e = some (.int .u8)) (hd : P.underlying dst = some .string) (cap : Nat) :
    (convert src dst (.slice (some ⟨B, 65 - L.length, none⟩) L.length cap)).run P W = .ok (.string (strOfNums L)) W := by
  refine run_convert_bytes_arg W src e hs he B (65 - L.length) L.length cap L rfl (fun i hi => ?_) dst hd
  obtain ⟨cur, hb, hz, _, hv, hc⟩ := h
  rw [cell_of_row W B _ cur t _ hb, hc i hi]
theorem hexL_lt (f u : Nat) (h : u < 16) : hexL (f + 1) u = [dig u] := by rw [hexL, if_pos h]
theorem hexL_ge (f u : Nat) (h : ¬ u < 16) : hexL (f + 1) u = hexL f (u / 16) ++ [dig (u % 16)] := by rw [hexL, if_neg h]
theorem dig_range {d : Nat} (h : d < 16) : 0 ≤ dig d ∧ dig d ≤ 255 := by unfold dig; split <;> omega
theorem dig_at : ∀ d : Fin 16, ((⟨#[48, 49, 50, 51, 52, 53, 54, 55, 56, 57, 97, 98, 99, 100, 101, 102, 103, 104, 105, 106, 107, 108, 109, 110, 111, 112, 113, 114, 115, 116, 117, 118, 119, 120, 121, 122]⟩ : ByteArray)[d.val]'(Nat.lt_trans d.isLt (by decide))).toNat = dig d.val := by decide
theorem dig_idx {k : Nat} (h : k < 16) {h2 : k < (⟨#[48, 49, 50, 51, 52, 53, 54, 55, 56, 57, 97, 98, 99, 100, 101, 102, 103, 104, 105, 106, 107, 108, 109, 110, 111, 112, 113, 114, 115, 116, 117, 118, 119, 120, 121, 122]⟩ : ByteArray).size} : (((⟨#[48, 49, 50, 51, 52, 53, 54, 55, 56, 57, 97, 98, 99, 100, 101, 102, 103, 104, 105, 106, 107, 108, 109, 110, 111, 112, 113, 114, 115, 116, 117, 118, 119, 120, 121, 122]⟩ : ByteArray)[k]'h2).toNat : Int) = dig k := dig_at ⟨k, h⟩
end Go.Proofs.YtijcibdpcolfpaaDoor.Hex
