/- Plain laws of small letters. -/
import Derived.Test.YtijcibdpcolfpaaDoorLow
import Derived.Test.YtijcibdpcolfpaaDoorHand
import Derived.Test.YtijcibdpcolfpaaDoorParts
namespace Go.Proofs.YtijcibdpcolfpaaDoor.LowP
open Go.RowKit Go.Proofs.YtijcibdpcolfpaaDoorW.PrintWords Go.Proofs.YtijcibdpcolfpaaDoorW.PrintLast Go.Proofs.YtijcibdpcolfpaaDoorW.PrintMore Go.Proofs.YtijcibdpcolfpaaDoor.Low Go.Proofs.YtijcibdpcolfpaaDoor.Aid Go.Proofs.YtijcibdpcolfpaaDoor.Hand

theorem nat_u8 {x : Int} (h0 : 0 ≤ x) (h1 : x < 256) : ((UInt8.ofNat x.toNat).toNat : Int) = x := by
  rw [UInt8.toNat_ofNat_of_lt' (by show x.toNat < 256; omega)]; omega
theorem bytes_nums {l : List Int} (h : ∀ x ∈ l, 0 ≤ x ∧ x < 256) : bytesOf (strOfNums l) = l := by
  unfold bytesOf
  rw [strOfNums_data, List.map_map]
  rw [List.map_congr_left (g := id) (fun x hx => by have := h x hx; exact nat_u8 this.1 this.2), List.map_id]
theorem nums_bytes (s : ByteArray) : strOfNums (bytesOf s) = s := by
  apply Parts.ba_inj
  rw [strOfNums_data]; unfold bytesOf
  rw [List.map_map]
  rw [List.map_congr_left (g := id) (fun x _ => by simp), List.map_id]
theorem bytes_inj {a b : ByteArray} (h : bytesOf a = bytesOf b) : a = b := by rw [← nums_bytes a, ← nums_bytes b, h]
theorem lo_range {c : Int} (h : 0 ≤ c ∧ c < 256) : 0 ≤ loC c ∧ loC c < 256 := by unfold loC; split <;> omega
theorem lo_lo (c : Int) : loC (loC c) = loC c := by
  by_cases h : 65 ≤ c ∧ c ≤ 90
  · have : loC c = c + 32 := by unfold loC; rw [if_pos h]
    rw [this]; unfold loC; rw [if_neg (by omega)]
  · have : loC c = c := by unfold loC; rw [if_neg h]
    rw [this, this]
theorem bytes_range (s : ByteArray) : ∀ x ∈ bytesOf s, 0 ≤ x ∧ x < 256 := fun _ hx => bytes_lt s hx
theorem bytes_lower (s : ByteArray) : bytesOf (lower s) = (bytesOf s).map loC := by
  unfold lower
  refine bytes_nums (fun x hx => ?_)
  obtain ⟨c, hc, rfl⟩ := List.mem_map.mp hx
  exact lo_range (bytes_range s c hc)
theorem size_lower (s : ByteArray) : (lower s).size = s.size := by rw [← bytesOf_length, bytes_lower, List.length_map, bytesOf_length]
theorem lower_lower (s : ByteArray) : lower (lower s) = lower s := by
  apply bytes_inj
  rw [bytes_lower, bytes_lower, List.map_map]
  exact List.map_congr_left (fun x _ => lo_lo x)
theorem bt_lower (s : ByteArray) (i : Nat) (h : i < s.size) : bt (lower s) (i : Int) = loC (bt s (i : Int)) := by
  rw [← Trim.bytes_getD, ← Trim.bytes_getD, bytes_lower]
  have hl : i < (bytesOf s).length := by rw [bytesOf_length]; exact h
  simp [List.getD_eq_getElem?_getD, hl]
theorem toList_eq_iff (a b : ByteArray) : a.toList = b.toList ↔ bytesOf a = bytesOf b := by
  constructor
  · intro h
    rw [ByteArray.toList_eq, ByteArray.toList_eq] at h
    unfold bytesOf; rw [h]
  · intro h; rw [bytes_inj h]
theorem same_iff (a b : ByteArray) : sameB a b = true ↔ (bytesOf a).map loC = (bytesOf b).map loC := by
  unfold sameB
  rw [beq_iff_eq, toList_eq_iff, bytes_lower, bytes_lower]
theorem same_refl (a : ByteArray) : sameB a a = true := (same_iff a a).mpr rfl
theorem same_comm (a b : ByteArray) : sameB a b = sameB b a := by
  rw [Bool.eq_iff_iff, same_iff, same_iff]; exact eq_comm
theorem same_decide (a b : ByteArray) : sameB a b = decide ((bytesOf a).map loC = (bytesOf b).map loC) := by
  rw [Bool.eq_iff_iff, same_iff, decide_eq_true_eq]
end Go.Proofs.YtijcibdpcolfpaaDoor.LowP
