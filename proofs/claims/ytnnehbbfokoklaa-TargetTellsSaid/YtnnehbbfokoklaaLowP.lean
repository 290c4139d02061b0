/- Plain laws of small letters. -/
import Derived.Test.YtnnehbbfokoklaaLow
import Derived.Test.YtnnehbbfokoklaaHand
import Derived.Test.YtnnehbbfokoklaaParts
namespace Go.Proofs.Ytnnehbbfokoklaa.LowP
open Go.RowKit Go.Proofs.YtnnehbbfokoklaaW.PrintWords Go.Proofs.YtnnehbbfokoklaaW.PrintLast Go.Proofs.YtnnehbbfokoklaaW.PrintMore Go.Proofs.Ytnnehbbfokoklaa.Low Go.Proofs.Ytnnehbbfokoklaa.Aid Go.Proofs.Ytnnehbbfokoklaa.Hand
theorem nat_u8 {x : Int} (h0 : 0 ≤ x) (h1 : x < 256) : ((UInt8.ofNat x.toNat).toNat : Int) = x := by
  rw [UInt8.toNat_ofNat_of_lt' (by show x.toNat < 256; omega)]; omega
theorem bytes_nums {l : List Int} (h : ∀ x ∈ l, 0 ≤ x ∧ x < 256) : bytesOf (strOfNums l) = l := by
  unfold bytesOf
  rw [strOfNums_data, List.map_map]
  rw [List.map_congr_left (g := id) (fun x hx => by have := h x hx; exact nat_u8 this.1 this.2), List.map_id]
theorem nums_bytes (s : ByteArray) : strOfNums (bytesOf s) = s := by
  apply Parts.ba_inj
  rw [strOfNums_data]; unfold bytesOf
  rw [List.map_map]
  rw [List.map_congr_left (g := id) (fun x _ => by simp), List.map_id]
theorem bytes_inj {a b : ByteArray} (h : bytesOf a = bytesOf b) : a = b := by rw [← nums_bytes a, ← nums_bytes b, h]
theorem lo_range {c : Int} (h : 0 ≤ c ∧ c < 256) : 0 ≤ loC c ∧ loC c < 256 := by unfold loC; split <;> omega
theorem bytes_range (s : ByteArray) : ∀ x ∈ bytesOf s, 0 ≤ x ∧ x < 256 := fun _ hx => bytes_lt s hx
theorem bytes_lower (s : ByteArray) : bytesOf (lower s) = (bytesOf s).map loC := by
  unfold lower
  refine bytes_nums (fun x hx => ?_)
  obtain ⟨c, hc, rfl⟩ := List.mem_map.mp hx
  exact lo_range (bytes_range s c hc)
theorem toList_eq_iff (a b : ByteArray) : a.toList = b.toList ↔ bytesOf a = bytesOf b := by
  constructor
  · intro h
    rw [ByteArray.toList_eq, ByteArray.toList_eq] at h
    unfold bytesOf; rw [h]
  · intro h; rw [bytes_inj h]
theorem same_iff (a b : ByteArray) : sameB a b = true ↔ (bytesOf a).map loC = (bytesOf b).map loC := by
  unfold sameB
  rw [beq_iff_eq, toList_eq_iff, bytes_lower, bytes_lower]
end Go.Proofs.Ytnnehbbfokoklaa.LowP
