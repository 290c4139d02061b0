/- Plain laws of small letters. -/
import Derived.Test.YtlheepfjdmhplaaDoorLow
import Derived.Test.YtlheepfjdmhplaaDoorHand
import Derived.Test.YtlheepfjdmhplaaDoorParts
namespace Go.Proofs.YtlheepfjdmhplaaDoor.LowP
open Go.RowKit Go.Proofs.YtlheepfjdmhplaaDoorW.PrintWords Go.Proofs.YtlheepfjdmhplaaDoorW.PrintLast Go.Proofs.YtlheepfjdmhplaaDoorW.PrintMore Go.Proofs.YtlheepfjdmhplaaDoor.Low Go.Proofs.YtlheepfjdmhplaaDoor.Aid Go.Proofs.YtlheepfjdmhplaaDoor.Hand

theorem nat_u8 {x : Int} (h0 : 0 ≤ x) (h1 : x < 256) : ((UInt8.ofNat x.toNat).toNat : Int) = x := by
  rw [UInt8.toNat_ofNat_of_lt' (by show x.toNat < 256; omega)]; omega
theorem bytes_nums {l : List Int} (h : ∀ x ∈ l, 0 ≤ x ∧ x < 256) : bytesOf (strOfNums l) = l := by
  unfold bytesOf
  rw [strOfNums_data, List.map_map]
  rw [List.map_congr_left (g := id) (fun x hx => by have := h x hx; exact nat_u8 this.1 this.2), List.map_id]
end Go.Proofs.YtlheepfjdmhplaaDoor.LowP
