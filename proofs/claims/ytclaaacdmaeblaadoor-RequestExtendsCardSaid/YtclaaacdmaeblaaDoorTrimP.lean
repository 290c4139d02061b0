/- Plain laws of texts without some bytes at their ends, and of parts. -/
import Derived.Test.YtclaaacdmaeblaaDoorParts
namespace Go.Proofs.YtclaaacdmaeblaaDoor.TrimP
open Go.RowKit Go.Proofs.YtclaaacdmaeblaaDoorW.PrintWords Go.Proofs.YtclaaacdmaeblaaDoorW.PrintLast Go.Proofs.YtclaaacdmaeblaaDoorW.PrintMore Go.Proofs.YtclaaacdmaeblaaDoor.Aid Go.Proofs.YtclaaacdmaeblaaDoor.Parts Go.Proofs.YtclaaacdmaeblaaDoor.Trim
def trimU (q : UInt8 → Bool) (l : List UInt8) : List UInt8 := ((l.dropWhile q).reverse.dropWhile q).reverse
def asU (p : Int → Bool) (b : UInt8) : Bool := p (b.toNat : Int)
theorem lead_map (p : Int → Bool) (l : List UInt8) : lead p (l.map fun b => (b.toNat : Int)) = (l.takeWhile (asU p)).length := by
  unfold lead
  induction l with
  | nil => rfl
  | cons b l ih =>
    rw [List.map_cons, List.takeWhile_cons, List.takeWhile_cons]
    by_cases h : p (b.toNat : Int) = true
    · rw [if_pos h, if_pos (show asU p b = true from h), List.length_cons, List.length_cons, ih]
    · rw [if_neg h, if_neg (show ¬ asU p b = true from h)]; rfl
theorem drop_take_while (q : UInt8 → Bool) (l : List UInt8) : l.drop (l.takeWhile q).length = l.dropWhile q := by
  have h := List.takeWhile_append_dropWhile (p := q) (l := l)
  conv => lhs; rw [← h]
  rw [List.drop_append_of_le_length (by simp)]
  simp
theorem trimL_data (p : Int → Bool) (s : ByteArray) : (trimL p s).data.toList = s.data.toList.dropWhile (asU p) := by
  unfold trimL bytesOf
  rw [ext_data, lead_map, drop_take_while]
  apply List.take_of_length_le
  have h1 := (List.dropWhile_suffix (l := s.data.toList) (asU p)).length_le
  have h2 := lead_le p (bytesOf s)
  have h3 := congrArg List.length (List.takeWhile_append_dropWhile (p := asU p) (l := s.data.toList))
  rw [List.length_append, data_length] at h3
  omega
theorem trimR_data (p : Int → Bool) (s : ByteArray) : (trimR p s).data.toList = (s.data.toList.reverse.dropWhile (asU p)).reverse := by
  unfold trimR bytesOf
  rw [ext_data, ← List.map_reverse, lead_map, List.drop_zero, Nat.sub_zero, ← drop_take_while, List.reverse_drop, List.reverse_reverse, List.length_reverse, data_length]
theorem trimB_eq (p : Int → Bool) (s : ByteArray) : trimB p s = BA (trimU (asU p) s.data.toList) := by
  apply ba_inj
  rw [data_BA]
  unfold trimB trimU
  rw [trimR_data, trimL_data]
end Go.Proofs.YtclaaacdmaeblaaDoor.TrimP
