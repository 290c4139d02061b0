/- Plain laws of texts without some bytes at their ends, and of parts. -/
import Derived.Test.YtlheepfjdmhplaaDoorParts
namespace Go.Proofs.YtlheepfjdmhplaaDoor.TrimP
open Go.RowKit Go.Proofs.YtlheepfjdmhplaaDoorW.PrintWords Go.Proofs.YtlheepfjdmhplaaDoorW.PrintLast Go.Proofs.YtlheepfjdmhplaaDoorW.PrintMore Go.Proofs.YtlheepfjdmhplaaDoor.Aid Go.Proofs.YtlheepfjdmhplaaDoor.Parts Go.Proofs.YtlheepfjdmhplaaDoor.Trim

theorem drop_take_while (q : UInt8 → Bool) (l : List UInt8) : l.drop (l.takeWhile q).length = l.dropWhile q := by
  have h := List.takeWhile_append_dropWhile (p := q) (l := l)
  conv => lhs; rw [← h]
  rw [List.drop_append_of_le_length (by simp)]
  simp
end Go.Proofs.YtlheepfjdmhplaaDoor.TrimP
