/- Plain words for texts without some bytes at their ends. -/
import Derived.Test.YtnnehbbfokoklaaWMore
import Derived.Lib.Hide
import Derived.Lib.Bytealg
import Derived.Laws.Strings
namespace Go.Proofs.Ytnnehbbfokoklaa.Trim
open Go.RowKit Go.Proofs.YtnnehbbfokoklaaW.PrintWords Go.Proofs.YtnnehbbfokoklaaW.PrintLast Go.Proofs.YtnnehbbfokoklaaW.PrintMore
def lead (p : Int → Bool) (l : List Int) : Nat := (l.takeWhile p).length
theorem one_byte {s : ByteArray} (h : s.size = 1) : ∃ c : UInt8, s = ⟨#[c]⟩ := by
  obtain ⟨⟨l⟩⟩ := s
  match l, h with
  | [c], _ => exact ⟨c, rfl⟩
end Go.Proofs.Ytnnehbbfokoklaa.Trim
