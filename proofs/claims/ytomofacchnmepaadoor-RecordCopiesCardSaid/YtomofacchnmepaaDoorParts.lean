/- Plain words for a text's parts between signs of one kind. -/
import Derived.Test.YtomofacchnmepaaDoorAid
import Derived.Test.YtomofacchnmepaaDoorTrim
import Derived.Lib.Bytealg
namespace Go.Proofs.YtomofacchnmepaaDoor.Parts
open Go.RowKit Go.Proofs.YtomofacchnmepaaDoorW.PrintWords Go.Proofs.YtomofacchnmepaaDoorW.PrintLast Go.Proofs.YtomofacchnmepaaDoorW.PrintMore
def BA (l : List UInt8) : ByteArray := ⟨l.toArray⟩
theorem BA_data (s : ByteArray) : BA s.data.toList = s := by unfold BA; simp
theorem ba_inj {a b : ByteArray} (h : a.data.toList = b.data.toList) : a = b := by rw [← BA_data a, ← BA_data b, h]
def splitU (c : UInt8) : List UInt8 → List (List UInt8)
  | [] => [[]]
  | b :: l => if b = c then [] :: splitU c l else match splitU c l with | [] => [[b]] | h :: t => (b :: h) :: t
def parts (c : UInt8) (s : ByteArray) : List ByteArray := (splitU c s.data.toList).map BA
end Go.Proofs.YtomofacchnmepaaDoor.Parts
