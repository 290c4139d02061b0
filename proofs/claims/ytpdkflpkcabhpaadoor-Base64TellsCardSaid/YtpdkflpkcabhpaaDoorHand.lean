/- The contracts of functions that the printer does not take, walked by hand: small letters, texts without some bytes at their ends, .. -/
import Derived.Test.YtpdkflpkcabhpaaDoorShelf
import Derived.Test.YtpdkflpkcabhpaaDoorLow
import Derived.Test.YtpdkflpkcabhpaaDoorTrim
import Derived.Test.YtpdkflpkcabhpaaDoorHex
import Derived.WalkKit
import Derived.LoopTactic
import Derived.Below
import Derived.Laws.Bits64b
import Derived.Lib.SliceRun
namespace Go.Proofs.YtpdkflpkcabhpaaDoor.Hand
open Go.RowKit Go.Proofs.YtpdkflpkcabhpaaDoorW.PrintWords Go.Proofs.YtpdkflpkcabhpaaDoorW.PrintLast Go.Proofs.YtpdkflpkcabhpaaDoorW.PrintMore
set_option linter.unusedVariables false
set_option linter.unusedSimpArgs false
def RelLow (s : ByteArray) (w : World) (k : Nat) (W : World) : Prop := Low.LowRow s k w.heap.size 5 W ∧ Below w.heap.size w W
def sameB (a b : ByteArray) : Bool := (Low.lower a).toList == (Low.lower b).toList

end Go.Proofs.YtpdkflpkcabhpaaDoor.Hand
