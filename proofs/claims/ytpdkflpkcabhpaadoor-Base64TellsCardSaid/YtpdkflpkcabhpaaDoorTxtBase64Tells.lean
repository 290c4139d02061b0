/- What the printed functions of the text layer come to. -/
import Derived.Test.YtpdkflpkcabhpaaDoorPBase64Tellsx
import Derived.Test.YtpdkflpkcabhpaaDoorParts
import Derived.Test.YtpdkflpkcabhpaaDoorLowP
import Derived.Test.YtpdkflpkcabhpaaDoorTrimP
import Derived.Test.YtpdkflpkcabhpaaDoorHex
namespace Go.Proofs.YtpdkflpkcabhpaaDoor.PBase64Tells
open Go.RowKit Go.Proofs.YtpdkflpkcabhpaaDoorW.PrintWords Go.Proofs.YtpdkflpkcabhpaaDoorW.PrintLast Go.Proofs.YtpdkflpkcabhpaaDoorW.PrintMore Go.Proofs.YtpdkflpkcabhpaaDoor.Aid Go.Proofs.YtpdkflpkcabhpaaDoor.Parts
set_option linter.unusedVariables false
set_option linter.unusedSimpArgs false

theorem rdOf_mem (l : List ByteArray) (j : Nat) (h : j < l.length) : rdOf ByteArray.empty l (j : Int) ∈ l := by
  unfold rdOf; simp [List.getD_eq_getElem?_getD, h]
theorem known_ev : Ev (fun k => parallaxlaw22_known.f k) true := Ev.of (fun k => parallaxlaw22_known.mono k) (k := 40) (by decide +kernel)
end Go.Proofs.YtpdkflpkcabhpaaDoor.PBase64Tells
