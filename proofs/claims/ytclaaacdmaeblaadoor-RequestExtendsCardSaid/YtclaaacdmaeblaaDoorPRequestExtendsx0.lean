-- Written by a program of this session (wip/tools/myprint.sh)
import Derived.Test.YtclaaacdmaeblaaDoorProg
import Derived.Below
import Derived.Deep.Draws
import Derived.Deep.AppendLies
import Derived.Maps.AppendAt
import Derived.OwnWalk
import Derived.Laws.BytesArg
import Derived.Laws.MakeOwn
import Derived.Laws.OwnMore
import Derived.Deep.OwnRows
import Derived.Tactics
import Derived.Lib.ConvBytes
import Derived.Laws.Slices
import Derived.WalkKit
import Derived.KernelRfl
import Derived.RowKit3
import Derived.Deep.LoopGhost
import Derived.Deep.QuietTactic
import Derived.BigQuiet
import Derived.WideLaws
import Derived.Deep.DeepCutAuto
import Derived.Deep.CutBlock
import Derived.Deep.RegionHeld3
import Derived.Laws.Rows
import Derived.Lib.AppendStr
import Derived.ArgAppend
import Derived.Laws.IdiomCopy
import Derived.OrdersHeld
import Derived.Laws.BitsLemmas
import Derived.RowKit
import Derived.Test.YtclaaacdmaeblaaDoorShelf
import Derived.Test.YtclaaacdmaeblaaDoorHand
import Derived.Test.YtclaaacdmaeblaaDoorMark
import Derived.Test.YtclaaacdmaeblaaDoorWWords
import Derived.Test.YtclaaacdmaeblaaDoorWLast
import Derived.Test.YtclaaacdmaeblaaDoorWTab
import Derived.Test.YtclaaacdmaeblaaDoorWFour
import Derived.Test.YtclaaacdmaeblaaDoorWQPut
import Derived.Test.YtclaaacdmaeblaaDoorWApart
import Derived.Test.YtclaaacdmaeblaaDoorWArr
import Derived.Test.YtclaaacdmaeblaaDoorWZeros
import Derived.Test.YtclaaacdmaeblaaDoorWFoot
import Derived.Test.YtclaaacdmaeblaaDoorWKept
import Derived.Test.YtclaaacdmaeblaaDoorWShare
import Derived.Test.YtclaaacdmaeblaaDoorWN
import Derived.Test.YtclaaacdmaeblaaDoorWFootNe
import Derived.Test.YtclaaacdmaeblaaDoorWAt
import Derived.Test.YtclaaacdmaeblaaDoorWEqStruct
import Derived.Test.YtclaaacdmaeblaaDoorWRepsOne
import Derived.Test.YtclaaacdmaeblaaDoorWInv
import Derived.Test.YtclaaacdmaeblaaDoorWInvWords
import Derived.Test.YtclaaacdmaeblaaDoorWGuard
import Derived.Test.YtclaaacdmaeblaaDoorWNEv
import Derived.Test.YtclaaacdmaeblaaDoorWMore
namespace Go.Proofs.YtclaaacdmaeblaaDoor.PRequestExtends
open Go.RowKit Go.Proofs.YtclaaacdmaeblaaDoorW.PrintWords Go.Proofs.YtclaaacdmaeblaaDoorW.PrintLast Go.Proofs.YtclaaacdmaeblaaDoorW.PrintMore
attribute [local go_sem] max2_int min2_int max_two min_two max_three min_three max_four min_four   -- for this text's walks alone
set_option linter.unusedVariables false
set_option linter.unusedSimpArgs false



def errW : Option Int → Value
  | none => .nilIface
  | some c => .iface 0 (.int .i64 c)
theorem errW_none : errW none = .nilIface := rfl
theorem errW_some (c : Int) : errW (some c) = .iface 0 (.int .i64 c) := rfl

theorem info3 : (Tryd.prog.info? 3).map (fun i => (i.zero, i.size, i.bytes)) = some (some (.int .i64 0), 1, 8) := by kernel_rfl
theorem info9 : (Tryd.prog.info? 9).map (fun i => (i.zero, i.size, i.bytes)) = some (some (.string ⟨#[]⟩), 1, 16) := by kernel_rfl
-- the values' own types

end Go.Proofs.YtclaaacdmaeblaaDoor.PRequestExtends
