-- Written by a program of this session (wip/tools/myprint.sh)
import Derived.Test.YtljmpmipjdlkaaaDoorProg
import Derived.Below
import Derived.Deep.Draws
import Derived.Deep.AppendLies
import Derived.Maps.AppendAt
import Derived.OwnWalk
import Derived.Laws.BytesArg
import Derived.Laws.MakeOwn
import Derived.Laws.OwnMore
import Derived.Deep.OwnRows
import Derived.Tactics
import Derived.Lib.ConvBytes
import Derived.Laws.Slices
import Derived.WalkKit
import Derived.KernelRfl
import Derived.RowKit3
import Derived.Deep.LoopGhost
import Derived.Deep.QuietTactic
import Derived.BigQuiet
import Derived.WideLaws
import Derived.Deep.DeepCutAuto
import Derived.Deep.CutBlock
import Derived.Deep.RegionHeld3
import Derived.Laws.Rows
import Derived.Lib.AppendStr
import Derived.ArgAppend
import Derived.Laws.IdiomCopy
import Derived.OrdersHeld
import Derived.Laws.BitsLemmas
import Derived.RowKit
import Derived.Test.YtljmpmipjdlkaaaDoorShelf
import Derived.Test.YtljmpmipjdlkaaaDoorHand
import Derived.Test.YtljmpmipjdlkaaaDoorMark
import Derived.Test.YtljmpmipjdlkaaaDoorBld
import Derived.Test.YtljmpmipjdlkaaaDoorWWords
import Derived.Test.YtljmpmipjdlkaaaDoorWLast
import Derived.Test.YtljmpmipjdlkaaaDoorWTab
import Derived.Test.YtljmpmipjdlkaaaDoorWFour
import Derived.Test.YtljmpmipjdlkaaaDoorWQPut
import Derived.Test.YtljmpmipjdlkaaaDoorWApart
import Derived.Test.YtljmpmipjdlkaaaDoorWArr
import Derived.Test.YtljmpmipjdlkaaaDoorWZeros
import Derived.Test.YtljmpmipjdlkaaaDoorWFoot
import Derived.Test.YtljmpmipjdlkaaaDoorWKept
import Derived.Test.YtljmpmipjdlkaaaDoorWShare
import Derived.Test.YtljmpmipjdlkaaaDoorWN
import Derived.Test.YtljmpmipjdlkaaaDoorWFootNe
import Derived.Test.YtljmpmipjdlkaaaDoorWAt
import Derived.Test.YtljmpmipjdlkaaaDoorWEqStruct
import Derived.Test.YtljmpmipjdlkaaaDoorWRepsOne
import Derived.Test.YtljmpmipjdlkaaaDoorWInv
import Derived.Test.YtljmpmipjdlkaaaDoorWInvWords
import Derived.Test.YtljmpmipjdlkaaaDoorWGuard
import Derived.Test.YtljmpmipjdlkaaaDoorWNEv
import Derived.Test.YtljmpmipjdlkaaaDoorWMore
namespace Go.Proofs.YtljmpmipjdlkaaaDoor.PPercentOnce
open Go.RowKit Go.Proofs.YtljmpmipjdlkaaaDoorW.PrintWords Go.Proofs.YtljmpmipjdlkaaaDoorW.PrintLast Go.Proofs.YtljmpmipjdlkaaaDoorW.PrintMore
attribute [local go_sem] max2_int min2_int max_two min_two max_three min_three max_four min_four   -- for this text's walks alone
set_option linter.unusedVariables false
set_option linter.unusedSimpArgs false



def errW : Option Int → Value
  | none => .nilIface
  | some c => .iface 0 (.int .i64 c)
theorem errW_none : errW none = .nilIface := rfl
theorem errW_some (c : Int) : errW (some c) = .iface 0 (.int .i64 c) := rfl

theorem info3 : (Tryd.prog.info? 3).map (fun i => (i.zero, i.size, i.bytes)) = some (some (.int .i64 0), 1, 8) := by kernel_rfl
theorem info5 : (Tryd.prog.info? 5).map (fun i => (i.zero, i.size, i.bytes)) = some (some (.int .u8 0), 1, 1) := by kernel_rfl
theorem info9 : (Tryd.prog.info? 9).map (fun i => (i.zero, i.size, i.bytes)) = some (some (.string ⟨#[]⟩), 1, 16) := by kernel_rfl
-- the values' own types

end Go.Proofs.YtljmpmipjdlkaaaDoor.PPercentOnce
