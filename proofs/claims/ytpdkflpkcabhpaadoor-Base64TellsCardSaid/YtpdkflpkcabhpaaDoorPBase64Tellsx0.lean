-- Written by a program of this session (wip/tools/myprint.sh)
import Derived.Test.YtpdkflpkcabhpaaDoorProg
import Derived.Below
import Derived.Deep.Draws
import Derived.Deep.AppendLies
import Derived.Maps.AppendAt
import Derived.OwnWalk
import Derived.Laws.BytesArg
import Derived.Laws.MakeOwn
import Derived.Laws.OwnMore
import Derived.Deep.OwnRows
import Derived.Tactics
import Derived.Lib.ConvBytes
import Derived.Laws.Slices
import Derived.WalkKit
import Derived.KernelRfl
import Derived.RowKit3
import Derived.Deep.LoopGhost
import Derived.Deep.QuietTactic
import Derived.BigQuiet
import Derived.WideLaws
import Derived.Deep.DeepCutAuto
import Derived.Deep.CutBlock
import Derived.Deep.RegionHeld3
import Derived.Laws.Rows
import Derived.Lib.AppendStr
import Derived.ArgAppend
import Derived.Laws.IdiomCopy
import Derived.OrdersHeld
import Derived.Laws.BitsLemmas
import Derived.RowKit
import Derived.Test.YtpdkflpkcabhpaaDoorShelf
import Derived.Test.YtpdkflpkcabhpaaDoorHand
import Derived.Test.YtpdkflpkcabhpaaDoorMark
import Derived.Test.YtpdkflpkcabhpaaDoorBld
import Derived.Test.YtpdkflpkcabhpaaDoorWWords
import Derived.Test.YtpdkflpkcabhpaaDoorWLast
import Derived.Test.YtpdkflpkcabhpaaDoorWTab
import Derived.Test.YtpdkflpkcabhpaaDoorWFour
import Derived.Test.YtpdkflpkcabhpaaDoorWQPut
import Derived.Test.YtpdkflpkcabhpaaDoorWApart
import Derived.Test.YtpdkflpkcabhpaaDoorWArr
import Derived.Test.YtpdkflpkcabhpaaDoorWZeros
import Derived.Test.YtpdkflpkcabhpaaDoorWFoot
import Derived.Test.YtpdkflpkcabhpaaDoorWKept
import Derived.Test.YtpdkflpkcabhpaaDoorWShare
import Derived.Test.YtpdkflpkcabhpaaDoorWN
import Derived.Test.YtpdkflpkcabhpaaDoorWFootNe
import Derived.Test.YtpdkflpkcabhpaaDoorWAt
import Derived.Test.YtpdkflpkcabhpaaDoorWEqStruct
import Derived.Test.YtpdkflpkcabhpaaDoorWRepsOne
import Derived.Test.YtpdkflpkcabhpaaDoorWInv
import Derived.Test.YtpdkflpkcabhpaaDoorWInvWords
import Derived.Test.YtpdkflpkcabhpaaDoorWGuard
import Derived.Test.YtpdkflpkcabhpaaDoorWNEv
import Derived.Test.YtpdkflpkcabhpaaDoorWMore
namespace Go.Proofs.YtpdkflpkcabhpaaDoor.PBase64Tells
open Go.RowKit Go.Proofs.YtpdkflpkcabhpaaDoorW.PrintWords Go.Proofs.YtpdkflpkcabhpaaDoorW.PrintLast Go.Proofs.YtpdkflpkcabhpaaDoorW.PrintMore
attribute [local go_sem] max2_int min2_int max_two min_two max_three min_three max_four min_four   -- for this text's walks alone
set_option linter.unusedVariables false
set_option linter.unusedSimpArgs false



def errW : Option Int → Value
  | none => .nilIface
  | some c => .iface 0 (.int .i64 c)
theorem errW_none : errW none = .nilIface := rfl
theorem errW_some (c : Int) : errW (some c) = .iface 0 (.int .i64 c) := rfl

theorem info5 : (Tryd.prog.info? 5).map (fun i => (i.zero, i.size, i.bytes)) = some (some (.int .u8 0), 1, 1) := by kernel_rfl
theorem info9 : (Tryd.prog.info? 9).map (fun i => (i.zero, i.size, i.bytes)) = some (some (.string ⟨#[]⟩), 1, 16) := by kernel_rfl
-- the values' own types

end Go.Proofs.YtpdkflpkcabhpaaDoor.PBase64Tells
