-- Written by a program of this session (wip/tools/myprint.sh)
import Derived.Test.YtjnphebgbdjohaaDoorProg
import Derived.Below
import Derived.Deep.Draws
import Derived.Deep.AppendLies
import Derived.Maps.AppendAt
import Derived.OwnWalk
import Derived.Laws.BytesArg
import Derived.Laws.MakeOwn
import Derived.Laws.OwnMore
import Derived.Deep.OwnRows
import Derived.Tactics
import Derived.Lib.ConvBytes
import Derived.Laws.Slices
import Derived.WalkKit
import Derived.KernelRfl
import Derived.RowKit3
import Derived.Deep.LoopGhost
import Derived.Deep.QuietTactic
import Derived.BigQuiet
import Derived.WideLaws
import Derived.Deep.DeepCutAuto
import Derived.Deep.CutBlock
import Derived.Deep.RegionHeld3
import Derived.Laws.Rows
import Derived.Lib.AppendStr
import Derived.ArgAppend
import Derived.Laws.IdiomCopy
import Derived.OrdersHeld
import Derived.Laws.BitsLemmas
import Derived.RowKit
import Derived.Test.YtjnphebgbdjohaaDoorShelf
import Derived.Test.YtjnphebgbdjohaaDoorHand
import Derived.Test.YtjnphebgbdjohaaDoorLaid
import Derived.Test.YtjnphebgbdjohaaDoorMark
import Derived.Test.YtjnphebgbdjohaaDoorWWords
import Derived.Test.YtjnphebgbdjohaaDoorWLast
import Derived.Test.YtjnphebgbdjohaaDoorWTab
import Derived.Test.YtjnphebgbdjohaaDoorWFour
import Derived.Test.YtjnphebgbdjohaaDoorWQPut
import Derived.Test.YtjnphebgbdjohaaDoorWApart
import Derived.Test.YtjnphebgbdjohaaDoorWArr
import Derived.Test.YtjnphebgbdjohaaDoorWZeros
import Derived.Test.YtjnphebgbdjohaaDoorWFoot
import Derived.Test.YtjnphebgbdjohaaDoorWKept
import Derived.Test.YtjnphebgbdjohaaDoorWShare
import Derived.Test.YtjnphebgbdjohaaDoorWN
import Derived.Test.YtjnphebgbdjohaaDoorWFootNe
import Derived.Test.YtjnphebgbdjohaaDoorWAt
import Derived.Test.YtjnphebgbdjohaaDoorWEqStruct
import Derived.Test.YtjnphebgbdjohaaDoorWRepsOne
import Derived.Test.YtjnphebgbdjohaaDoorWInv
import Derived.Test.YtjnphebgbdjohaaDoorWInvWords
import Derived.Test.YtjnphebgbdjohaaDoorWGuard
import Derived.Test.YtjnphebgbdjohaaDoorWNEv
import Derived.Test.YtjnphebgbdjohaaDoorWMore
namespace Go.Proofs.YtjnphebgbdjohaaDoor.PQuirksNames
open Go.RowKit Go.Proofs.YtjnphebgbdjohaaDoorW.PrintWords Go.Proofs.YtjnphebgbdjohaaDoorW.PrintLast Go.Proofs.YtjnphebgbdjohaaDoorW.PrintMore
attribute [local go_sem] max2_int min2_int max_two min_two max_three min_three max_four min_four   -- for this text's walks alone
set_option linter.unusedVariables false
set_option linter.unusedSimpArgs false



def errW : Option Int → Value
  | none => .nilIface
  | some c => .iface 0 (.int .i64 c)
theorem errW_none : errW none = .nilIface := rfl
theorem errW_some (c : Int) : errW (some c) = .iface 0 (.int .i64 c) := rfl

theorem info3 : (Tryd.prog.info? 3).map (fun i => (i.zero, i.size, i.bytes)) = some (some (.int .i64 0), 1, 8) := by kernel_rfl
theorem info5 : (Tryd.prog.info? 5).map (fun i => (i.zero, i.size, i.bytes)) = some (some (.int .u8 0), 1, 1) := by kernel_rfl
-- the values' own types

end Go.Proofs.YtjnphebgbdjohaaDoor.PQuirksNames
