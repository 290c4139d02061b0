-- Written by a program of this session (wip/tools/myprint.sh)
import Derived.Test.YtjnphebgbdjohaaProg
import Derived.Below
import Derived.Deep.Draws
import Derived.Deep.AppendLies
import Derived.Maps.AppendAt
import Derived.OwnWalk
import Derived.Laws.BytesArg
import Derived.Laws.MakeOwn
import Derived.Laws.OwnMore
import Derived.Deep.OwnRows
import Derived.Tactics
import Derived.Lib.ConvBytes
import Derived.Laws.Slices
import Derived.WalkKit
import Derived.KernelRfl
import Derived.RowKit3
import Derived.Deep.LoopGhost
import Derived.Deep.QuietTactic
import Derived.BigQuiet
import Derived.WideLaws
import Derived.Deep.DeepCutAuto
import Derived.Deep.CutBlock
import Derived.Deep.RegionHeld3
import Derived.Laws.Rows
import Derived.Lib.AppendStr
import Derived.ArgAppend
import Derived.Laws.IdiomCopy
import Derived.OrdersHeld
import Derived.Laws.BitsLemmas
import Derived.RowKit
import Derived.Test.YtjnphebgbdjohaaShelf
import Derived.Test.YtjnphebgbdjohaaWWords
import Derived.Test.YtjnphebgbdjohaaWLast
import Derived.Test.YtjnphebgbdjohaaWTab
import Derived.Test.YtjnphebgbdjohaaWFour
import Derived.Test.YtjnphebgbdjohaaWQPut
import Derived.Test.YtjnphebgbdjohaaWApart
import Derived.Test.YtjnphebgbdjohaaWArr
import Derived.Test.YtjnphebgbdjohaaWZeros
import Derived.Test.YtjnphebgbdjohaaWFoot
import Derived.Test.YtjnphebgbdjohaaWKept
import Derived.Test.YtjnphebgbdjohaaWShare
import Derived.Test.YtjnphebgbdjohaaWN
import Derived.Test.YtjnphebgbdjohaaWFootNe
import Derived.Test.YtjnphebgbdjohaaWAt
import Derived.Test.YtjnphebgbdjohaaWEqStruct
import Derived.Test.YtjnphebgbdjohaaWRepsOne
import Derived.Test.YtjnphebgbdjohaaWInv
import Derived.Test.YtjnphebgbdjohaaWInvWords
import Derived.Test.YtjnphebgbdjohaaWGuard
import Derived.Test.YtjnphebgbdjohaaWNEv
import Derived.Test.YtjnphebgbdjohaaWMore
namespace Go.Proofs.Ytjnphebgbdjohaa.POctetJoins
open Go.RowKit Go.Proofs.YtjnphebgbdjohaaW.PrintWords Go.Proofs.YtjnphebgbdjohaaW.PrintLast Go.Proofs.YtjnphebgbdjohaaW.PrintMore
attribute [local go_sem] max2_int min2_int max_two min_two max_three min_three max_four min_four   -- for this text's walks alone
set_option linter.unusedVariables false
set_option linter.unusedSimpArgs false



def errW : Option Int → Value
  | none => .nilIface
  | some c => .iface 0 (.int .i64 c)
theorem errW_none : errW none = .nilIface := rfl
theorem errW_some (c : Int) : errW (some c) = .iface 0 (.int .i64 c) := rfl

theorem info3 : (Try.prog.info? 3).map (fun i => (i.zero, i.size, i.bytes)) = some (some (.int .i64 0), 1, 8) := by kernel_rfl
-- the values' own types

end Go.Proofs.Ytjnphebgbdjohaa.POctetJoins
