-- Written by a program of this session (wip/tools/myprint.sh)
import Derived.Test.YtjnphebgbdjohaaDoorPQuirksNamesx0
import Derived.Test.YtjnphebgbdjohaaDoorPQuirksNamesx1
import Derived.Test.YtjnphebgbdjohaaDoorPQuirksNamesx2
namespace Go.Proofs.YtjnphebgbdjohaaDoor.PQuirksNames
open Go.RowKit Go.Proofs.YtjnphebgbdjohaaDoorW.PrintWords Go.Proofs.YtjnphebgbdjohaaDoorW.PrintLast Go.Proofs.YtjnphebgbdjohaaDoorW.PrintMore
attribute [local go_sem] max2_int min2_int max_two min_two max_three min_three max_four min_four   -- for this text's walks alone
set_option linter.unusedVariables false
set_option linter.unusedSimpArgs false

end Go.Proofs.YtjnphebgbdjohaaDoor.PQuirksNames
