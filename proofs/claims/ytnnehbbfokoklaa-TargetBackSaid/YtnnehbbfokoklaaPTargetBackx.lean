-- Written by a program of this session (wip/tools/myprint.sh)
import Derived.Test.YtnnehbbfokoklaaPTargetBackx0
import Derived.Test.YtnnehbbfokoklaaPTargetBackx1
import Derived.Test.YtnnehbbfokoklaaPTargetBackx2
import Derived.Test.YtnnehbbfokoklaaPTargetBackx3
import Derived.Test.YtnnehbbfokoklaaPTargetBackx4
import Derived.Test.YtnnehbbfokoklaaPTargetBackx5
import Derived.Test.YtnnehbbfokoklaaPTargetBackx6
import Derived.Test.YtnnehbbfokoklaaPTargetBackx7
namespace Go.Proofs.Ytnnehbbfokoklaa.PTargetBack
open Go.RowKit Go.Proofs.YtnnehbbfokoklaaW.PrintWords Go.Proofs.YtnnehbbfokoklaaW.PrintLast Go.Proofs.YtnnehbbfokoklaaW.PrintMore
attribute [local go_sem] max2_int min2_int max_two min_two max_three min_three max_four min_four   -- for this text's walks alone
set_option linter.unusedVariables false
set_option linter.unusedSimpArgs false

end Go.Proofs.Ytnnehbbfokoklaa.PTargetBack
