-- Written by a program of this session (wip/tools/myprint.sh)
import Derived.Test.YtnnehbbfokoklaaPTargetHostsx0
import Derived.Test.YtnnehbbfokoklaaPTargetHostsx1
import Derived.Test.YtnnehbbfokoklaaPTargetHostsx2
import Derived.Test.YtnnehbbfokoklaaPTargetHostsx3
import Derived.Test.YtnnehbbfokoklaaPTargetHostsx4
import Derived.Test.YtnnehbbfokoklaaPTargetHostsx5
import Derived.Test.YtnnehbbfokoklaaPTargetHostsx6
namespace Go.Proofs.Ytnnehbbfokoklaa.PTargetHosts
open Go.RowKit Go.Proofs.YtnnehbbfokoklaaW.PrintWords Go.Proofs.YtnnehbbfokoklaaW.PrintLast Go.Proofs.YtnnehbbfokoklaaW.PrintMore
attribute [local go_sem] max2_int min2_int max_two min_two max_three min_three max_four min_four   -- for this text's walks alone
set_option linter.unusedVariables false
set_option linter.unusedSimpArgs false

end Go.Proofs.Ytnnehbbfokoklaa.PTargetHosts
