-- Written by a program of this session (wip/tools/myprint.sh)
import Derived.Test.YtnnehbbfokoklaaPTargetFormsx0
import Derived.Test.YtnnehbbfokoklaaPTargetFormsx1
import Derived.Test.YtnnehbbfokoklaaPTargetFormsx2
import Derived.Test.YtnnehbbfokoklaaPTargetFormsx3
import Derived.Test.YtnnehbbfokoklaaPTargetFormsx4
import Derived.Test.YtnnehbbfokoklaaPTargetFormsx5
import Derived.Test.YtnnehbbfokoklaaPTargetFormsx6
import Derived.Test.YtnnehbbfokoklaaPTargetFormsx7
namespace Go.Proofs.Ytnnehbbfokoklaa.PTargetForms
open Go.RowKit Go.Proofs.YtnnehbbfokoklaaW.PrintWords Go.Proofs.YtnnehbbfokoklaaW.PrintLast Go.Proofs.YtnnehbbfokoklaaW.PrintMore
attribute [local go_sem] max2_int min2_int max_two min_two max_three min_three max_four min_four   -- for this text's walks alone
set_option linter.unusedVariables false
set_option linter.unusedSimpArgs false

end Go.Proofs.Ytnnehbbfokoklaa.PTargetForms
