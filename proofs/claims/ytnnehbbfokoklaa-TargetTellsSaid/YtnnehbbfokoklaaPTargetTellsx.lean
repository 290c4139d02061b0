-- Written by a program of this session (wip/tools/myprint.sh)
import Derived.Test.YtnnehbbfokoklaaPTargetTellsx0
import Derived.Test.YtnnehbbfokoklaaPTargetTellsx1
import Derived.Test.YtnnehbbfokoklaaPTargetTellsx2
import Derived.Test.YtnnehbbfokoklaaPTargetTellsx3
import Derived.Test.YtnnehbbfokoklaaPTargetTellsx4
import Derived.Test.YtnnehbbfokoklaaPTargetTellsx5
import Derived.Test.YtnnehbbfokoklaaPTargetTellsx6
import Derived.Test.YtnnehbbfokoklaaPTargetTellsx7
import Derived.Test.YtnnehbbfokoklaaPTargetTellsx8
import Derived.Test.YtnnehbbfokoklaaPTargetTellsx9
import Derived.Test.YtnnehbbfokoklaaPTargetTellsx10
import Derived.Test.YtnnehbbfokoklaaPTargetTellsx11
import Derived.Test.YtnnehbbfokoklaaPTargetTellsx12
import Derived.Test.YtnnehbbfokoklaaPTargetTellsx13
namespace Go.Proofs.Ytnnehbbfokoklaa.PTargetTells
open Go.RowKit Go.Proofs.YtnnehbbfokoklaaW.PrintWords Go.Proofs.YtnnehbbfokoklaaW.PrintLast Go.Proofs.YtnnehbbfokoklaaW.PrintMore
attribute [local go_sem] max2_int min2_int max_two min_two max_three min_three max_four min_four   -- for this text's walks alone
set_option linter.unusedVariables false
set_option linter.unusedSimpArgs false

end Go.Proofs.Ytnnehbbfokoklaa.PTargetTells
