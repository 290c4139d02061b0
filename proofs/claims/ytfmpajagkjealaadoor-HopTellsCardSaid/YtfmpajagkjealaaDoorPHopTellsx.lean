-- Written by a program of this session (wip/tools/myprint.sh)
import Derived.Test.YtfmpajagkjealaaDoorPHopTellsx0
import Derived.Test.YtfmpajagkjealaaDoorPHopTellsx1
import Derived.Test.YtfmpajagkjealaaDoorPHopTellsx2
import Derived.Test.YtfmpajagkjealaaDoorPHopTellsx3
import Derived.Test.YtfmpajagkjealaaDoorPHopTellsx4
import Derived.Test.YtfmpajagkjealaaDoorPHopTellsx5
import Derived.Test.YtfmpajagkjealaaDoorPHopTellsx6
namespace Go.Proofs.YtfmpajagkjealaaDoor.PHopTells
open Go.RowKit Go.Proofs.YtfmpajagkjealaaDoorW.PrintWords Go.Proofs.YtfmpajagkjealaaDoorW.PrintLast Go.Proofs.YtfmpajagkjealaaDoorW.PrintMore
attribute [local go_sem] max2_int min2_int max_two min_two max_three min_three max_four min_four   -- for this text's walks alone
set_option linter.unusedVariables false
set_option linter.unusedSimpArgs false

end Go.Proofs.YtfmpajagkjealaaDoor.PHopTells
