-- Written by a program of this session (wip/tools/myprint.sh)
import Derived.Test.YtfmpajagkjealaaDoorPHopNamedx0
import Derived.Test.YtfmpajagkjealaaDoorPHopNamedx1
import Derived.Test.YtfmpajagkjealaaDoorPHopNamedx2
import Derived.Test.YtfmpajagkjealaaDoorPHopNamedx3
import Derived.Test.YtfmpajagkjealaaDoorPHopNamedx4
import Derived.Test.YtfmpajagkjealaaDoorPHopNamedx5
namespace Go.Proofs.YtfmpajagkjealaaDoor.PHopNamed
open Go.RowKit Go.Proofs.YtfmpajagkjealaaDoorW.PrintWords Go.Proofs.YtfmpajagkjealaaDoorW.PrintLast Go.Proofs.YtfmpajagkjealaaDoorW.PrintMore
attribute [local go_sem] max2_int min2_int max_two min_two max_three min_three max_four min_four   -- for this text's walks alone
set_option linter.unusedVariables false
set_option linter.unusedSimpArgs false

end Go.Proofs.YtfmpajagkjealaaDoor.PHopNamed
