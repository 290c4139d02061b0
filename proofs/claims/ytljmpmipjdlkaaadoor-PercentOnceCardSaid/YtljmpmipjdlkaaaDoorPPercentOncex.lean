-- Written by a program of this session (wip/tools/myprint.sh)
import Derived.Test.YtljmpmipjdlkaaaDoorPPercentOncex0
import Derived.Test.YtljmpmipjdlkaaaDoorPPercentOncex1
import Derived.Test.YtljmpmipjdlkaaaDoorPPercentOncex2
import Derived.Test.YtljmpmipjdlkaaaDoorPPercentOncex3
import Derived.Test.YtljmpmipjdlkaaaDoorPPercentOncex4
import Derived.Test.YtljmpmipjdlkaaaDoorPPercentOncex5
namespace Go.Proofs.YtljmpmipjdlkaaaDoor.PPercentOnce
open Go.RowKit Go.Proofs.YtljmpmipjdlkaaaDoorW.PrintWords Go.Proofs.YtljmpmipjdlkaaaDoorW.PrintLast Go.Proofs.YtljmpmipjdlkaaaDoorW.PrintMore
attribute [local go_sem] max2_int min2_int max_two min_two max_three min_three max_four min_four   -- for this text's walks alone
set_option linter.unusedVariables false
set_option linter.unusedSimpArgs false

end Go.Proofs.YtljmpmipjdlkaaaDoor.PPercentOnce
