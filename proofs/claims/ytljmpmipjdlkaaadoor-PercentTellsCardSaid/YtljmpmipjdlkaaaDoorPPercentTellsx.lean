-- Written by a program of this session (wip/tools/myprint.sh)
import Derived.Test.YtljmpmipjdlkaaaDoorPPercentTellsx0
import Derived.Test.YtljmpmipjdlkaaaDoorPPercentTellsx1
import Derived.Test.YtljmpmipjdlkaaaDoorPPercentTellsx2
import Derived.Test.YtljmpmipjdlkaaaDoorPPercentTellsx3
import Derived.Test.YtljmpmipjdlkaaaDoorPPercentTellsx4
import Derived.Test.YtljmpmipjdlkaaaDoorPPercentTellsx5
import Derived.Test.YtljmpmipjdlkaaaDoorPPercentTellsx6
import Derived.Test.YtljmpmipjdlkaaaDoorPPercentTellsx7
import Derived.Test.YtljmpmipjdlkaaaDoorPPercentTellsx8
import Derived.Test.YtljmpmipjdlkaaaDoorPPercentTellsx9
namespace Go.Proofs.YtljmpmipjdlkaaaDoor.PPercentTells
open Go.RowKit Go.Proofs.YtljmpmipjdlkaaaDoorW.PrintWords Go.Proofs.YtljmpmipjdlkaaaDoorW.PrintLast Go.Proofs.YtljmpmipjdlkaaaDoorW.PrintMore
attribute [local go_sem] max2_int min2_int max_two min_two max_three min_three max_four min_four   -- for this text's walks alone
set_option linter.unusedVariables false
set_option linter.unusedSimpArgs false

end Go.Proofs.YtljmpmipjdlkaaaDoor.PPercentTells
