-- Written by a program of this session (wip/tools/myprint.sh)
import Derived.Test.YtjpgnkkfkkpheaaDoorPTextTellsx0
import Derived.Test.YtjpgnkkfkkpheaaDoorPTextTellsx1
import Derived.Test.YtjpgnkkfkkpheaaDoorPTextTellsx2
import Derived.Test.YtjpgnkkfkkpheaaDoorPTextTellsx3
import Derived.Test.YtjpgnkkfkkpheaaDoorPTextTellsx4
import Derived.Test.YtjpgnkkfkkpheaaDoorPTextTellsx5
namespace Go.Proofs.YtjpgnkkfkkpheaaDoor.PTextTells
open Go.RowKit Go.Proofs.YtjpgnkkfkkpheaaDoorW.PrintWords Go.Proofs.YtjpgnkkfkkpheaaDoorW.PrintLast Go.Proofs.YtjpgnkkfkkpheaaDoorW.PrintMore
attribute [local go_sem] max2_int min2_int max_two min_two max_three min_three max_four min_four   -- for this text's walks alone
set_option linter.unusedVariables false
set_option linter.unusedSimpArgs false

end Go.Proofs.YtjpgnkkfkkpheaaDoor.PTextTells
