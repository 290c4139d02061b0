-- Written by a program of this session (wip/tools/myprint.sh)
import Derived.Test.YtjpgnkkfkkpheaaDoorPTextFieldsx0
import Derived.Test.YtjpgnkkfkkpheaaDoorPTextFieldsx1
import Derived.Test.YtjpgnkkfkkpheaaDoorPTextFieldsx2
import Derived.Test.YtjpgnkkfkkpheaaDoorPTextFieldsx3
import Derived.Test.YtjpgnkkfkkpheaaDoorPTextFieldsx4
import Derived.Test.YtjpgnkkfkkpheaaDoorPTextFieldsx5
namespace Go.Proofs.YtjpgnkkfkkpheaaDoor.PTextFields
open Go.RowKit Go.Proofs.YtjpgnkkfkkpheaaDoorW.PrintWords Go.Proofs.YtjpgnkkfkkpheaaDoorW.PrintLast Go.Proofs.YtjpgnkkfkkpheaaDoorW.PrintMore
attribute [local go_sem] max2_int min2_int max_two min_two max_three min_three max_four min_four   -- for this text's walks alone
set_option linter.unusedVariables false
set_option linter.unusedSimpArgs false

end Go.Proofs.YtjpgnkkfkkpheaaDoor.PTextFields
