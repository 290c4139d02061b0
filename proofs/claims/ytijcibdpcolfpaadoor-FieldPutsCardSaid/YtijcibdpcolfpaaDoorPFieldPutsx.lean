-- Written by a program of this session (wip/tools/myprint.sh)
import Derived.Test.YtijcibdpcolfpaaDoorPFieldPutsx0
import Derived.Test.YtijcibdpcolfpaaDoorPFieldPutsx1
import Derived.Test.YtijcibdpcolfpaaDoorPFieldPutsx2
import Derived.Test.YtijcibdpcolfpaaDoorPFieldPutsx3
import Derived.Test.YtijcibdpcolfpaaDoorPFieldPutsx4
import Derived.Test.YtijcibdpcolfpaaDoorPFieldPutsx5
namespace Go.Proofs.YtijcibdpcolfpaaDoor.PFieldPuts
open Go.RowKit Go.Proofs.YtijcibdpcolfpaaDoorW.PrintWords Go.Proofs.YtijcibdpcolfpaaDoorW.PrintLast Go.Proofs.YtijcibdpcolfpaaDoorW.PrintMore
attribute [local go_sem] max2_int min2_int max_two min_two max_three min_three max_four min_four   -- for this text's walks alone
set_option linter.unusedVariables false
set_option linter.unusedSimpArgs false

end Go.Proofs.YtijcibdpcolfpaaDoor.PFieldPuts
