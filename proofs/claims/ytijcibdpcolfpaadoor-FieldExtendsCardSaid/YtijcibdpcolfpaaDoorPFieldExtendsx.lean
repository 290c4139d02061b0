-- Written by a program of this session (wip/tools/myprint.sh)
import Derived.Test.YtijcibdpcolfpaaDoorPFieldExtendsx0
import Derived.Test.YtijcibdpcolfpaaDoorPFieldExtendsx1
import Derived.Test.YtijcibdpcolfpaaDoorPFieldExtendsx2
import Derived.Test.YtijcibdpcolfpaaDoorPFieldExtendsx3
import Derived.Test.YtijcibdpcolfpaaDoorPFieldExtendsx4
import Derived.Test.YtijcibdpcolfpaaDoorPFieldExtendsx5
namespace Go.Proofs.YtijcibdpcolfpaaDoor.PFieldExtends
open Go.RowKit Go.Proofs.YtijcibdpcolfpaaDoorW.PrintWords Go.Proofs.YtijcibdpcolfpaaDoorW.PrintLast Go.Proofs.YtijcibdpcolfpaaDoorW.PrintMore
attribute [local go_sem] max2_int min2_int max_two min_two max_three min_three max_four min_four   -- for this text's walks alone
set_option linter.unusedVariables false
set_option linter.unusedSimpArgs false

end Go.Proofs.YtijcibdpcolfpaaDoor.PFieldExtends
