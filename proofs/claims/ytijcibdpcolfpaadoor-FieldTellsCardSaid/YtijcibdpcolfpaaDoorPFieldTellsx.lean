-- Written by a program of this session (wip/tools/myprint.sh)
import Derived.Test.YtijcibdpcolfpaaDoorPFieldTellsx0
import Derived.Test.YtijcibdpcolfpaaDoorPFieldTellsx1
import Derived.Test.YtijcibdpcolfpaaDoorPFieldTellsx2
import Derived.Test.YtijcibdpcolfpaaDoorPFieldTellsx3
import Derived.Test.YtijcibdpcolfpaaDoorPFieldTellsx4
import Derived.Test.YtijcibdpcolfpaaDoorPFieldTellsx5
import Derived.Test.YtijcibdpcolfpaaDoorPFieldTellsx6
import Derived.Test.YtijcibdpcolfpaaDoorPFieldTellsx7
import Derived.Test.YtijcibdpcolfpaaDoorPFieldTellsx8
import Derived.Test.YtijcibdpcolfpaaDoorPFieldTellsx9
import Derived.Test.YtijcibdpcolfpaaDoorPFieldTellsx10
import Derived.Test.YtijcibdpcolfpaaDoorPFieldTellsx11
namespace Go.Proofs.YtijcibdpcolfpaaDoor.PFieldTells
open Go.RowKit Go.Proofs.YtijcibdpcolfpaaDoorW.PrintWords Go.Proofs.YtijcibdpcolfpaaDoorW.PrintLast Go.Proofs.YtijcibdpcolfpaaDoorW.PrintMore
attribute [local go_sem] max2_int min2_int max_two min_two max_three min_three max_four min_four   -- for this text's walks alone
set_option linter.unusedVariables false
set_option linter.unusedSimpArgs false

end Go.Proofs.YtijcibdpcolfpaaDoor.PFieldTells
