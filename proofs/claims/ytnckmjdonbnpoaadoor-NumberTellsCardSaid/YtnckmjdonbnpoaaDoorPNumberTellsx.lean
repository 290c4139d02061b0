-- Written by a program of this session (wip/tools/myprint.sh)
import Derived.Test.YtnckmjdonbnpoaaDoorPNumberTellsx0
import Derived.Test.YtnckmjdonbnpoaaDoorPNumberTellsx1
import Derived.Test.YtnckmjdonbnpoaaDoorPNumberTellsx2
import Derived.Test.YtnckmjdonbnpoaaDoorPNumberTellsx3
import Derived.Test.YtnckmjdonbnpoaaDoorPNumberTellsx4
namespace Go.Proofs.YtnckmjdonbnpoaaDoor.PNumberTells
open Go.RowKit Go.Proofs.YtnckmjdonbnpoaaDoorW.PrintWords Go.Proofs.YtnckmjdonbnpoaaDoorW.PrintLast Go.Proofs.YtnckmjdonbnpoaaDoorW.PrintMore
attribute [local go_sem] max2_int min2_int max_two min_two max_three min_three max_four min_four   -- for this text's walks alone
set_option linter.unusedVariables false
set_option linter.unusedSimpArgs false

end Go.Proofs.YtnckmjdonbnpoaaDoor.PNumberTells
