-- Written by a program of this session (wip/tools/myprint.sh)
import Derived.Test.YtpdkflpkcabhpaaDoorPBase64Tellsx0
import Derived.Test.YtpdkflpkcabhpaaDoorPBase64Tellsx1
import Derived.Test.YtpdkflpkcabhpaaDoorPBase64Tellsx2
import Derived.Test.YtpdkflpkcabhpaaDoorPBase64Tellsx3
namespace Go.Proofs.YtpdkflpkcabhpaaDoor.PBase64Tells
open Go.RowKit Go.Proofs.YtpdkflpkcabhpaaDoorW.PrintWords Go.Proofs.YtpdkflpkcabhpaaDoorW.PrintLast Go.Proofs.YtpdkflpkcabhpaaDoorW.PrintMore
attribute [local go_sem] max2_int min2_int max_two min_two max_three min_three max_four min_four   -- for this text's walks alone
set_option linter.unusedVariables false
set_option linter.unusedSimpArgs false

end Go.Proofs.YtpdkflpkcabhpaaDoor.PBase64Tells
