-- Written by a program of this session (wip/tools/myprint.sh)
import Derived.Test.YtomofacchnmepaaDoorPRecordClosesx0
import Derived.Test.YtomofacchnmepaaDoorPRecordClosesx1
import Derived.Test.YtomofacchnmepaaDoorPRecordClosesx2
import Derived.Test.YtomofacchnmepaaDoorPRecordClosesx3
import Derived.Test.YtomofacchnmepaaDoorPRecordClosesx4
import Derived.Test.YtomofacchnmepaaDoorPRecordClosesx5
import Derived.Test.YtomofacchnmepaaDoorPRecordClosesx6
namespace Go.Proofs.YtomofacchnmepaaDoor.PRecordCloses
open Go.RowKit Go.Proofs.YtomofacchnmepaaDoorW.PrintWords Go.Proofs.YtomofacchnmepaaDoorW.PrintLast Go.Proofs.YtomofacchnmepaaDoorW.PrintMore
attribute [local go_sem] max2_int min2_int max_two min_two max_three min_three max_four min_four   -- for this text's walks alone
set_option linter.unusedVariables false
set_option linter.unusedSimpArgs false

end Go.Proofs.YtomofacchnmepaaDoor.PRecordCloses
