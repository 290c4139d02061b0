-- Written by a program of this session (wip/tools/myprint.sh)
import Derived.Test.YtomofacchnmepaaDoorPRecordCopiesx0
import Derived.Test.YtomofacchnmepaaDoorPRecordCopiesx1
import Derived.Test.YtomofacchnmepaaDoorPRecordCopiesx2
import Derived.Test.YtomofacchnmepaaDoorPRecordCopiesx3
import Derived.Test.YtomofacchnmepaaDoorPRecordCopiesx4
import Derived.Test.YtomofacchnmepaaDoorPRecordCopiesx5
import Derived.Test.YtomofacchnmepaaDoorPRecordCopiesx6
import Derived.Test.YtomofacchnmepaaDoorPRecordCopiesx7
import Derived.Test.YtomofacchnmepaaDoorPRecordCopiesx8
import Derived.Test.YtomofacchnmepaaDoorPRecordCopiesx9
import Derived.Test.YtomofacchnmepaaDoorPRecordCopiesx10
namespace Go.Proofs.YtomofacchnmepaaDoor.PRecordCopies
open Go.RowKit Go.Proofs.YtomofacchnmepaaDoorW.PrintWords Go.Proofs.YtomofacchnmepaaDoorW.PrintLast Go.Proofs.YtomofacchnmepaaDoorW.PrintMore
attribute [local go_sem] max2_int min2_int max_two min_two max_three min_three max_four min_four   -- for this text's walks alone
set_option linter.unusedVariables false
set_option linter.unusedSimpArgs false

end Go.Proofs.YtomofacchnmepaaDoor.PRecordCopies
