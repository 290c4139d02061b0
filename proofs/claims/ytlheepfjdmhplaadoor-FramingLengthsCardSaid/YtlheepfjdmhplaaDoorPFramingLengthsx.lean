-- Written by a program of this session (wip/tools/myprint.sh)
import Derived.Test.YtlheepfjdmhplaaDoorPFramingLengthsx0
import Derived.Test.YtlheepfjdmhplaaDoorPFramingLengthsx1
import Derived.Test.YtlheepfjdmhplaaDoorPFramingLengthsx2
import Derived.Test.YtlheepfjdmhplaaDoorPFramingLengthsx3
import Derived.Test.YtlheepfjdmhplaaDoorPFramingLengthsx4
import Derived.Test.YtlheepfjdmhplaaDoorPFramingLengthsx5
import Derived.Test.YtlheepfjdmhplaaDoorPFramingLengthsx6
import Derived.Test.YtlheepfjdmhplaaDoorPFramingLengthsx7
import Derived.Test.YtlheepfjdmhplaaDoorPFramingLengthsx8
namespace Go.Proofs.YtlheepfjdmhplaaDoor.PFramingLengths
open Go.RowKit Go.Proofs.YtlheepfjdmhplaaDoorW.PrintWords Go.Proofs.YtlheepfjdmhplaaDoorW.PrintLast Go.Proofs.YtlheepfjdmhplaaDoorW.PrintMore
attribute [local go_sem] max2_int min2_int max_two min_two max_three min_three max_four min_four   -- for this text's walks alone
set_option linter.unusedVariables false
set_option linter.unusedSimpArgs false

end Go.Proofs.YtlheepfjdmhplaaDoor.PFramingLengths
