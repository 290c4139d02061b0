-- Written by a program of this session (wip/tools/myprint.sh)
import Derived.Test.YtlheepfjdmhplaaDoorPFramingBothx0
import Derived.Test.YtlheepfjdmhplaaDoorPFramingBothx1
import Derived.Test.YtlheepfjdmhplaaDoorPFramingBothx2
import Derived.Test.YtlheepfjdmhplaaDoorPFramingBothx3
import Derived.Test.YtlheepfjdmhplaaDoorPFramingBothx4
import Derived.Test.YtlheepfjdmhplaaDoorPFramingBothx5
import Derived.Test.YtlheepfjdmhplaaDoorPFramingBothx6
import Derived.Test.YtlheepfjdmhplaaDoorPFramingBothx7
import Derived.Test.YtlheepfjdmhplaaDoorPFramingBothx8
namespace Go.Proofs.YtlheepfjdmhplaaDoor.PFramingBoth
open Go.RowKit Go.Proofs.YtlheepfjdmhplaaDoorW.PrintWords Go.Proofs.YtlheepfjdmhplaaDoorW.PrintLast Go.Proofs.YtlheepfjdmhplaaDoorW.PrintMore
attribute [local go_sem] max2_int min2_int max_two min_two max_three min_three max_four min_four   -- for this text's walks alone
set_option linter.unusedVariables false
set_option linter.unusedSimpArgs false

end Go.Proofs.YtlheepfjdmhplaaDoor.PFramingBoth
