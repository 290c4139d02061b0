-- Written by a program of this session (wip/tools/myprint.sh)
import Derived.Test.YtlheepfjdmhplaaDoorPFramingClausesx0
import Derived.Test.YtlheepfjdmhplaaDoorPFramingClausesx1
import Derived.Test.YtlheepfjdmhplaaDoorPFramingClausesx2
import Derived.Test.YtlheepfjdmhplaaDoorPFramingClausesx3
import Derived.Test.YtlheepfjdmhplaaDoorPFramingClausesx4
import Derived.Test.YtlheepfjdmhplaaDoorPFramingClausesx5
import Derived.Test.YtlheepfjdmhplaaDoorPFramingClausesx6
import Derived.Test.YtlheepfjdmhplaaDoorPFramingClausesx7
import Derived.Test.YtlheepfjdmhplaaDoorPFramingClausesx8
namespace Go.Proofs.YtlheepfjdmhplaaDoor.PFramingClauses
open Go.RowKit Go.Proofs.YtlheepfjdmhplaaDoorW.PrintWords Go.Proofs.YtlheepfjdmhplaaDoorW.PrintLast Go.Proofs.YtlheepfjdmhplaaDoorW.PrintMore
attribute [local go_sem] max2_int min2_int max_two min_two max_three min_three max_four min_four   -- for this text's walks alone
set_option linter.unusedVariables false
set_option linter.unusedSimpArgs false

end Go.Proofs.YtlheepfjdmhplaaDoor.PFramingClauses
