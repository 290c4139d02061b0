-- Written by a program of this session (wip/tools/myprint.sh)
import Derived.Test.YtclaaacdmaeblaaDoorPRequestClausesx0
import Derived.Test.YtclaaacdmaeblaaDoorPRequestClausesx1
import Derived.Test.YtclaaacdmaeblaaDoorPRequestClausesx2
import Derived.Test.YtclaaacdmaeblaaDoorPRequestClausesx3
import Derived.Test.YtclaaacdmaeblaaDoorPRequestClausesx4
import Derived.Test.YtclaaacdmaeblaaDoorPRequestClausesx5
import Derived.Test.YtclaaacdmaeblaaDoorPRequestClausesx6
import Derived.Test.YtclaaacdmaeblaaDoorPRequestClausesx7
import Derived.Test.YtclaaacdmaeblaaDoorPRequestClausesx8
import Derived.Test.YtclaaacdmaeblaaDoorPRequestClausesx9
namespace Go.Proofs.YtclaaacdmaeblaaDoor.PRequestClauses
open Go.RowKit Go.Proofs.YtclaaacdmaeblaaDoorW.PrintWords Go.Proofs.YtclaaacdmaeblaaDoorW.PrintLast Go.Proofs.YtclaaacdmaeblaaDoorW.PrintMore
attribute [local go_sem] max2_int min2_int max_two min_two max_three min_three max_four min_four   -- for this text's walks alone
set_option linter.unusedVariables false
set_option linter.unusedSimpArgs false

end Go.Proofs.YtclaaacdmaeblaaDoor.PRequestClauses
