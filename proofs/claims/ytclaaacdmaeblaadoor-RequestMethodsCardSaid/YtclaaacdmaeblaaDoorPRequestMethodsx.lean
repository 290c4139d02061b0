-- Written by a program of this session (wip/tools/myprint.sh)
import Derived.Test.YtclaaacdmaeblaaDoorPRequestMethodsx0
import Derived.Test.YtclaaacdmaeblaaDoorPRequestMethodsx1
import Derived.Test.YtclaaacdmaeblaaDoorPRequestMethodsx2
import Derived.Test.YtclaaacdmaeblaaDoorPRequestMethodsx3
import Derived.Test.YtclaaacdmaeblaaDoorPRequestMethodsx4
import Derived.Test.YtclaaacdmaeblaaDoorPRequestMethodsx5
import Derived.Test.YtclaaacdmaeblaaDoorPRequestMethodsx6
import Derived.Test.YtclaaacdmaeblaaDoorPRequestMethodsx7
import Derived.Test.YtclaaacdmaeblaaDoorPRequestMethodsx8
import Derived.Test.YtclaaacdmaeblaaDoorPRequestMethodsx9
namespace Go.Proofs.YtclaaacdmaeblaaDoor.PRequestMethods
open Go.RowKit Go.Proofs.YtclaaacdmaeblaaDoorW.PrintWords Go.Proofs.YtclaaacdmaeblaaDoorW.PrintLast Go.Proofs.YtclaaacdmaeblaaDoorW.PrintMore
attribute [local go_sem] max2_int min2_int max_two min_two max_three min_three max_four min_four   -- for this text's walks alone
set_option linter.unusedVariables false
set_option linter.unusedSimpArgs false

end Go.Proofs.YtclaaacdmaeblaaDoor.PRequestMethods
