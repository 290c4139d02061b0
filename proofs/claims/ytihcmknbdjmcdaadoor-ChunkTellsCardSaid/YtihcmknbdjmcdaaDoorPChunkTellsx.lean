-- Written by a program of this session (wip/tools/myprint.sh)
import Derived.Test.YtihcmknbdjmcdaaDoorPChunkTellsx0
import Derived.Test.YtihcmknbdjmcdaaDoorPChunkTellsx1
import Derived.Test.YtihcmknbdjmcdaaDoorPChunkTellsx2
import Derived.Test.YtihcmknbdjmcdaaDoorPChunkTellsx3
import Derived.Test.YtihcmknbdjmcdaaDoorPChunkTellsx4
import Derived.Test.YtihcmknbdjmcdaaDoorPChunkTellsx5
import Derived.Test.YtihcmknbdjmcdaaDoorPChunkTellsx6
import Derived.Test.YtihcmknbdjmcdaaDoorPChunkTellsx7
import Derived.Test.YtihcmknbdjmcdaaDoorPChunkTellsx8
import Derived.Test.YtihcmknbdjmcdaaDoorPChunkTellsx9
namespace Go.Proofs.YtihcmknbdjmcdaaDoor.PChunkTells
open Go.RowKit Go.Proofs.YtihcmknbdjmcdaaDoorW.PrintWords Go.Proofs.YtihcmknbdjmcdaaDoorW.PrintLast Go.Proofs.YtihcmknbdjmcdaaDoorW.PrintMore
attribute [local go_sem] max2_int min2_int max_two min_two max_three min_three max_four min_four   -- for this text's walks alone
set_option linter.unusedVariables false
set_option linter.unusedSimpArgs false

end Go.Proofs.YtihcmknbdjmcdaaDoor.PChunkTells
