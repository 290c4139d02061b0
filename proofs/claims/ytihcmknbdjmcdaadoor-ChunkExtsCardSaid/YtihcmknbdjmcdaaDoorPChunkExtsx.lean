-- Written by a program of this session (wip/tools/myprint.sh)
import Derived.Test.YtihcmknbdjmcdaaDoorPChunkExtsx0
import Derived.Test.YtihcmknbdjmcdaaDoorPChunkExtsx1
import Derived.Test.YtihcmknbdjmcdaaDoorPChunkExtsx2
import Derived.Test.YtihcmknbdjmcdaaDoorPChunkExtsx3
import Derived.Test.YtihcmknbdjmcdaaDoorPChunkExtsx4
import Derived.Test.YtihcmknbdjmcdaaDoorPChunkExtsx5
namespace Go.Proofs.YtihcmknbdjmcdaaDoor.PChunkExts
open Go.RowKit Go.Proofs.YtihcmknbdjmcdaaDoorW.PrintWords Go.Proofs.YtihcmknbdjmcdaaDoorW.PrintLast Go.Proofs.YtihcmknbdjmcdaaDoorW.PrintMore
attribute [local go_sem] max2_int min2_int max_two min_two max_three min_three max_four min_four   -- for this text's walks alone
set_option linter.unusedVariables false
set_option linter.unusedSimpArgs false

end Go.Proofs.YtihcmknbdjmcdaaDoor.PChunkExts
