/- Plain laws of small letters. -/
import Derived.Test.YtclaaacdmaeblaaDoorLow
import Derived.Test.YtclaaacdmaeblaaDoorHand
import Derived.Test.YtclaaacdmaeblaaDoorParts
namespace Go.Proofs.YtclaaacdmaeblaaDoor.LowP
open Go.RowKit Go.Proofs.YtclaaacdmaeblaaDoorW.PrintWords Go.Proofs.YtclaaacdmaeblaaDoorW.PrintLast Go.Proofs.YtclaaacdmaeblaaDoorW.PrintMore Go.Proofs.YtclaaacdmaeblaaDoor.Low Go.Proofs.YtclaaacdmaeblaaDoor.Aid Go.Proofs.YtclaaacdmaeblaaDoor.Hand
end Go.Proofs.YtclaaacdmaeblaaDoor.LowP
