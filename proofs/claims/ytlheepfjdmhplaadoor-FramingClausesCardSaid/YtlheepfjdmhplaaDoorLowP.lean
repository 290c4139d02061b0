/- Plain laws of small letters. -/
import Derived.Test.YtlheepfjdmhplaaDoorLow
import Derived.Test.YtlheepfjdmhplaaDoorHand
import Derived.Test.YtlheepfjdmhplaaDoorParts
namespace Go.Proofs.YtlheepfjdmhplaaDoor.LowP
open Go.RowKit Go.Proofs.YtlheepfjdmhplaaDoorW.PrintWords Go.Proofs.YtlheepfjdmhplaaDoorW.PrintLast Go.Proofs.YtlheepfjdmhplaaDoorW.PrintMore Go.Proofs.YtlheepfjdmhplaaDoor.Low Go.Proofs.YtlheepfjdmhplaaDoor.Aid Go.Proofs.YtlheepfjdmhplaaDoor.Hand
end Go.Proofs.YtlheepfjdmhplaaDoor.LowP
