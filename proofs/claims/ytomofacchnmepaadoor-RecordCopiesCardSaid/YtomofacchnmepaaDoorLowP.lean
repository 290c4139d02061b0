/- Plain laws of small letters. -/
import Derived.Test.YtomofacchnmepaaDoorLow
import Derived.Test.YtomofacchnmepaaDoorHand
import Derived.Test.YtomofacchnmepaaDoorParts
namespace Go.Proofs.YtomofacchnmepaaDoor.LowP
open Go.RowKit Go.Proofs.YtomofacchnmepaaDoorW.PrintWords Go.Proofs.YtomofacchnmepaaDoorW.PrintLast Go.Proofs.YtomofacchnmepaaDoorW.PrintMore Go.Proofs.YtomofacchnmepaaDoor.Low Go.Proofs.YtomofacchnmepaaDoor.Aid Go.Proofs.YtomofacchnmepaaDoor.Hand
end Go.Proofs.YtomofacchnmepaaDoor.LowP
