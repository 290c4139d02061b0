/- Plain laws of texts without some bytes at their ends, and of parts. -/
import Derived.Test.YtomofacchnmepaaDoorParts
namespace Go.Proofs.YtomofacchnmepaaDoor.TrimP
open Go.RowKit Go.Proofs.YtomofacchnmepaaDoorW.PrintWords Go.Proofs.YtomofacchnmepaaDoorW.PrintLast Go.Proofs.YtomofacchnmepaaDoorW.PrintMore Go.Proofs.YtomofacchnmepaaDoor.Aid Go.Proofs.YtomofacchnmepaaDoor.Parts Go.Proofs.YtomofacchnmepaaDoor.Trim
end Go.Proofs.YtomofacchnmepaaDoor.TrimP
