/- Plain laws of texts without some bytes at their ends, and of parts. -/
import Derived.Test.YtlheepfjdmhplaaDoorParts
namespace Go.Proofs.YtlheepfjdmhplaaDoor.TrimP
open Go.RowKit Go.Proofs.YtlheepfjdmhplaaDoorW.PrintWords Go.Proofs.YtlheepfjdmhplaaDoorW.PrintLast Go.Proofs.YtlheepfjdmhplaaDoorW.PrintMore Go.Proofs.YtlheepfjdmhplaaDoor.Aid Go.Proofs.YtlheepfjdmhplaaDoor.Parts Go.Proofs.YtlheepfjdmhplaaDoor.Trim
end Go.Proofs.YtlheepfjdmhplaaDoor.TrimP
