/- Plain laws of texts without some bytes at their ends, and of parts. -/
import Derived.Test.YtnnehbbfokoklaaParts
namespace Go.Proofs.Ytnnehbbfokoklaa.TrimP
open Go.RowKit Go.Proofs.YtnnehbbfokoklaaW.PrintWords Go.Proofs.YtnnehbbfokoklaaW.PrintLast Go.Proofs.YtnnehbbfokoklaaW.PrintMore Go.Proofs.Ytnnehbbfokoklaa.Aid Go.Proofs.Ytnnehbbfokoklaa.Parts Go.Proofs.Ytnnehbbfokoklaa.Trim
end Go.Proofs.Ytnnehbbfokoklaa.TrimP
