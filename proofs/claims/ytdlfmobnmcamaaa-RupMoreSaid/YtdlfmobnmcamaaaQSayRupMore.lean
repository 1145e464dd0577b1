/- The one pure statement of the law RupMore: over lists and numbers alone. Written by lawrow.py, a program of this session. -/
import Derived.Test.YtdlfmobnmcamaaaQx27
import Derived.Test.YtdlfmobnmcamaaaQOpens
namespace Go.Proofs.Ytdlfmobnmcamaaa.Q
open Go.RowKit Go.Proofs.YtdlfmobnmcamaaaW.PrintWords Go.Proofs.YtdlfmobnmcamaaaW.PrintLast
def RupMore.Pure : Prop := ∀ (x0 : List (List Int)) (x1 : List (List Int)) (x2 : List Int), BL22 x0 → BL22 x1 → BL23 x2 → ∃ k, proofmarklaw20_RupMore.f k x0 x1 x2 = some true
end Go.Proofs.Ytdlfmobnmcamaaa.Q
