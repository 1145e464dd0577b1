/- The one pure statement of the law RupFollows: over lists and numbers alone. Written by lawrow.py, a program of this session. -/
import Derived.Test.YtdlfmobnmcamaaaQx30
import Derived.Test.YtdlfmobnmcamaaaQOpens
namespace Go.Proofs.Ytdlfmobnmcamaaa.Q
open Go.RowKit Go.Proofs.YtdlfmobnmcamaaaW.PrintWords Go.Proofs.YtdlfmobnmcamaaaW.PrintLast
def RupFollows.Pure : Prop := ∀ (x0 : List (List Int)) (x1 : List Int), BL22 x0 → BL23 x1 → ∃ k, proofmarklaw20_RupFollows.f k x0 x1 = some true
end Go.Proofs.Ytdlfmobnmcamaaa.Q
