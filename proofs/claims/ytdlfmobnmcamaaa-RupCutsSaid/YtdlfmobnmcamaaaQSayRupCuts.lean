/- The one pure statement of the law RupCuts: over lists and numbers alone. Written by lawrow.py, a program of this session. -/
import Derived.Test.YtdlfmobnmcamaaaQx29
import Derived.Test.YtdlfmobnmcamaaaQOpens
namespace Go.Proofs.Ytdlfmobnmcamaaa.Q
open Go.RowKit Go.Proofs.YtdlfmobnmcamaaaW.PrintWords Go.Proofs.YtdlfmobnmcamaaaW.PrintLast
def RupCuts.Pure : Prop := ∀ (x0 : List (List Int)) (x1 : List (List Int)) (x2 : Int), BL22 x0 → BL22 x1 → (Lit.int .i64 x2).wf = true → ∃ k, proofmarklaw20_RupCuts.f k x0 x1 x2 = some true
end Go.Proofs.Ytdlfmobnmcamaaa.Q
