/- The one pure statement of the law RupFull: over lists and numbers alone. Written by lawrow.py, a program of this session. -/
import Derived.Test.YtdlfmobnmcamaaaQx34
import Derived.Test.YtdlfmobnmcamaaaQOpens
namespace Go.Proofs.Ytdlfmobnmcamaaa.Q
open Go.RowKit Go.Proofs.YtdlfmobnmcamaaaW.PrintWords Go.Proofs.YtdlfmobnmcamaaaW.PrintLast
def RupFull.Pure : Prop := ∀ (x0 : List (List Int)) (x1 : Int), BL22 x0 → (Lit.int .i64 x1).wf = true → ∃ k, proofmarklaw20_RupFull.f k x0 x1 = some true
end Go.Proofs.Ytdlfmobnmcamaaa.Q
