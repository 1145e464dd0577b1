/- The one pure statement of the law PropResolves: over lists and numbers alone. Written by lawrow.py, a program of this session. -/
import Derived.Test.YtdlfmobnmcamaaaQx21
import Derived.Test.YtdlfmobnmcamaaaQOpens
namespace Go.Proofs.Ytdlfmobnmcamaaa.Q
open Go.RowKit Go.Proofs.YtdlfmobnmcamaaaW.PrintWords Go.Proofs.YtdlfmobnmcamaaaW.PrintLast
def PropResolves.Pure : Prop := ∀ (x0 : List Int) (x1 : List Int) (x2 : Int), BL23 x0 → BL23 x1 → (Lit.int .i64 x2).wf = true → proofmarklaw18_PropResolves.f x0 x1 x2 = some true
end Go.Proofs.Ytdlfmobnmcamaaa.Q
