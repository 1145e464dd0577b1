/- The one pure statement of the law PropNorms: over lists and numbers alone. Written by lawrow.py, a program of this session. -/
import Derived.Test.YtdlfmobnmcamaaaQx22
import Derived.Test.YtdlfmobnmcamaaaQOpens
namespace Go.Proofs.Ytdlfmobnmcamaaa.Q
open Go.RowKit Go.Proofs.YtdlfmobnmcamaaaW.PrintWords Go.Proofs.YtdlfmobnmcamaaaW.PrintLast
def PropNorms.Pure : Prop := ∀ (x0 : List Int), BL23 x0 → proofmarklaw18_PropNorms.f x0 = some true
end Go.Proofs.Ytdlfmobnmcamaaa.Q
