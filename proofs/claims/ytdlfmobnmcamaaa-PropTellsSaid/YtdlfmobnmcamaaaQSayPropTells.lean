/- The one pure statement of the law PropTells: over lists and numbers alone. Written by lawrow.py, a program of this session. -/
import Derived.Test.YtdlfmobnmcamaaaQx14
import Derived.Test.YtdlfmobnmcamaaaQOpens
namespace Go.Proofs.Ytdlfmobnmcamaaa.Q
open Go.RowKit Go.Proofs.YtdlfmobnmcamaaaW.PrintWords Go.Proofs.YtdlfmobnmcamaaaW.PrintLast
def PropTells.Pure : Prop := ∀ (x0 : S37), B37 x0 → ∃ k, proofmarklaw18_PropTells.f k x0.f0 x0.f1 x0.f2 x0.f3 x0.f4 = some true
end Go.Proofs.Ytdlfmobnmcamaaa.Q
