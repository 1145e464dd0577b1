/- The law PropResolves in plain terms. -/
import Derived.Test.YtdlfmobnmcamaaaPropEv
import Derived.Test.YtdlfmobnmcamaaaQSayPropResolves
namespace Go.Proofs.Ytdlfmobnmcamaaa.Pure
open Go.RowKit Go.Sort Go.Shelf Go.Proofs.YtdlfmobnmcamaaaW.PrintWords Go.Proofs.YtdlfmobnmcamaaaW.PrintLast Go.Proofs.YtdlfmobnmcamaaaW.PrintMore Go.Proofs.Ytdlfmobnmcamaaa.Q
set_option linter.unusedVariables false
set_option linter.unusedSimpArgs false
theorem PropResolves (x0 x1 : List Int) (x2 : Int) (h0 : BL23 x0) (h1 : BL23 x1) (h2 : (Lit.int .i64 x2).wf = true) : proofmarklaw18_PropResolves.f x0 x1 x2 = some true := if_pos ⟨bl23_wf h0, bl23_wf h1⟩
end Go.Proofs.Ytdlfmobnmcamaaa.Pure
