/- The law PropNorms in plain terms. -/
import Derived.Test.YtdlfmobnmcamaaaPropEv
import Derived.Test.YtdlfmobnmcamaaaQSayPropNorms
namespace Go.Proofs.Ytdlfmobnmcamaaa.Pure
open Go.RowKit Go.Sort Go.Shelf Go.Proofs.YtdlfmobnmcamaaaW.PrintWords Go.Proofs.YtdlfmobnmcamaaaW.PrintLast Go.Proofs.YtdlfmobnmcamaaaW.PrintMore Go.Proofs.Ytdlfmobnmcamaaa.Q
set_option linter.unusedVariables false
set_option linter.unusedSimpArgs false
theorem PropNorms (x0 : List Int) (h0 : BL23 x0) : proofmarklaw18_PropNorms.f x0 = some true := if_pos (bl23_wf h0)
end Go.Proofs.Ytdlfmobnmcamaaa.Pure
