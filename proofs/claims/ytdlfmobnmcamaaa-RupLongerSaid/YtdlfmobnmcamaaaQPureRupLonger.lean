/- The law RupLonger in plain terms. -/
import Derived.Test.YtdlfmobnmcamaaaPropEv
import Derived.Test.YtdlfmobnmcamaaaQSayRupLonger
namespace Go.Proofs.Ytdlfmobnmcamaaa.Pure
open Go.RowKit Go.Sort Go.Shelf Go.Proofs.YtdlfmobnmcamaaaW.PrintWords Go.Proofs.YtdlfmobnmcamaaaW.PrintLast Go.Proofs.YtdlfmobnmcamaaaW.PrintMore Go.Proofs.Ytdlfmobnmcamaaa.Q
set_option linter.unusedVariables false
set_option linter.unusedSimpArgs false
theorem RupLonger (x0 : S25) (h : B25 x0) : proofmarklaw20_RupLonger.f x0.f0 x0.f1 x0.f2 x0.f3 x0.f4 = some true := by
  obtain ⟨h0, h1, h2, h3, h4⟩ := h
  exact if_pos ⟨bl22_wf h0, bl22_wf h2, bl23_wf h3, bl23_wf h4⟩
end Go.Proofs.Ytdlfmobnmcamaaa.Pure
