/- Written by hyb.py, a program of this session that drives the kit's printer over this seat's translation: each function as a plain Lean function, and a proof that the Go code does what it says. Lean checks it. -/
import Derived.Test.YtdlfmobnmcamaaaQx0
import Derived.Test.YtdlfmobnmcamaaaShelf
import Derived.Sort.OwnSortedInts
import Derived.Test.YtdlfmobnmcamaaaUnitHead
namespace Go.Proofs.Ytdlfmobnmcamaaa.Q
open Go.RowKit Go.Proofs.YtdlfmobnmcamaaaW.PrintWords Go.Proofs.YtdlfmobnmcamaaaW.PrintLast Go.Proofs.YtdlfmobnmcamaaaW.PrintMore
attribute [local go_sem] max2_int min2_int max_two min_two max_three min_three max_four min_four   -- for this text's walks alone
set_option linter.unusedVariables false
set_option linter.unusedSimpArgs false

noncomputable section
-- HAND
/-! ### proofmarklaw18_head: function 26, by hand -/
-- IMPORTS Derived.Test.YtdlfmobnmcamaaaUnitHead
/-- The document's examples hold. -/
def proofmarklaw18_head.f : Option Bool := some true
theorem proofmarklaw18_head.calls (r : Bool) (w : World) (h : proofmarklaw18_head.f = some r) :
    Calls Try.prog 26 #[] w fun e w' => e = .returned (.bool r) ∧ Below w.heap.size w w' := by
  cases h
  exact head18_any w

end
end Go.Proofs.Ytdlfmobnmcamaaa.Q
