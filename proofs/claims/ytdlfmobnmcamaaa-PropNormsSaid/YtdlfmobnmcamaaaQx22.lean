/- Written by hyb.py, a program of this session that drives the kit's printer over this seat's translation: each function as a plain Lean function, and a proof that the Go code does what it says. Lean checks it. -/
import Derived.Test.YtdlfmobnmcamaaaQx0
import Derived.Test.YtdlfmobnmcamaaaShelf
import Derived.Sort.OwnSortedInts
import Derived.Test.YtdlfmobnmcamaaaUnitNorms
namespace Go.Proofs.Ytdlfmobnmcamaaa.Q
open Go.RowKit Go.Proofs.YtdlfmobnmcamaaaW.PrintWords Go.Proofs.YtdlfmobnmcamaaaW.PrintLast Go.Proofs.YtdlfmobnmcamaaaW.PrintMore
attribute [local go_sem] max2_int min2_int max_two min_two max_three min_three max_four min_four   -- for this text's walks alone
set_option linter.unusedVariables false
set_option linter.unusedSimpArgs false

noncomputable section
-- HAND
/-! ### proofmarklaw18_PropNorms: function 13, by hand -/
-- IMPORTS Derived.Test.YtdlfmobnmcamaaaUnitNorms
def proofmarklaw18_PropNorms.f (l0 : List Int) : Option Bool := if ∀ y ∈ l0, Wf y then some true else none
theorem proofmarklaw18_PropNorms.calls (A0 : Option Addr) (c0 : Nat) (l0 : List Int) (r : Bool) (w : World) (hr0 : Kd.C (Kd.int .i64) w A0 l0.length l0) (hc0 : l0.length ≤ c0) (h : proofmarklaw18_PropNorms.f l0 = some r) :
    Calls Try.prog 13 #[.slice A0 l0.length c0] w fun e w' => e = .returned (.bool r) ∧ Below w.heap.size w w' := by
  unfold proofmarklaw18_PropNorms.f at h
  split at h
  · rename_i hw
    cases h
    exact norms_any A0 c0 l0 w hr0 hc0 hw
  · cases h

end
end Go.Proofs.Ytdlfmobnmcamaaa.Q
