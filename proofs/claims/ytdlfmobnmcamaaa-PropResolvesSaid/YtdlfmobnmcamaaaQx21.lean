/- Written by hyb.py, a program of this session that drives the kit's printer over this seat's translation: each function as a plain Lean function, and a proof that the Go code does what it says. Lean checks it. -/
import Derived.Test.YtdlfmobnmcamaaaQx0
import Derived.Test.YtdlfmobnmcamaaaShelf
import Derived.Sort.OwnSortedInts
import Derived.Test.YtdlfmobnmcamaaaUnitResolves
namespace Go.Proofs.Ytdlfmobnmcamaaa.Q
open Go.RowKit Go.Proofs.YtdlfmobnmcamaaaW.PrintWords Go.Proofs.YtdlfmobnmcamaaaW.PrintLast Go.Proofs.YtdlfmobnmcamaaaW.PrintMore
attribute [local go_sem] max2_int min2_int max_two min_two max_three min_three max_four min_four   -- for this text's walks alone
set_option linter.unusedVariables false
set_option linter.unusedSimpArgs false

noncomputable section
-- HAND
/-! ### proofmarklaw18_PropResolves: function 12, by hand -/
-- IMPORTS Derived.Test.YtdlfmobnmcamaaaUnitResolves
def proofmarklaw18_PropResolves.f (l0 : List Int) (l1 : List Int) (a2 : Int) : Option Bool := if (∀ y ∈ l0, Wf y) ∧ ∀ y ∈ l1, Wf y then some true else none
theorem proofmarklaw18_PropResolves.calls (A0 : Option Addr) (c0 : Nat) (l0 : List Int) (A1 : Option Addr) (c1 : Nat) (l1 : List Int) (a2 : Int) (r : Bool) (w : World) (hr0 : Kd.C (Kd.int .i64) w A0 l0.length l0) (hc0 : l0.length ≤ c0) (hr1 : Kd.C (Kd.int .i64) w A1 l1.length l1) (hc1 : l1.length ≤ c1) (h : proofmarklaw18_PropResolves.f l0 l1 a2 = some r) :
    Calls Try.prog 12 #[.slice A0 l0.length c0, .slice A1 l1.length c1, .int .i64 a2] w fun e w' => e = .returned (.bool r) ∧ Below w.heap.size w w' := by
  unfold proofmarklaw18_PropResolves.f at h
  split at h
  · rename_i hw
    cases h
    exact resolves_any A0 c0 l0 A1 c1 l1 a2 w hr0 hc0 hr1 hc1 hw.1 hw.2
  · cases h

end
end Go.Proofs.Ytdlfmobnmcamaaa.Q
