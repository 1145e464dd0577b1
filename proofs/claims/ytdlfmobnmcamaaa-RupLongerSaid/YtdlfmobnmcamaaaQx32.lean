/- Written by hyb.py, a program of this session that drives the kit's printer over this seat's translation: each function as a plain Lean function, and a proof that the Go code does what it says. Lean checks it. -/
import Derived.Test.YtdlfmobnmcamaaaQx0
import Derived.Test.YtdlfmobnmcamaaaShelf
import Derived.Sort.OwnSortedInts
import Derived.Test.YtdlfmobnmcamaaaUnitLonger
namespace Go.Proofs.Ytdlfmobnmcamaaa.Q
open Go.RowKit Go.Proofs.YtdlfmobnmcamaaaW.PrintWords Go.Proofs.YtdlfmobnmcamaaaW.PrintLast Go.Proofs.YtdlfmobnmcamaaaW.PrintMore
attribute [local go_sem] max2_int min2_int max_two min_two max_three min_three max_four min_four   -- for this text's walks alone
set_option linter.unusedVariables false
set_option linter.unusedSimpArgs false

noncomputable section
-- HAND
/-! ### proofmarklaw20_RupLonger: function 5, by hand -/
-- IMPORTS Derived.Test.YtdlfmobnmcamaaaUnitLonger
def proofmarklaw20_RupLonger.f (l0_0 : List (List Int)) (a0_1 : Int) (l0_2 : List (List Int)) (l0_3 : List Int) (l0_4 : List Int) : Option Bool := if (∀ c ∈ l0_0, ∀ y ∈ c, Wf y) ∧ (∀ c ∈ l0_2, ∀ y ∈ c, Wf y) ∧ (∀ y ∈ l0_3, Wf y) ∧ ∀ y ∈ l0_4, Wf y then some true else none
theorem proofmarklaw20_RupLonger.calls (A0_0 : Option Addr) (c0_0 : Nat) (l0_0 : List (List Int)) (a0_1 : Int) (A0_2 : Option Addr) (c0_2 : Nat) (l0_2 : List (List Int)) (A0_3 : Option Addr) (c0_3 : Nat) (l0_3 : List Int) (A0_4 : Option Addr) (c0_4 : Nat) (l0_4 : List Int) (r : Bool) (w : World) (hr0_0 : Kd.C (Kd.slice 3 (Kd.int .i64)) w A0_0 l0_0.length l0_0) (hc0_0 : l0_0.length ≤ c0_0) (hr0_2 : Kd.C (Kd.slice 3 (Kd.int .i64)) w A0_2 l0_2.length l0_2) (hc0_2 : l0_2.length ≤ c0_2) (hr0_3 : Kd.C (Kd.int .i64) w A0_3 l0_3.length l0_3) (hc0_3 : l0_3.length ≤ c0_3) (hr0_4 : Kd.C (Kd.int .i64) w A0_4 l0_4.length l0_4) (hc0_4 : l0_4.length ≤ c0_4) (h : proofmarklaw20_RupLonger.f l0_0 a0_1 l0_2 l0_3 l0_4 = some r) :
    Calls Try.prog 5 #[.agg #[.slice A0_0 l0_0.length c0_0, .int .i64 a0_1, .slice A0_2 l0_2.length c0_2, .slice A0_3 l0_3.length c0_3, .slice A0_4 l0_4.length c0_4]] w fun e w' => e = .returned (.bool r) ∧ Below w.heap.size w w' := by
  unfold proofmarklaw20_RupLonger.f at h
  split at h
  · rename_i hw
    cases h
    exact longer_any A0_0 c0_0 l0_0 a0_1 A0_2 c0_2 l0_2 A0_3 c0_3 l0_3 A0_4 c0_4 l0_4 w hr0_0 hc0_0 hr0_2 hc0_2 hr0_3 hc0_3 hr0_4 hc0_4 hw.1 hw.2.1 hw.2.2.1 hw.2.2.2
  · cases h

end
end Go.Proofs.Ytdlfmobnmcamaaa.Q
