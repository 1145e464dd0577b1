/- Written by hyb.py, a program of this session that drives the kit's printer over this seat's translation: each function as a plain Lean function, and a proof that the Go code does what it says. Lean checks it. -/
import Derived.Test.YtdlfmobnmcamaaaQx0
import Derived.Test.YtdlfmobnmcamaaaShelf
import Derived.Sort.OwnSortedInts
import Derived.Test.YtdlfmobnmcamaaaUnitCheck
namespace Go.Proofs.Ytdlfmobnmcamaaa.Q
open Go.RowKit Go.Proofs.YtdlfmobnmcamaaaW.PrintWords Go.Proofs.YtdlfmobnmcamaaaW.PrintLast Go.Proofs.YtdlfmobnmcamaaaW.PrintMore
attribute [local go_sem] max2_int min2_int max_two min_two max_three min_three max_four min_four   -- for this text's walks alone
set_option linter.unusedVariables false
set_option linter.unusedSimpArgs false

noncomputable section
-- HAND
/-! ### rup_Check: function 22, by hand -/
-- IMPORTS Derived.Test.YtdlfmobnmcamaaaUnitCheck
noncomputable def rup_Check.f (l : List (List Int)) (vars : Int) (p : List (List Int)) (assume : List Int) : Option Bool := if SmallC l p assume then some (checkOf l vars p assume) else none
theorem rup_Check.calls (A0 : Option Addr) (c0 : Nat) (l0 : List (List Int)) (a1 : Int) (A2 : Option Addr) (c2 : Nat) (l2 : List (List Int)) (A3 : Option Addr) (c3 : Nat) (l3 : List Int) (r : Bool) (w : World) (hr0 : Kd.C (Kd.slice 3 (Kd.int .i64)) w A0 l0.length l0) (hc0 : l0.length ≤ c0) (hr2 : Kd.C (Kd.slice 3 (Kd.int .i64)) w A2 l2.length l2) (hc2 : l2.length ≤ c2) (hr3 : Kd.C (Kd.int .i64) w A3 l3.length l3) (hc3 : l3.length ≤ c3) (h : rup_Check.f l0 a1 l2 l3 = some r) :
    Calls Try.prog 22 #[.slice A0 l0.length c0, .int .i64 a1, .slice A2 l2.length c2, .slice A3 l3.length c3] w fun e w' => e = .returned (.bool r) ∧ Below w.heap.size w w' := by
  unfold rup_Check.f at h
  split at h
  · rename_i hs
    cases h
    exact check_any A0 c0 l0 a1 A2 c2 l2 A3 c3 l3 w hr0 hc0 hr2 hc2 hr3 hc3 hs
  · cases h

end
end Go.Proofs.Ytdlfmobnmcamaaa.Q
