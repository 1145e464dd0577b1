/- Written by hyb.py, a program of this session that drives the kit's printer over this seat's translation: each function as a plain Lean function, and a proof that the Go code does what it says. Lean checks it. -/
import Derived.Test.YtdlfmobnmcamaaaQx0
import Derived.Test.YtdlfmobnmcamaaaShelf
import Derived.Sort.OwnSortedInts
import Derived.Test.YtdlfmobnmcamaaaUnitWalk
namespace Go.Proofs.Ytdlfmobnmcamaaa.Q
open Go.RowKit Go.Proofs.YtdlfmobnmcamaaaW.PrintWords Go.Proofs.YtdlfmobnmcamaaaW.PrintLast Go.Proofs.YtdlfmobnmcamaaaW.PrintMore
attribute [local go_sem] max2_int min2_int max_two min_two max_three min_three max_four min_four   -- for this text's walks alone
set_option linter.unusedVariables false
set_option linter.unusedSimpArgs false

noncomputable section
-- HAND
/-! ### prop_Unit: function 27, by hand -/
-- IMPORTS Derived.Test.YtdlfmobnmcamaaaUnitWalk
theorem prop_Unit.calls (A0 : Option Addr) (c0 : Nat) (l0 : List (List Int)) (a1 : Int) (A2 : Option Addr) (c2 : Nat) (l2 : List Int) (r1 : List Int) (r2 : Bool) (w : World) (hr0 : Kd.C (Kd.slice 3 (Kd.int .i64)) w A0 l0.length l0) (hc0 : l0.length ≤ c0) (hr2 : Kd.C (Kd.int .i64) w A2 l2.length l2) (hc2 : l2.length ≤ c2) (h : prop_Unit.f l0 a1 l2 = some (r1, r2)) :
    Calls Try.prog 27 #[.slice A0 l0.length c0, .int .i64 a1, .slice A2 l2.length c2] w fun e w' => ∃ v0_, e = .returned (.tuple #[v0_, .bool r2]) ∧ Kd.R (Kd.int .i64) 3 w' w.heap.size (fun _ => True) v0_ r1 ∧ Below w.heap.size w w' := by
  unfold prop_Unit.f at h
  split at h
  · rename_i hs
    have e := Option.some.inj h
    refine (unit_any A0 c0 l0 a1 A2 c2 l2 hr0 hc0 hr2 hc2 hs).mono ?_
    rintro e' w' ⟨v, he, ho, hb⟩
    rw [e] at he ho
    exact ⟨v, he, Kd.R_of_own ho (fun _ _ => trivial), hb⟩
  · cases h

end
end Go.Proofs.Ytdlfmobnmcamaaa.Q
