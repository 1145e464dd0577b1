/- What prop.Right answers, in plain Lean. Written for this claim. -/
import Derived.Test.YtdlfmobnmcamaaaQx2
import Derived.Test.YtdlfmobnmcamaaaQx3
namespace Go.Proofs.Ytdlfmobnmcamaaa.Q
open Go.RowKit Go.Proofs.YtdlfmobnmcamaaaW.PrintWords Go.Proofs.YtdlfmobnmcamaaaW.PrintLast Go.Proofs.YtdlfmobnmcamaaaW.PrintMore
set_option linter.unusedVariables false
def litOk (vars x : Int) : Bool := decide (pvar x ≠ 0) && decide (pvar x ≤ vars)
/-- May clauses be so? -/
def rightOf (l : List (List Int)) (vars : Int) : Bool := decide (0 ≤ vars) && decide (vars ≤ 1048576) && l.all fun c => c.all (litOk vars)
theorem right_l1 (vars : Int) (l : List (List Int)) (n i : Int) (c : List Int) (r0 : Bool) (hc : c.length ≤ 9223372036854775807) (h0 : ∃ k, prop_Right.l0 k vars l n (wrap64 (i + 1)) = some r0) :
    ∀ (d j : Nat), c.length - j = d → j ≤ c.length → ∃ k, prop_Right.l1 k vars l n i c (c.length : Int) (j : Int) = some ((c.drop j).all (litOk vars) && r0)
  | 0, j, hd, hj => by
    obtain ⟨k, hk⟩ := h0
    refine ⟨k + 1, ?_⟩
    rw [prop_Right.l1, if_neg (by omega), hk, List.drop_eq_nil_of_le (by omega)]
    simp
  | d + 1, j, hd, hj => by
    have h : j < c.length := by omega
    have hr : YtdlfmobnmcamaaaW.PrintWords.rd c (j : Int) = c[j] := by simp [YtdlfmobnmcamaaaW.PrintWords.rd, List.getD_eq_getElem?_getD, h]
    have hw : wrap64 ((j : Int) + 1) = ((j + 1 : Nat) : Int) := by unfold wrap64; omega
    obtain ⟨k, hk⟩ := right_l1 vars l n i c r0 hc h0 d (j + 1) (by omega) (by omega)
    refine ⟨k + 1, ?_⟩
    rw [prop_Right.l1, if_pos (by omega), if_pos (by omega), if_pos (by omega), prop_variable.f, Option.bind_some, List.drop_eq_getElem_cons h, List.all_cons, hr]
    show (if pvar c[j] = 0 then _ else if pvar c[j] > vars then _ else _) = _
    by_cases e1 : pvar c[j] = 0
    · rw [if_pos e1]; simp [litOk, e1]
    · rw [if_neg e1]
      by_cases e2 : pvar c[j] > vars
      · rw [if_pos e2]; simp [litOk, e1, show ¬ pvar c[j] ≤ vars by omega]
      · rw [if_neg e2, hw, hk]; simp [litOk, e1, show pvar c[j] ≤ vars by omega]
theorem right_l0 (vars : Int) (l : List (List Int)) (hl : l.length ≤ 9223372036854775807) (hc : ∀ c ∈ l, c.length ≤ 9223372036854775807) :
    ∀ (d i : Nat), l.length - i = d → i ≤ l.length → ∃ k, prop_Right.l0 k vars l (l.length : Int) (i : Int) = some ((l.drop i).all fun c => c.all (litOk vars))
  | 0, i, hd, hi => by
    refine ⟨1, ?_⟩
    rw [prop_Right.l0, if_neg (by omega), List.drop_eq_nil_of_le (by omega)]
    rfl
  | d + 1, i, hd, hi => by
    have h : i < l.length := by omega
    have hr : rd_L1 l (i : Int) = l[i] := by simp [rd_L1, List.getD_eq_getElem?_getD, h]
    have hw : wrap64 ((i : Int) + 1) = ((i + 1 : Nat) : Int) := by unfold wrap64; omega
    have h0 := right_l0 vars l hl hc d (i + 1) (by omega) (by omega)
    rw [← hw] at h0
    obtain ⟨k, hk⟩ := right_l1 vars l (l.length : Int) (i : Int) l[i] _ (hc _ (List.getElem_mem h)) h0 _ 0 rfl (Nat.zero_le _)
    refine ⟨k + 1, ?_⟩
    rw [prop_Right.l0, if_pos (by omega), if_pos (by omega), if_pos (by omega), hr]
    rw [show ((0 : Nat) : Int) = 0 from rfl, List.drop_zero] at hk
    rw [hk, List.drop_eq_getElem_cons h, List.all_cons]
theorem right_ev (l : List (List Int)) (vars : Int) (hl : l.length ≤ 9223372036854775807) (hc : ∀ c ∈ l, c.length ≤ 9223372036854775807) : ∃ k, prop_Right.f k l vars = some (rightOf l vars) := by
  obtain ⟨k, hk⟩ := right_l0 vars l hl hc _ 0 rfl (Nat.zero_le _)
  rw [show ((0 : Nat) : Int) = 0 from rfl, List.drop_zero] at hk
  refine ⟨k + 1, ?_⟩
  unfold prop_Right.f rightOf
  by_cases e1 : vars < 0
  · rw [if_pos e1, prop_Right.j0, if_pos rfl]; simp [show ¬ 0 ≤ vars by omega]
  · rw [if_neg e1, prop_Right.j0]
    by_cases e2 : vars > 1048576
    · rw [if_pos (by simpa using e2)]; simp [show ¬ vars ≤ 1048576 by omega]
    · rw [if_neg (by simpa using e2), hk]; simp [show 0 ≤ vars by omega, show vars ≤ 1048576 by omega]
theorem right_calls (A0 : Option Addr) (c0 : Nat) (l0 : List (List Int)) (a1 : Int) (w : World) (hr0 : Kd.C (Kd.slice 3 (Kd.int .i64)) w A0 l0.length l0) (hc0 : l0.length ≤ c0) (hc : ∀ c ∈ l0, c.length ≤ 9223372036854775807) :
    Calls Try.prog 29 #[.slice A0 l0.length c0, .int .i64 a1] w fun e w' => e = .returned (.bool (rightOf l0 a1)) ∧ Below w.heap.size w w' := by
  obtain ⟨k, hk⟩ := right_ev l0 a1 hr0.2.1 hc
  exact prop_Right.calls k A0 c0 l0 a1 _ w hr0 hc0 hk
end Go.Proofs.Ytdlfmobnmcamaaa.Q
