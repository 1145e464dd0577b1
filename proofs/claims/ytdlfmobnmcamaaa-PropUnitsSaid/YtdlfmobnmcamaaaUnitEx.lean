/- The document's examples, in plain Lean. Written for this claim. -/
import Derived.Test.YtdlfmobnmcamaaaUnitSpec
import Derived.Test.YtdlfmobnmcamaaaQx7
namespace Go.Proofs.Ytdlfmobnmcamaaa.Q
open Go.RowKit Go.Sort Go.Proofs.YtdlfmobnmcamaaaW.PrintWords Go.Proofs.YtdlfmobnmcamaaaW.PrintLast Go.Proofs.YtdlfmobnmcamaaaW.PrintMore
set_option linter.unusedVariables false
/-- A row in order is what the sort makes of any row with the same members as often. -/
theorem litSort_eq {a b : List Int} (h : a.Perm b) (hs : b.Pairwise fun x y => (!(ltOf litCmp) y x) = true) : litSort a = b := by
  have e : litSort b = b := List.mergeSort_of_pairwise hs
  rw [litSort_perm h, e]
theorem normOf_eq {a b : List Int} (h : a.Perm b) (hs : b.Pairwise fun x y => (!(ltOf litCmp) y x) = true) : normOf a = if litBad (litOnce b) then ([], false) else (litOnce b, true) := by
  unfold normOf
  rw [litSort_eq h hs]
theorem norm_ex1 : normOf [3, -1, 3] = ([-1, 3], true) := by
  rw [normOf_eq (b := [-1, 3, 3]) (by decide +kernel) (by decide +kernel)]
  decide +kernel
theorem norm_ex2 : normOf [1, -1] = ([], false) := by
  rw [normOf_eq (b := [-1, 1]) (by decide +kernel) (by decide +kernel)]
  decide +kernel
theorem res_ex : resOf [1, 2] [-2, 3] 2 = ([1, 3], true) := by
  have e : resRow [1, 2] [-2, 3] 2 = [1, 3] := by decide +kernel
  unfold resOf
  rw [if_pos (by decide +kernel), e, normOf_eq (b := [1, 3]) (by decide +kernel) (by decide +kernel)]
  decide +kernel
/-- A row that is closed is what follows. -/
theorem row_of {l : List (List Int)} {known ks : List Int} (hL : ∀ c ∈ l, ∀ y ∈ c, Lt y) (hn : ks.Nodup) (hd : ∀ x ∈ ks, Der l known x) (hlt : ∀ x ∈ ks, Lt x) (ho : ∀ x ∈ ks, x ∈ known ++ l.flatten) (hc : ∀ x ∈ ks, neg x ∉ ks) (hg : ∀ c ∈ l, Good ks c) (hk : ∀ x ∈ known, x ∈ ks) : Row l known ks ∧ ¬ Conf l known := by
  have I : Inv l known (fun _ => False) ks ks.length := ⟨hn, hd, hlt, ho, hc, Nat.le_refl _, fun i c h => .inr (.inl (hg c (List.mem_of_getElem? h)))⟩
  have := I.last hL (by simp) hk
  exact ⟨⟨hn, this.1⟩, this.2⟩
instance (ks c : List Int) : Decidable (Good ks c) := by unfold Good; infer_instance
instance (x : Int) : Decidable (Lt x) := by unfold Lt; infer_instance
theorem neg1 : neg 1 = -1 := by decide +kernel
theorem negm2 : neg (-2) = 2 := by decide +kernel
theorem negm3 : neg (-3) = 3 := by decide +kernel
theorem unit_ex1 : unitOf [[1, 2], [-2, 3]] 3 [-1] = ([-1, 2, 3], true) := by
  have d1 : Der [[1, 2], [-2, 3]] [-1] (-1) := .known (by simp)
  have d2 : Der [[1, 2], [-2, 3]] [-1] 2 := .unit (c := [1, 2]) (by simp) (by simp) (fun y hy hne => by
    simp at hy
    rcases hy with rfl | rfl
    · rw [neg1]; exact d1
    · exact absurd rfl hne)
  have d3 : Der [[1, 2], [-2, 3]] [-1] 3 := .unit (c := [-2, 3]) (by simp) (by simp) (fun y hy hne => by
    simp at hy
    rcases hy with rfl | rfl
    · rw [negm2]; exact d2
    · exact absurd rfl hne)
  obtain ⟨hr, hc⟩ := row_of (l := [[1, 2], [-2, 3]]) (known := [-1]) (ks := [-1, 2, 3]) (by decide +kernel) (by decide +kernel) (by
    intro x hx
    simp at hx
    rcases hx with rfl | rfl | rfl
    · exact d1
    · exact d2
    · exact d3) (by decide +kernel) (by decide +kernel) (by decide +kernel) (by decide +kernel) (by decide +kernel)
  rw [unitOf_row (by decide +kernel) (by decide +kernel) hc hr, normOf_eq (b := [-1, 2, 3]) (by decide +kernel) (by decide +kernel)]
  decide +kernel
theorem unit_ex2 : unitOf [[1, 2], [-2, 3], [-3]] 3 [-1] = ([], false) := by
  have d1 : Der [[1, 2], [-2, 3], [-3]] [-1] (-1) := .known (by simp)
  have d2 : Der [[1, 2], [-2, 3], [-3]] [-1] 2 := .unit (c := [1, 2]) (by simp) (by simp) (fun y hy hne => by
    simp at hy
    rcases hy with rfl | rfl
    · rw [neg1]; exact d1
    · exact absurd rfl hne)
  have d3 : Der [[1, 2], [-2, 3], [-3]] [-1] 3 := .unit (c := [-2, 3]) (by simp) (by simp) (fun y hy hne => by
    simp at hy
    rcases hy with rfl | rfl
    · rw [negm2]; exact d2
    · exact absurd rfl hne)
  refine unitOf_conf (.inr ⟨[-3], by simp, fun y hy => ?_⟩)
  simp at hy
  subst hy
  rw [negm3]; exact d3
end Go.Proofs.Ytdlfmobnmcamaaa.Q
