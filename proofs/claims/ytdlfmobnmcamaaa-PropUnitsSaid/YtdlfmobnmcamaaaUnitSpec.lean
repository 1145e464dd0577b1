/- What prop.Unit answers. Written for this claim. -/
import Derived.Test.YtdlfmobnmcamaaaUnitMap
import Derived.Test.YtdlfmobnmcamaaaUnitRight
import Derived.Test.YtdlfmobnmcamaaaUnitIter
import Derived.Test.YtdlfmobnmcamaaaQx4
namespace Go.Proofs.Ytdlfmobnmcamaaa.Q
open Go.RowKit Go.Sort Go.Proofs.YtdlfmobnmcamaaaW.PrintWords Go.Proofs.YtdlfmobnmcamaaaW.PrintLast Go.Proofs.YtdlfmobnmcamaaaW.PrintMore
set_option linter.unusedVariables false
/-- The order plays no part. -/
theorem litSort_perm {a b : List Int} (h : a.Perm b) : litSort a = litSort b := by
  have tr : ∀ x y z : Int, (!(ltOf litCmp) y x) = true → (!(ltOf litCmp) z y) = true → (!(ltOf litCmp) z x) = true := by
    intro x y z h1 h2
    simp only [Bool.not_eq_true'] at *
    exact litCmp_swo.ntrans _ _ _ h2 h1
  have tot : ∀ x y : Int, ((!(ltOf litCmp) y x) || (!(ltOf litCmp) x y)) = true := by
    intro x y
    cases h1 : (ltOf litCmp) y x with
    | false => simp
    | true =>
      cases h2 : (ltOf litCmp) x y with
      | false => simp
      | true => have := litCmp_swo.trans _ _ _ h1 h2; rw [litCmp_swo.irrefl] at this; cases this
  refine List.Perm.eq_of_pairwise (le := fun x y => (!(ltOf litCmp) y x) = true) ?_ (List.pairwise_mergeSort tr tot a) (List.pairwise_mergeSort tr tot b) ((List.mergeSort_perm a _).trans (h.trans (List.mergeSort_perm b _).symm))
  intro x y _ _ h1 h2
  simp only [Bool.not_eq_true'] at h1 h2
  exact litCmp_total x y h2 h1
theorem normOf_perm {a b : List Int} (h : a.Perm b) : normOf a = normOf b := by unfold normOf; rw [litSort_perm h]
theorem nodup_perm {a b : List Int} (ha : a.Nodup) (hb : b.Nodup) (h : ∀ x, x ∈ a ↔ x ∈ b) : a.Perm b := (List.perm_ext_iff_of_nodup ha hb).2 h
/-- What follows, as a row. -/
def Row (l : List (List Int)) (known ks : List Int) : Prop := ks.Nodup ∧ ∀ x, Der l known x ↔ x ∈ ks
open Classical in
noncomputable def unitOf (l : List (List Int)) (vars : Int) (known : List Int) : List Int × Bool :=
  if rightOf l vars = true ∧ rightOf [known] vars = true then (if h : ¬ Conf l known ∧ ∃ ks, Row l known ks then normOf (Classical.choose h.2) else ([], false)) else ([], false)
theorem unitOf_wrong {l : List (List Int)} {vars : Int} {known : List Int} (h : ¬ (rightOf l vars = true ∧ rightOf [known] vars = true)) : unitOf l vars known = ([], false) := by
  unfold unitOf; rw [if_neg h]
theorem unitOf_conf {l : List (List Int)} {vars : Int} {known : List Int} (h : Conf l known) : unitOf l vars known = ([], false) := by
  unfold unitOf; split
  · rw [dif_neg (fun k => k.1 h)]
  · rfl
theorem unitOf_row {l : List (List Int)} {vars : Int} {known ks : List Int} (h1 : rightOf l vars = true) (h2 : rightOf [known] vars = true) (hn : ¬ Conf l known) (hk : Row l known ks) : unitOf l vars known = normOf ks := by
  unfold unitOf
  have hh : ¬ Conf l known ∧ ∃ ks, Row l known ks := ⟨hn, ks, hk⟩
  rw [if_pos ⟨h1, h2⟩, dif_pos hh]
  have hc := Classical.choose_spec hh.2
  exact normOf_perm (nodup_perm hc.1 hk.1 fun x => (hc.2 x).symm.trans (hk.2 x))
/-- Literals that may be so are of use. -/
def Wf (x : Int) : Prop := -9223372036854775808 ≤ x ∧ x ≤ 9223372036854775807
theorem lt_of_ok {vars x : Int} (hw : Wf x) (hv : vars ≤ 1048576) (h : litOk vars x = true) : Lt x := by
  simp only [litOk, Bool.and_eq_true, decide_eq_true_eq] at h
  obtain ⟨h1, h2⟩ := h
  unfold Wf at hw
  unfold Lt
  unfold pvar mx at h1 h2
  have e : wrap64 (-x) = -x ∨ x = -9223372036854775808 ∧ wrap64 (-x) = x := by unfold wrap64; omega
  rcases e with e | ⟨e, e2⟩
  · rw [e] at h1 h2
    split at h1 <;> split at h1 <;> (repeat' split at h2) <;> omega
  · rw [e2] at h1
    exfalso
    apply h1
    simp [show x < 0 by omega]
theorem lits_ok {l : List (List Int)} {vars : Int} (hw : ∀ c ∈ l, ∀ y ∈ c, Wf y) (h : rightOf l vars = true) : ∀ c ∈ l, ∀ y ∈ c, Lt y := by
  simp only [rightOf, Bool.and_eq_true, decide_eq_true_eq, List.all_eq_true] at h
  exact fun c hc y hy => lt_of_ok (hw c hc y hy) h.1.2 (h.2 c hc y hy)
/-- The bounds within which the contract speaks. -/
def Small (l : List (List Int)) (known : List Int) : Prop := l.flatten.length + known.length + 1 < 17592186044416 ∧ (∀ c ∈ l, ∀ y ∈ c, Wf y) ∧ ∀ y ∈ known, Wf y
instance (x : Int) : Decidable (Wf x) := by unfold Wf; infer_instance
instance (l : List (List Int)) (known : List Int) : Decidable (Small l known) := by unfold Small; infer_instance
noncomputable def prop_Unit.f (l : List (List Int)) (vars : Int) (known : List Int) : Option (List Int × Bool) := if Small l known then some (unitOf l vars known) else none
end Go.Proofs.Ytdlfmobnmcamaaa.Q
