/- The law DimsMany in plain terms. -/
import Derived.Test.YtomlnddhfigbjaaDoorQPureBase
import Derived.Test.YtomlnddhfigbjaaDoorQSayDimsMany
namespace Go.Proofs.YtomlnddhfigbjaaDoor.Pure
open Go.RowKit Go.Proofs.YtomlnddhfigbjaaDoorW.PrintWords Go.Proofs.YtomlnddhfigbjaaDoorW.PrintLast Go.Proofs.YtomlnddhfigbjaaDoor.Q
theorem many_stop (x0 : List Dm) (x1 : List Nm) : Ev (fun k => proofmarklaw04_DimsMany.j0 k x0 x1 true true) true := by
  refine Ev.step (fun k => (proofmarklaw04_DimsMany.j0.eq_2 _ _ _ _ _)) ?_
  simp only [if_true]
  exact Ev.now _
/-- Either all are told, or the first that is wrong. -/
theorem VS_ok : ∀ (l : List Dm) (p : List Nm) (acc : List Int), (∀ d ∈ l, (V d.f0 d.f1 p).2 = 0) → VS l p acc = (acc ++ l.map (fun d => (V d.f0 d.f1 p).1), 0)
  | [], p, acc, _ => by simp [VS]
  | d :: r, p, acc, h => by
    rw [VS, if_pos (h d (List.mem_cons_self ..)), VS_ok r p _ (fun d hd => h d (List.mem_cons_of_mem _ hd))]
    simp
theorem VS_no : ∀ (l : List Dm) (p : List Nm) (acc : List Int) (i : Nat) (hi : i < l.length), (V l[i].f0 l[i].f1 p).2 ≠ 0 → (∀ j (hj : j < i), (V l[j].f0 l[j].f1 p).2 = 0) → VS l p acc = ([], (V l[i].f0 l[i].f1 p).2)
  | [], p, acc, i, hi, _, _ => by simp at hi
  | d :: r, p, acc, 0, hi, h, _ => by rw [VS]; exact if_neg h
  | d :: r, p, acc, i + 1, hi, h, h' => by
    rw [VS, if_pos (show (V d.f0 d.f1 p).2 = 0 from h' 0 (by omega))]
    exact VS_no r p _ i (by simpa using hi) (by simpa using h) (fun j hj => by have := h' (j + 1) (by omega); simpa using this)
theorem VS_err : ∀ (l : List Dm) (p : List Nm) (acc : List Int), (VS l p acc).2 ≠ 0 → ∃ d ∈ l, (V d.f0 d.f1 p).2 ≠ 0
  | [], p, acc, h => absurd rfl h
  | d :: r, p, acc, h => by
    by_cases c : (V d.f0 d.f1 p).2 = 0
    · rw [VS, if_pos c] at h
      obtain ⟨e, he, h2⟩ := VS_err r p _ h
      exact ⟨e, List.mem_cons_of_mem _ he, h2⟩
    · exact ⟨d, List.mem_cons_self .., c⟩
theorem DimsMany : Q.DimsMany.Pure := by
  intro x0 x1 h0 h1
  apply Ev.rounds
  have hp := okp h1
  have hl := okd h0
  have hl1 := hl.1
  unfold proofmarklaw04_DimsMany.f
  refine Ev.bind head_ev ?_
  by_cases c1 : (x0.length : Int) > 100
  · simp only [if_pos c1]; exact many_stop _ _
  · simp only [if_neg c1]
    by_cases c2 : (x1.length : Int) > 100
    · rw [decide_eq_true c2]; exact many_stop _ _
    · rw [decide_eq_false c2]
      refine Ev.step (fun k => (proofmarklaw04_DimsMany.j0.eq_2 _ _ _ _ _)) ?_
      simp only [Bool.false_eq_true, if_false]
      refine Ev.bind (env_ev x1 hp) ?_
      refine Ev.bind (values_ev x0 x1 hl hp) ?_
      have main : ∀ (d i : Nat), x0.length - i = d → i ≤ x0.length → (∀ j (hj : j < i) (hj2 : j < x0.length), (V x0[j].f0 x0[j].f1 x1).2 = 0) → Ev (fun k => proofmarklaw04_DimsMany.l0 k x0 true (names x1) (vals x1) (VS x0 x1 []).1 (VS x0 x1 []).2 (i : Int)) true := by
        intro d
        induction d with
        | zero =>
          intro i hd hi hall
          refine Ev.step (fun k => (proofmarklaw04_DimsMany.l0.eq_2 _ _ _ _ _ _ _ _)) ?_
          have hv := VS_ok x0 x1 [] (fun d hd => by
            obtain ⟨j, hj, rfl⟩ := List.getElem_of_mem hd
            exact hall j (by omega) hj)
          simp only [show ¬ ((i : Int) < (x0.length : Int)) by omega, if_false, if_true, hv]
          simp
          exact Ev.now _
        | succ d ih =>
          intro i hd hi hall
          have hil : i < x0.length := by omega
          refine Ev.step (fun k => (proofmarklaw04_DimsMany.l0.eq_2 _ _ _ _ _ _ _ _)) ?_
          simp only [show ((i : Int) < (x0.length : Int)) by omega, if_true, show (0 : Int) ≤ (i : Int) by omega, wrap_succ i (by omega), rdD x0 i hil, value_eq _ _ x1 hp, Option.bind_some]
          by_cases c : (V x0[i].f0 x0[i].f1 x1).2 = 0
          · simp only [if_pos c]
            have hall' : ∀ j (hj : j < i + 1) (hj2 : j < x0.length), (V x0[j].f0 x0[j].f1 x1).2 = 0 := fun j hj hj2 => by
              rcases Nat.lt_or_ge j i with h | h
              · exact hall j h hj2
              · have : j = i := by omega
                subst this; exact c
            by_cases c4 : (VS x0 x1 []).2 = 0
            · have hno : ∀ d ∈ x0, (V d.f0 d.f1 x1).2 = 0 := by
                intro d hd
                apply Classical.byContradiction
                intro hne
                have hex : ∃ j, ∃ hj : j < x0.length, (V x0[j].f0 x0[j].f1 x1).2 ≠ 0 := by
                  obtain ⟨j, hj, rfl⟩ := List.getElem_of_mem hd
                  exact ⟨j, hj, hne⟩
                have hfirst : ∃ j, ∃ hj : j < x0.length, (V x0[j].f0 x0[j].f1 x1).2 ≠ 0 ∧ ∀ m (hm : m < j), (V x0[m].f0 x0[m].f1 x1).2 = 0 := by
                  obtain ⟨j, hj, hn⟩ := hex
                  induction j using Nat.strongRecOn with
                  | _ j ihj =>
                    by_cases hh : ∃ m, ∃ hm : m < j, (V x0[m].f0 x0[m].f1 x1).2 ≠ 0
                    · obtain ⟨m, hm, hmn⟩ := hh
                      exact ihj m hm (by omega) hmn
                    · refine ⟨j, hj, hn, fun m hm => ?_⟩
                      apply Classical.byContradiction
                      intro hx
                      exact hh ⟨m, hm, hx⟩
                obtain ⟨j, hj, hn, hb⟩ := hfirst
                have := VS_no x0 x1 [] j hj hn hb
                rw [this] at c4
                exact hn c4
              have hv := VS_ok x0 x1 [] hno
              have hrd : rd (VS x0 x1 []).1 (i : Int) = (V x0[i].f0 x0[i].f1 x1).1 := by
                rw [hv, rdI _ i (by simp; exact hil)]; simp
              have hlen : (VS x0 x1 []).1.length = x0.length := by rw [hv]; simp
              simp only [if_pos c4, hlen, if_true, show ((i : Int) < (x0.length : Int)) by omega, hrd]
              exact ih (i + 1) (by omega) (by omega) hall'
            · simp only [if_neg c4]
              exact ih (i + 1) (by omega) (by omega) hall'
          · simp only [if_neg c]
            rw [VS_no x0 x1 [] i hil c (fun j hj => hall j hj (by omega))]
            simp
            exact Ev.now _
      exact main x0.length 0 (by omega) (by omega) (fun j hj _ => by omega)
end Go.Proofs.YtomlnddhfigbjaaDoor.Pure
