/- The law DimsPlain in plain terms. -/
import Derived.Test.YtomlnddhfigbjaaDoorQPureBase
import Derived.Test.YtomlnddhfigbjaaDoorQSayDimsPlain
namespace Go.Proofs.YtomlnddhfigbjaaDoor.Pure
open Go.RowKit Go.Proofs.YtomlnddhfigbjaaDoorW.PrintWords Go.Proofs.YtomlnddhfigbjaaDoorW.PrintLast Go.Proofs.YtomlnddhfigbjaaDoor.Q
theorem V_plain (n : Int) (p : List Nm) : V (⟨#[]⟩ : ByteArray) n p = if n < 0 ∨ n > 65535 then (0, 41) else (n, 0) := by
  have e : (⟨#[]⟩ : ByteArray).toList = [] := by rw [toList_data]
  have hn : num (⟨#[]⟩ : ByteArray) p = 0 := by rw [num, if_pos e]
  rw [V, if_neg (by simp [e]), hn]
  split
  · rfl
  · rw [if_neg (by omega)]; simp
theorem DimsPlain : Q.DimsPlain.Pure := by
  intro x0 x1 h0 h1
  apply Ev.rounds
  have hp := okp h1
  have hb := bounds_i64 h0
  unfold proofmarklaw04_DimsPlain.f
  refine Ev.bind head_ev ?_
  by_cases c1 : (x1.length : Int) > 100
  · simp only [if_pos c1]; exact Ev.now _
  · simp only [if_neg c1]
    refine Ev.bind (env_ev x1 hp) ?_
    simp only [value_eq _ _ x1 hp, width_eq _ _ x1 hp, Option.bind_some, Wd, V_plain]
    by_cases c2 : x0 < 0
    · simp only [if_pos c2, if_pos (Or.inl c2 : x0 < 0 ∨ x0 > 65535)]
      refine Ev.step (fun k => (proofmarklaw04_DimsPlain.j0.eq_2 _ _ _ _ _ _ _ _)) ?_
      simp
      exact Ev.now _
    · simp only [if_neg c2]
      by_cases c3 : x0 > 65535
      · rw [decide_eq_true c3]
        simp only [if_pos (Or.inr c3 : x0 < 0 ∨ x0 > 65535)]
        refine Ev.step (fun k => (proofmarklaw04_DimsPlain.j0.eq_2 _ _ _ _ _ _ _ _)) ?_
        simp
        exact Ev.now _
      · rw [decide_eq_false c3]
        simp only [if_neg (show ¬ (x0 < 0 ∨ x0 > 65535) by omega), if_true]
        refine Ev.step (fun k => (proofmarklaw04_DimsPlain.j0.eq_2 _ _ _ _ _ _ _ _)) ?_
        simp only [Bool.false_eq_true, if_false, if_true]
        by_cases c4 : x0 < 1
        · simp only [if_pos c4, if_pos (Or.inl c4 : x0 < 1 ∨ x0 > 16)]
          simp
          exact Ev.now _
        · simp only [if_neg c4]
          by_cases c5 : x0 > 16
          · simp only [if_pos c5, if_pos (Or.inr c5 : x0 < 1 ∨ x0 > 16)]
            simp
            exact Ev.now _
          · simp only [if_neg c5, if_neg (show ¬ (x0 < 1 ∨ x0 > 16) by omega)]
            simp
            exact Ev.now _
end Go.Proofs.YtomlnddhfigbjaaDoor.Pure
