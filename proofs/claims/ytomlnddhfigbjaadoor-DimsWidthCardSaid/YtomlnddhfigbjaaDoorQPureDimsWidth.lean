/- The law DimsWidth in plain terms. -/
import Derived.Test.YtomlnddhfigbjaaDoorQPureBase
import Derived.Test.YtomlnddhfigbjaaDoorQSayDimsWidth
namespace Go.Proofs.YtomlnddhfigbjaaDoor.Pure
open Go.RowKit Go.Proofs.YtomlnddhfigbjaaDoorW.PrintWords Go.Proofs.YtomlnddhfigbjaaDoorW.PrintLast Go.Proofs.YtomlnddhfigbjaaDoor.Q
theorem DimsWidth : Q.DimsWidth.Pure := by
  intro x0 x1 h0 h1
  apply Ev.rounds
  have hp := okp h1
  unfold proofmarklaw04_DimsWidth.f
  refine Ev.bind head_ev ?_
  by_cases c1 : (x1.length : Int) > 100
  · simp only [if_pos c1]; exact Ev.now _
  · simp only [if_neg c1]
    refine Ev.bind (env_ev x1 hp) ?_
    simp only [value_eq _ _ x1 hp, width_eq _ _ x1 hp, Option.bind_some, if_true, Wd]
    by_cases c3 : (V x0.f0 x0.f1 x1).2 = 0
    · simp only [if_pos c3]
      by_cases c4 : (V x0.f0 x0.f1 x1).1 < 1
      · simp only [if_pos c4, if_pos (Or.inl c4 : (V x0.f0 x0.f1 x1).1 < 1 ∨ (V x0.f0 x0.f1 x1).1 > 16)]; simp; exact Ev.now _
      · simp only [if_neg c4]
        by_cases c5 : (V x0.f0 x0.f1 x1).1 > 16
        · simp only [if_pos c5, if_pos (Or.inr c5 : (V x0.f0 x0.f1 x1).1 < 1 ∨ (V x0.f0 x0.f1 x1).1 > 16)]; simp; exact Ev.now _
        · simp only [if_neg c5, if_neg (show ¬ ((V x0.f0 x0.f1 x1).1 < 1 ∨ (V x0.f0 x0.f1 x1).1 > 16) by omega)]; simp; exact Ev.now _
    · simp only [if_neg c3]; simp; exact Ev.now _
end Go.Proofs.YtomlnddhfigbjaaDoor.Pure
