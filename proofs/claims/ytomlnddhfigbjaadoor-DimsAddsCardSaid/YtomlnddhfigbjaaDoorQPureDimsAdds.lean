/- The law DimsAdds in plain terms. -/
import Derived.Test.YtomlnddhfigbjaaDoorQPureBase
import Derived.Test.YtomlnddhfigbjaaDoorQSayDimsAdds
namespace Go.Proofs.YtomlnddhfigbjaaDoor.Pure
open Go.RowKit Go.Proofs.YtomlnddhfigbjaaDoorW.PrintWords Go.Proofs.YtomlnddhfigbjaaDoorW.PrintLast Go.Proofs.YtomlnddhfigbjaaDoor.Q
theorem adds_stop (x0 : ByteArray) (x1 x2 : Int) (x3 : List Nm) : Ev (fun k => proofmarklaw04_DimsAdds.j0 k x0 x1 x2 x3 true true) true := by
  refine Ev.step (fun k => (proofmarklaw04_DimsAdds.j0.eq_2 _ _ _ _ _ _ _)) ?_
  simp only [if_true]
  exact Ev.now _
theorem V_adds (nm : ByteArray) (n m : Int) (p : List Nm) (hp : Okp p) (h0 : 0 ≤ n) (h1 : n ≤ 65535) (hm : 0 ≤ m) :
    ((V nm n p).2 ≠ 0 → V nm (n + m) p = (0, (V nm n p).2)) ∧ ((V nm n p).2 = 0 → (n + m > 65535 ∨ (V nm n p).1 + m > 65535) → V nm (n + m) p = (0, 41)) ∧ ((V nm n p).2 = 0 → ¬ n + m > 65535 → ¬ (V nm n p).1 + m > 65535 → V nm (n + m) p = ((V nm n p).1 + m, 0)) := by
  unfold V
  by_cases e : nm.toList ≠ [] ∧ sidx nm.toList (names p) 0 < 0
  · simp [e]
  · have := num_at nm p hp e
    simp only [if_neg e, if_neg (show ¬ (n < 0 ∨ n > 65535) by omega)]
    by_cases c : n + num nm p > 65535
    · simp only [if_pos c]
      by_cases c2 : n + m < 0 ∨ n + m > 65535
      · simp [c2]
      · simp only [if_neg c2, if_pos (show n + m + num nm p > 65535 by omega)]; simp
    · simp only [if_neg c]
      by_cases c2 : n + m < 0 ∨ n + m > 65535
      · simp only [if_pos c2]; simp; omega
      · simp only [if_neg c2]
        by_cases c3 : n + m + num nm p > 65535
        · simp only [if_pos c3]; simp; omega
        · simp only [if_neg c3]; simp; omega
theorem DimsAdds : Q.DimsAdds.Pure := by
  intro x0 x1 x2 x3 h0 h1 h2 h3
  apply Ev.rounds
  have hp := okp h3
  have b1 := bounds_u16 h1
  have b2 := bounds_u16 h2
  unfold proofmarklaw04_DimsAdds.f
  refine Ev.bind head_ev ?_
  by_cases c1 : (x3.length : Int) > 100
  · simp only [if_pos c1]; exact adds_stop _ _ _ _
  · simp only [if_neg c1]
    by_cases c2 : x0.toList = []
    · rw [show (x0.toList == ([] : List UInt8)) = true by simp [c2]]; exact adds_stop _ _ _ _
    · rw [show (x0.toList == ([] : List UInt8)) = false by simp [c2]]
      refine Ev.step (fun k => (proofmarklaw04_DimsAdds.j0.eq_2 _ _ _ _ _ _ _)) ?_
      simp only [Bool.false_eq_true, if_false]
      refine Ev.bind (env_ev x3 hp) ?_
      rw [wrap_id x1 (by omega) (by omega), wrap_id x2 (by omega) (by omega), wrap_id (x1 + x2) (by omega) (by omega)]
      simp only [value_eq _ _ x3 hp, Option.bind_some, if_true]
      have hv := V_le x0 x1 x3 hp
      rw [wrap_id ((V x0 x1 x3).1 + x2) (by omega) (by omega)]
      obtain ⟨a1, a2, a3⟩ := V_adds x0 x1 x2 x3 hp (by omega) (by omega) (by omega)
      by_cases c3 : (V x0 x1 x3).2 = 0
      · simp only [if_pos c3]
        by_cases c4 : x1 + x2 > 65535
        · rw [a2 c3 (Or.inl c4)]
          simp only [if_pos c4]; simp; exact Ev.now _
        · simp only [if_neg c4]
          by_cases c5 : (V x0 x1 x3).1 + x2 > 65535
          · rw [a2 c3 (Or.inr c5)]
            simp only [if_pos c5]; simp; exact Ev.now _
          · rw [a3 c3 c4 c5]
            simp only [if_neg c5]; simp; exact Ev.now _
      · rw [a1 c3]
        simp only [if_neg c3]; simp; exact Ev.now _
end Go.Proofs.YtomlnddhfigbjaaDoor.Pure
