/- The law DimsTells in plain terms. -/
import Derived.Test.YtomlnddhfigbjaaDoorQPureBase
import Derived.Test.YtomlnddhfigbjaaDoorQSayDimsTells
namespace Go.Proofs.YtomlnddhfigbjaaDoor.Pure
open Go.RowKit Go.Proofs.YtomlnddhfigbjaaDoorW.PrintWords Go.Proofs.YtomlnddhfigbjaaDoorW.PrintLast Go.Proofs.YtomlnddhfigbjaaDoor.Q
theorem tells_stop (x1 : List Dm) (x2 : List Nm) (nm : ByteArray) (n : Int) : Ev (fun k => proofmarklaw04_DimsTells.j0 k x1 x2 true true nm n) true := by
  refine Ev.step (fun k => (proofmarklaw04_DimsTells.j0.eq_2 _ _ _ _ _ _ _)) ?_
  simp only [if_true]
  exact Ev.now _
theorem DimsTells : Q.DimsTells.Pure := by
  intro x0 x1 x2 h0 h1 h2
  apply Ev.rounds
  have hp := okp h2
  have hl := okd h1
  unfold proofmarklaw04_DimsTells.f
  refine Ev.bind head_ev ?_
  by_cases c1 : (x1.length : Int) > 100
  · simp only [if_pos c1]; exact tells_stop _ _ _ _
  · simp only [if_neg c1]
    by_cases c2 : (x2.length : Int) > 100
    · rw [decide_eq_true c2]; exact tells_stop _ _ _ _
    · rw [decide_eq_false c2]
      refine Ev.step (fun k => (proofmarklaw04_DimsTells.j0.eq_2 _ _ _ _ _ _ _)) ?_
      simp only [Bool.false_eq_true, if_false]
      refine Ev.bind (env_ev x2 hp) ?_
      simp only [value_eq _ _ x2 hp, width_eq _ _ x2 hp, Option.bind_some]
      refine Ev.bind (ref_ev _ _ x2 hp h0.2) ?_
      refine Ev.bind (refw_ev _ _ x2 hp h0.2) ?_
      refine Ev.bind (values_ev x1 x2 hl hp) ?_
      refine Ev.bind (refs_ev x1 x2 hl hp) ?_
      simp only [if_true]
      refine Ev.bind (same_ev _ ?_) ?_
      · have := VS_len x1 x2 []
        simp at this
        have := hl.1
        omega
      · simp only [if_true, beq_self_eq_true]
        exact Ev.now _
end Go.Proofs.YtomlnddhfigbjaaDoor.Pure
