/- The law RupMore in plain terms. -/
import Derived.Test.YtdlfmobnmcamaaaRupEv
import Derived.Test.YtdlfmobnmcamaaaQSayRupMore
namespace Go.Proofs.Ytdlfmobnmcamaaa.Pure
open Go.RowKit Go.Sort Go.Proofs.YtdlfmobnmcamaaaW.PrintWords Go.Proofs.YtdlfmobnmcamaaaW.PrintLast Go.Proofs.YtdlfmobnmcamaaaW.PrintMore Go.Proofs.Ytdlfmobnmcamaaa.Q
set_option linter.unusedVariables false
set_option linter.unusedSimpArgs false
theorem ask_step {l : List (List Int)} {c : List Int} (hl : ∀ c ∈ l, ∀ y ∈ c, Sm y) (hc : ∀ y ∈ c, Sm y) (h1 : l.flatten.length ≤ 10000) (h2 : c.length ≤ 1000) : Ask8 l (opp c) :=
  ⟨hl, opp_sm hc, by omega, by rw [opp_len]; omega⟩
theorem RupMore (x0 x1 : List (List Int)) (x2 : List Int) (h0 : BL22 x0) (h1 : BL22 x1) (h2 : BL23 x2) : ∃ k, proofmarklaw20_RupMore.f k x0 x1 x2 = some true := by
  refine Ev.rounds (g := fun k => proofmarklaw20_RupMore.f k x0 x1 x2) ?_
  have hl := smalls_sm (bl22_wf h0)
  have hm := smalls_sm (bl22_wf h1)
  have hc := known_sm (bl23_wf h2) 8
  have f0 := smalls_flat x0
  have f1 := smalls_flat x1
  have n0 := smalls_len x0
  have n1 := smalls_len x1
  have n2 := known_len x2 8
  unfold proofmarklaw20_RupMore.f
  refine Ev.bind (ev_is rfl) ?_
  refine Ev.bind (smalls_ev x0) ?_
  refine known_ev x2 8 (by omega) ?_
  obtain ⟨l, el⟩ : ∃ l, smallsOf x0 = l := ⟨_, rfl⟩
  obtain ⟨m, em⟩ : ∃ m, smallsOf x1 = m := ⟨_, rfl⟩
  obtain ⟨c, ec⟩ : ∃ c, knownOf x2 8 = c := ⟨_, rfl⟩
  have sm := smalls_ev x1
  rw [em] at sm hm f1 n1
  rw [el] at hl f0 n0 ⊢
  rw [ec] at hc n2 ⊢
  rw [half_le c.length (by omega)]
  have hf : ∀ y ∈ c.take (c.length / 2), Sm y := fun y hy => hc y (List.mem_of_mem_take hy)
  have lf : (c.take (c.length / 2)).length ≤ 8 := by rw [List.length_take]; omega
  have hw : ∀ d ∈ m ++ l, ∀ y ∈ d, Sm y := fun d hd => (List.mem_append.1 hd).elim (hm d) (hl d)
  have fw : (m ++ l).flatten.length ≤ 10000 := by rw [List.flatten_append, List.length_append]; omega
  have A1 := ask_step hl hf (by omega) (by omega)
  have A2 := ask_step hw hc fw (by omega)
  have A3 := ask_step hl hc (by omega) (by omega)
  have A4 := ask_step hw hf fw (by omega)
  simp only [show (0 : Int) ≤ ((c.length / 2 : Nat) : Int) by omega, show ((c.length / 2 : Nat) : Int) ≤ (c.length : Int) by omega, if_true, Int.toNat_natCast]
  refine Ev.bind (ev_is rfl) ?_
  refine Ev.bind (ev_is (step_f A1 8)) ?_
  cases hs : stepOf l 8 (c.take (c.length / 2)) with
  | false => simpa using Ev.now true
  | true =>
    have hc1 := (step_iff A1).1 hs
    have hsub : ∀ x ∈ opp (c.take (c.length / 2)), x ∈ opp c := fun x hx => by
      obtain ⟨y, hy, rfl⟩ := opp_mem.1 hx
      exact opp_mem.2 ⟨y, List.mem_of_mem_take hy, rfl⟩
    have s2 : stepOf (m ++ l) 8 c = true := (step_iff A2).2 (conf_more (fun d hd => List.mem_append_right _ hd) (fun x hx => .known (hsub x hx)) hc1)
    have s3 : stepOf l 8 c = true := (step_iff A3).2 (conf_more (fun d hd => hd) (fun x hx => .known (hsub x hx)) hc1)
    have s4 : stepOf (m ++ l) 8 (c.take (c.length / 2)) = true := (step_iff A4).2 (conf_more (fun d hd => List.mem_append_right _ hd) (fun x hx => .known hx) hc1)
    simp only [if_true]
    refine Ev.bind sm ?_
    simp only [show m.length + l.length < 5864062014805 by omega, if_true]
    refine Ev.bind (ev_is rfl) ?_
    refine Ev.bind (ev_is (step_f A2 8)) ?_
    simp only [s2, if_true]
    refine Ev.bind (ev_is (step_f A3 8)) ?_
    simp only [s3, if_true]
    refine Ev.bind (ev_is (step_f A4 8)) ?_
    rw [s4]
    exact Ev.now true
end Go.Proofs.Ytdlfmobnmcamaaa.Pure
