/- The law RupCuts in plain terms. -/
import Derived.Test.YtdlfmobnmcamaaaRupEv
import Derived.Test.YtdlfmobnmcamaaaQSayRupCuts
namespace Go.Proofs.Ytdlfmobnmcamaaa.Pure
open Go.RowKit Go.Sort Go.Proofs.YtdlfmobnmcamaaaW.PrintWords Go.Proofs.YtdlfmobnmcamaaaW.PrintLast Go.Proofs.YtdlfmobnmcamaaaW.PrintMore Go.Proofs.Ytdlfmobnmcamaaa.Q
set_option linter.unusedVariables false
set_option linter.unusedSimpArgs false
theorem ask_step {l : List (List Int)} {c : List Int} (hl : ∀ c ∈ l, ∀ y ∈ c, Sm y) (hc : ∀ y ∈ c, Sm y) (h1 : l.flatten.length ≤ 10000) (h2 : c.length ≤ 1000) : Ask8 l (opp c) :=
  ⟨hl, opp_sm hc, by omega, by rw [opp_len]; omega⟩
theorem cuts_l0 (l p : List (List Int)) (N : Nat) (hN : N ≤ p.length) (hl : l.length ≤ 1000) (hp : p.length ≤ 1000) (H : ∀ i, (h : i < p.length) → rup_Step.f (l ++ p.take i) 8 p[i] = some true) (HC : rup_Check.f (l ++ p.take N) 8 (p.drop N) [] = some true) :
    ∀ (d i : Nat), N - i = d → i ≤ N → Ev (fun k => proofmarklaw20_RupCuts.l0 k (N : Int) true p (l ++ p.take i) (i : Int)) true
  | 0, i, hd, hi => by
    obtain rfl : i = N := by omega
    refine Ev.step (fun k => by rw [proofmarklaw20_RupCuts.l0, if_neg (by omega), if_pos rfl, if_pos (by omega), if_pos (by omega), Int.toNat_natCast, HC, Option.bind_some]) ?_
    exact Ev.now true
  | d + 1, i, hd, hi => by
    have h : i < p.length := by omega
    have ih := cuts_l0 l p N hN hl hp H HC d (i + 1) (by omega) (by omega)
    refine Ev.step (fun k => by rw [proofmarklaw20_RupCuts.l0, if_pos (by omega), if_pos (by omega), if_pos (by omega), rdL p i h, H i h, Option.bind_some, if_pos rfl, if_pos (by rw [List.length_append, List.length_take]; omega), wr i (by omega)]) ?_
    rw [List.append_assoc, ← List.take_succ_eq_append_getElem h]
    exact ih
theorem RupCuts (x0 x1 : List (List Int)) (x2 : Int) (h0 : BL22 x0) (h1 : BL22 x1) (h2 : (Lit.int .i64 x2).wf = true) : ∃ k, proofmarklaw20_RupCuts.f k x0 x1 x2 = some true := by
  refine Ev.rounds (g := fun k => proofmarklaw20_RupCuts.f k x0 x1 x2) ?_
  have hl := smalls_sm (bl22_wf h0)
  have hp := smalls_sm (bl22_wf h1)
  have f0 := smalls_flat x0
  have f1 := smalls_flat x1
  have n0 := smalls_len x0
  have n1 := smalls_len x1
  unfold proofmarklaw20_RupCuts.f
  refine Ev.bind (ev_is rfl) ?_
  refine Ev.bind (smalls_ev x0) ?_
  refine Ev.bind (smalls_ev x1) ?_
  obtain ⟨l, el⟩ : ∃ l, smallsOf x0 = l := ⟨_, rfl⟩
  obtain ⟨p, ep⟩ : ∃ p, smallsOf x1 = p := ⟨_, rfl⟩
  rw [el] at hl f0 n0 ⊢
  rw [ep] at hp f1 n1 ⊢
  have A := askc_of hl hp (a := []) (by simp) (by omega) (by omega) (by omega) (by omega) (by simp)
  refine Ev.bind (ev_is (check_f A 8)) ?_
  have stop : Ev (fun k => proofmarklaw20_RupCuts.j0 k x2 true l p true) true := Ev.step (fun k => by rw [proofmarklaw20_RupCuts.j0, if_pos rfl]) (Ev.now true)
  cases hs : checkOf l 8 p [] with
  | false => simpa using stop
  | true =>
    have hc := (check_iff A (by omega) (by omega)).1 hs
    simp only [if_true]
    by_cases c1 : x2 < 0
    · simp only [c1, if_true]; exact stop
    · simp only [c1, if_false]
      by_cases c2 : x2 > (p.length : Int)
      · simp only [c2, decide_true]; exact stop
      · simp only [c2, decide_false]
        obtain ⟨N, rfl⟩ := Int.eq_ofNat_of_zero_le (show 0 ≤ x2 by omega)
        have hN : N ≤ p.length := by omega
        refine Ev.step (fun k => by rw [proofmarklaw20_RupCuts.j0, if_neg (by simp)]) ?_
        refine Ev.bind (ev_is rfl) ?_
        simp only [List.length_nil, show 0 + l.length < 5864062014805 by omega, if_true, List.nil_append]
        have ht : ∀ i, ∀ d ∈ l ++ p.take i, ∀ y ∈ d, Sm y := fun i d hd => (List.mem_append.1 hd).elim (hl d) (fun h => hp d (List.mem_of_mem_take h))
        have fl : ∀ i, (l ++ p.take i).flatten.length ≤ 1000 := fun i => by
          have : p.flatten = (p.take i).flatten ++ (p.drop i).flatten := by rw [← List.flatten_append, List.take_append_drop]
          have h3 := congrArg List.length this
          rw [List.length_append] at h3
          rw [List.flatten_append, List.length_append]
          omega
        have fd : (p.drop N).flatten.length ≤ 1000 := by
          have : p.flatten = (p.take N).flatten ++ (p.drop N).flatten := by rw [← List.flatten_append, List.take_append_drop]
          have h3 := congrArg List.length this
          rw [List.length_append] at h3
          omega
        have A2 := askc_of (l := l ++ p.take N) (p := p.drop N) (ht N) (fun d hd => hp d (List.mem_of_mem_drop hd)) (a := []) (by simp) (by rw [List.length_append, List.length_take]; omega) (by rw [List.length_drop]; omega) (by have := fl N; omega) (by omega) (by simp)
        have := cuts_l0 l p N hN (by omega) (by omega) (fun i hi => by
          have A1 := ask_step (ht i) (hp _ (List.getElem_mem hi)) (by have := fl i; omega) (by have := smalls_len8 x1 p[i] (by rw [ep]; exact List.getElem_mem hi); omega)
          rw [step_f A1, (step_iff A1).2 (chk_at i hi hc)]) (by rw [check_f A2, (check_iff A2 (by omega) (by omega)).2 (chk_drop N hN hc)]) N 0 (by omega) (by omega)
        simpa using this
end Go.Proofs.Ytdlfmobnmcamaaa.Pure
