/- The law RupFollows in plain terms. -/
import Derived.Test.YtdlfmobnmcamaaaRupEv
import Derived.Test.YtdlfmobnmcamaaaQSayRupFollows
namespace Go.Proofs.Ytdlfmobnmcamaaa.Pure
open Go.RowKit Go.Sort Go.Shelf Go.Proofs.YtdlfmobnmcamaaaW.PrintWords Go.Proofs.YtdlfmobnmcamaaaW.PrintLast Go.Proofs.YtdlfmobnmcamaaaW.PrintMore Go.Proofs.Ytdlfmobnmcamaaa.Q
set_option linter.unusedVariables false
set_option linter.unusedSimpArgs false
theorem ask_step {l : List (List Int)} {c : List Int} (hl : ∀ c ∈ l, ∀ y ∈ c, Sm y) (hc : ∀ y ∈ c, Sm y) (h1 : l.flatten.length ≤ 10000) (h2 : c.length ≤ 1000) : Ask8 l (opp c) :=
  ⟨hl, opp_sm hc, by omega, by rw [opp_len]; omega⟩
theorem follows_l0 (l : List (List Int)) (c : List Int) (H : ∀ m : List Bool, m.length = 8 → Meets m l → ∃ y ∈ c, litTrue m y = true) :
    ∀ (d n : Nat), 256 - n = d → Ev (fun k => proofmarklaw20_RupFollows.l0 k true l c (n : Int)) true
  | 0, n, hd => by
    refine Ev.step (f := fun _ => some true) (fun k => ?_) (Ev.now true)
    rw [proofmarklaw20_RupFollows.l0, if_neg (by omega)]
  | d + 1, n, hd => by
    have ih := follows_l0 l c H d (n + 1) (by omega)
    refine Ev.step (fun k => by rw [proofmarklaw20_RupFollows.l0, if_pos (by omega), wr n (by omega)]) ?_
    refine Ev.bind (model_ev (n : Int) 8 (by omega)) ?_
    refine Ev.bind (ev_is (met_f _ _)) ?_
    cases hm : (l.all fun c => c.any (litTrue (modelOf 8 (n : Int)))) with
    | false => simpa using ih
    | true =>
      have h := H _ (modelOf_len 8 _) ((meets_iff _ _).1 hm)
      simp only [if_true]
      refine Ev.bind (ev_is (met_f _ _)) ?_
      rw [show ([c].all fun c => c.any (litTrue (modelOf 8 (n : Int)))) = true by simpa using h]
      simpa using ih
theorem RupFollows (x0 : List (List Int)) (x1 : List Int) (h0 : BL22 x0) (h1 : BL23 x1) : ∃ k, proofmarklaw20_RupFollows.f k x0 x1 = some true := by
  refine Ev.rounds (g := fun k => proofmarklaw20_RupFollows.f k x0 x1) ?_
  have hl := smalls_sm (bl22_wf h0)
  have hc := known_sm (bl23_wf h1) 6
  have A := ask_step hl hc (by have := smalls_flat x0; omega) (by have := known_len x1 6; omega)
  unfold proofmarklaw20_RupFollows.f
  refine Ev.bind (ev_is rfl) ?_
  refine Ev.bind (smalls_ev x0) ?_
  refine known_ev x1 6 (by omega) ?_
  refine Ev.bind (ev_is (step_f A 8)) ?_
  cases hs : stepOf (smallsOf x0) 8 (knownOf x1 6) with
  | false => simpa using Ev.now true
  | true =>
    simp only [if_true]
    exact follows_l0 _ _ (fun m hm hq => step_true A hc hm hq ((step_iff A).1 hs)) _ 0 rfl
end Go.Proofs.Ytdlfmobnmcamaaa.Pure
