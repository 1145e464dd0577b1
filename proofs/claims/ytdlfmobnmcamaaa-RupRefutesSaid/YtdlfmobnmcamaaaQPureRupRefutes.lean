/- The law RupRefutes in plain terms. -/
import Derived.Test.YtdlfmobnmcamaaaRupEv
import Derived.Test.YtdlfmobnmcamaaaQSayRupRefutes
namespace Go.Proofs.Ytdlfmobnmcamaaa.Pure
open Go.RowKit Go.Sort Go.Proofs.YtdlfmobnmcamaaaW.PrintWords Go.Proofs.YtdlfmobnmcamaaaW.PrintLast Go.Proofs.YtdlfmobnmcamaaaW.PrintMore Go.Proofs.Ytdlfmobnmcamaaa.Q
set_option linter.unusedVariables false
set_option linter.unusedSimpArgs false
theorem ask_step {l : List (List Int)} {c : List Int} (hl : ∀ c ∈ l, ∀ y ∈ c, Sm y) (hc : ∀ y ∈ c, Sm y) (h1 : l.flatten.length ≤ 10000) (h2 : c.length ≤ 1000) : Ask8 l (opp c) :=
  ⟨hl, opp_sm hc, by omega, by rw [opp_len]; omega⟩
theorem refutes_l0 (l : List (List Int)) (a : List Int) (ha : a.length < 17592186044416) (H : ∀ m : List Bool, m.length = 8 → Meets m l → ¬ ∀ y ∈ a, litTrue m y = true) :
    ∀ (d n : Nat), 256 - n = d → Ev (fun k => proofmarklaw20_RupRefutes.l0 k true l a (n : Int)) true
  | 0, n, hd => by
    refine Ev.step (f := fun _ => some true) (fun k => ?_) (Ev.now true)
    rw [proofmarklaw20_RupRefutes.l0, if_neg (by omega)]
  | d + 1, n, hd => by
    have ih := refutes_l0 l a ha H d (n + 1) (by omega)
    refine Ev.step (fun k => by rw [proofmarklaw20_RupRefutes.l0, if_pos (by omega), wr n (by omega)]) ?_
    refine Ev.bind (model_ev (n : Int) 8 (by omega)) ?_
    refine Ev.bind (ev_is (met_f _ _)) ?_
    cases hm : (l.all fun c => c.any (litTrue (modelOf 8 (n : Int)))) with
    | false => simpa using ih
    | true =>
      have h := H _ (modelOf_len 8 _) ((meets_iff _ _).1 hm)
      simp only [if_true]
      refine Ev.bind (all20_ev a _ ha) ?_
      rw [show a.all (litTrue (modelOf 8 (n : Int))) = false by
        cases e : a.all (litTrue (modelOf 8 (n : Int))) with
        | false => rfl
        | true => exact absurd (by simpa using e) h]
      simpa using ih
theorem RupRefutes (x0 x1 : List (List Int)) (x2 : List Int) (h0 : BL22 x0) (h1 : BL22 x1) (h2 : BL23 x2) : ∃ k, proofmarklaw20_RupRefutes.f k x0 x1 x2 = some true := by
  refine Ev.rounds (g := fun k => proofmarklaw20_RupRefutes.f k x0 x1 x2) ?_
  have A := askc_of (smalls_sm (bl22_wf h0)) (smalls_sm (bl22_wf h1)) (known_sm (bl23_wf h2) 6) (by have := smalls_len x0; omega) (by have := smalls_len x1; omega) (by have := smalls_flat x0; omega) (by have := smalls_flat x1; omega) (by have := known_len x2 6; omega)
  unfold proofmarklaw20_RupRefutes.f
  refine Ev.bind (ev_is rfl) ?_
  refine Ev.bind (smalls_ev x0) ?_
  refine Ev.bind (smalls_ev x1) ?_
  refine known_ev x2 6 (by omega) ?_
  refine Ev.bind (ev_is (check_f A 8)) ?_
  cases hs : checkOf (smallsOf x0) 8 (smallsOf x1) (knownOf x2 6) with
  | false => simpa using Ev.now true
  | true =>
    simp only [if_true]
    exact refutes_l0 _ _ (by have := A.few; omega) (fun m hm hq => chk_no A hm hq ((check_iff A (by omega) (by omega)).1 hs)) _ 0 rfl
end Go.Proofs.Ytdlfmobnmcamaaa.Pure
