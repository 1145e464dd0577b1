/- The law PropUnits in plain terms. -/
import Derived.Test.YtdlfmobnmcamaaaPropEv
import Derived.Test.YtdlfmobnmcamaaaQSayPropUnits
namespace Go.Proofs.Ytdlfmobnmcamaaa.Pure
open Go.RowKit Go.Sort Go.Proofs.YtdlfmobnmcamaaaW.PrintWords Go.Proofs.YtdlfmobnmcamaaaW.PrintLast Go.Proofs.YtdlfmobnmcamaaaW.PrintMore Go.Proofs.Ytdlfmobnmcamaaa.Q
set_option linter.unusedVariables false
set_option linter.unusedSimpArgs false
theorem units_l0 (l : List (List Int)) (known a : List Int) (ok : Bool) (hk : known.length < 17592186044416) (ha : a.length < 17592186044416) (H : ∀ m : List Bool, Meets m l → (∀ y ∈ known, litTrue m y = true) → ok = true ∧ ∀ y ∈ a, litTrue m y = true) :
    ∀ (d n : Nat), 256 - n = d → Ev (fun k => proofmarklaw18_PropUnits.l0 k true l known a ok (n : Int)) true
  | 0, n, hd => by
    refine Ev.step (f := fun _ => some true) (fun k => ?_) (Ev.now true)
    rw [proofmarklaw18_PropUnits.l0, if_neg (by omega)]
  | d + 1, n, hd => by
    have ih := units_l0 l known a ok hk ha H d (n + 1) (by omega)
    refine Ev.step (fun k => by rw [proofmarklaw18_PropUnits.l0, if_pos (by omega), wr n (by omega)]) ?_
    refine Ev.bind (model_ev (n : Int) 8 (by omega)) ?_
    refine Ev.bind (ev_is (met_f _ _)) ?_
    cases hm : (l.all fun c => c.any (litTrue (modelOf 8 (n : Int)))) with
    | false => simpa using ih
    | true =>
      simp only [if_true]
      refine Ev.bind (all_ev known _ hk) ?_
      cases hq : known.all (litTrue (modelOf 8 (n : Int))) with
      | false => simpa using ih
      | true =>
        obtain ⟨h1, h2⟩ := H _ ((meets_iff _ _).1 hm) (by simpa using hq)
        subst h1
        simp only [if_true]
        refine Ev.bind (all_ev a _ ha) ?_
        rw [show a.all (litTrue (modelOf 8 (n : Int))) = true by simpa using h2]
        simpa using ih
theorem PropUnits (x0 : List (List Int)) (x1 : List Int) (h0 : BL22 x0) (h1 : BL23 x1) : ∃ k, proofmarklaw18_PropUnits.f k x0 x1 = some true := by
  refine Ev.rounds (g := fun k => proofmarklaw18_PropUnits.f k x0 x1) ?_
  have A := ask8_of h0 h1 6 (by omega)
  unfold proofmarklaw18_PropUnits.f
  refine Ev.bind (ev_is rfl) ?_
  refine Ev.bind (smalls_ev x0) ?_
  refine known_ev x1 6 (by omega) ?_
  refine Ev.bind (ev_is A.unit) ?_
  rcases A.spec with ⟨hc, e⟩ | ⟨hc, out, e, hm, hr⟩
  · rw [e]
    exact units_l0 _ _ _ _ (by have := A.few; omega) (by simp) (fun m hm hk => absurd hc (conf_no A.lits A.lt hm hk)) _ 0 rfl
  · rw [e]
    exact units_l0 _ _ _ _ (by have := A.few; omega) (by have := rise_len hr (fun y hy => der_sm A ((hm y).1 hy)); show out.length < _; omega) (fun m hq hk => ⟨rfl, fun y hy => der_true A.lits hq hk ((hm y).1 hy)⟩) _ 0 rfl
end Go.Proofs.Ytdlfmobnmcamaaa.Pure
