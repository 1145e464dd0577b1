/- The law PropMore in plain terms. -/
import Derived.Test.YtdlfmobnmcamaaaPropEv
import Derived.Test.YtdlfmobnmcamaaaQSayPropMore
namespace Go.Proofs.Ytdlfmobnmcamaaa.Pure
open Go.RowKit Go.Sort Go.Proofs.YtdlfmobnmcamaaaW.PrintWords Go.Proofs.YtdlfmobnmcamaaaW.PrintLast Go.Proofs.YtdlfmobnmcamaaaW.PrintMore Go.Proofs.Ytdlfmobnmcamaaa.Q
set_option linter.unusedVariables false
set_option linter.unusedSimpArgs false
theorem more_l0 (a b : List Int) (ok : Bool) (ha : a.length ≤ 1000) (hb : b.length ≤ 1000) (hs : ∀ x ∈ a, x ∈ b) (hok : ok = true) : ∀ (d i : Nat), a.length - i = d → Ev (fun k => proofmarklaw18_PropMore.l0 k true a ok b (i : Int)) true
  | 0, i, hd => by
    refine Ev.step (f := fun _ => some true) (fun k => ?_) (Ev.now true)
    rw [proofmarklaw18_PropMore.l0, if_neg (by omega), if_pos rfl, hok]
  | d + 1, i, hd => by
    have h : i < a.length := by omega
    have hr : YtdlfmobnmcamaaaW.PrintWords.rd a (i : Int) = a[i] := by simp [YtdlfmobnmcamaaaW.PrintWords.rd, List.getD_eq_getElem?_getD, h]
    have ih := more_l0 a b ok ha hb hs hok d (i + 1) (by omega)
    refine Ev.step (fun k => by rw [proofmarklaw18_PropMore.l0, if_pos (by omega), if_pos (by omega), hr, wr i (by omega)]) ?_
    refine Ev.bind (has_ev b a[i] (by omega)) ?_
    rw [decide_eq_true (hs _ (List.getElem_mem h))]
    simpa using ih
theorem PropMore (x0 x1 : List (List Int)) (x2 : List Int) (h0 : BL22 x0) (h1 : BL22 x1) (h2 : BL23 x2) : ∃ k, proofmarklaw18_PropMore.f k x0 x1 x2 = some true := by
  refine Ev.rounds (g := fun k => proofmarklaw18_PropMore.f k x0 x1 x2) ?_
  have hl := smalls_sm (bl22_wf h0)
  have hm := smalls_sm (bl22_wf h1)
  have hc := known_sm (bl23_wf h2) 6
  have f0 := smalls_flat x0
  have f1 := smalls_flat x1
  have n0 := smalls_len x0
  have n1 := smalls_len x1
  have n2 := known_len x2 6
  have sm := smalls_ev x1
  unfold proofmarklaw18_PropMore.f
  refine Ev.bind (ev_is rfl) ?_
  refine Ev.bind (smalls_ev x0) ?_
  refine Ev.bind sm ?_
  refine Ev.bind (ev_is rfl) ?_
  obtain ⟨l, el⟩ : ∃ l, smallsOf x0 = l := ⟨_, rfl⟩
  obtain ⟨m, em⟩ : ∃ m, smallsOf x1 = m := ⟨_, rfl⟩
  obtain ⟨c, ec⟩ : ∃ c, knownOf x2 6 = c := ⟨_, rfl⟩
  rw [el] at hl f0 n0 ⊢
  rw [em] at hm f1 n1 ⊢
  rw [ec] at hc n2
  simp only [List.length_nil, show 0 + l.length < 5864062014805 by omega, if_true, List.nil_append]
  refine Ev.bind (ev_is rfl) ?_
  simp only [show l.length + m.length < 5864062014805 by omega, if_true]
  refine known_ev x2 6 (by omega) ?_
  rw [ec, half_le c.length (by omega)]
  simp only [show (0 : Int) ≤ ((c.length / 2 : Nat) : Int) by omega, show ((c.length / 2 : Nat) : Int) ≤ (c.length : Int) by omega, if_true, Int.toNat_natCast]
  have A : Ask8 l (c.take (c.length / 2)) := ⟨hl, fun y hy => hc y (List.mem_of_mem_take hy), by omega, by rw [List.length_take]; omega⟩
  have B : Ask8 (l ++ m) c := ⟨fun d hd => (List.mem_append.1 hd).elim (hl d) (hm d), hc, by rw [List.flatten_append, List.length_append]; omega, by omega⟩
  refine Ev.bind (ev_is A.unit) ?_
  refine Ev.bind (ev_is B.unit) ?_
  have d : ∀ x, Der l (c.take (c.length / 2)) x → Der (l ++ m) c x := fun x => der_more (fun d hd => List.mem_append_left _ hd) fun x hx => .known (List.mem_of_mem_take hx)
  have cf : Conf l (c.take (c.length / 2)) → Conf (l ++ m) c := conf_more (fun d hd => List.mem_append_left _ hd) fun x hx => .known (List.mem_of_mem_take hx)
  rcases B.spec with ⟨hb, eb⟩ | ⟨hb, ob, eb, mb, rb⟩
  · rw [eb]
    simpa using Ev.now true
  · rcases A.spec with ⟨ha, ea⟩ | ⟨ha, oa, ea, ma, ra⟩
    · exact absurd (cf ha) hb
    · have la : oa.length ≤ 8 := rise_len ra fun y hy => der_sm A ((ma y).1 hy)
      have lb : ob.length ≤ 8 := rise_len rb fun y hy => der_sm B ((mb y).1 hy)
      rw [ea, eb]
      simp only [if_true]
      exact more_l0 oa ob true (by omega) (by omega) (fun x hx => (mb x).2 (d x ((ma x).1 hx))) rfl _ 0 rfl
end Go.Proofs.Ytdlfmobnmcamaaa.Pure
