/- The law PropOrder in plain terms. -/
import Derived.Test.YtdlfmobnmcamaaaPropEv
import Derived.Test.YtdlfmobnmcamaaaQSayPropOrder
namespace Go.Proofs.Ytdlfmobnmcamaaa.Pure
open Go.RowKit Go.Sort Go.Proofs.YtdlfmobnmcamaaaW.PrintWords Go.Proofs.YtdlfmobnmcamaaaW.PrintLast Go.Proofs.YtdlfmobnmcamaaaW.PrintMore Go.Proofs.Ytdlfmobnmcamaaa.Q
set_option linter.unusedVariables false
set_option linter.unusedSimpArgs false
theorem order_l1 (l : List (List Int)) (known : List Int) (turned : List (List Int)) (hk : known.length ≤ 1000) (r : Bool) (H : Ev (fun k => (prop_Unit.f l 8 known).bind fun bt384 => ((prop_Unit.f turned 8 known.reverse).bind fun bt388 => (if (bt384.2 == bt388.2) = true then ((proofmarkref18_Same.f k bt384.1 bt388.1).bind fun t392 => (some t392)) else (some false)))) r) :
    ∀ (n : Nat) (back : List Int), n ≤ known.length → back.length = known.length - n → back ++ (known.take n).reverse = known.reverse → Ev (fun k => proofmarklaw18_PropOrder.l1 k true l known turned back ((n : Int) - 1)) r
  | 0, back, hn, hb, e => by
    refine Ev.step (fun k => by rw [proofmarklaw18_PropOrder.l1, if_neg (by omega)]) ?_
    have : back = known.reverse := by simpa using e
    rw [this]
    exact H
  | n + 1, back, hn, hb, e => by
    have h : n < known.length := by omega
    have hr : YtdlfmobnmcamaaaW.PrintWords.rd known (n : Int) = known[n] := by simp [YtdlfmobnmcamaaaW.PrintWords.rd, List.getD_eq_getElem?_getD, h]
    have ih := order_l1 l known turned hk r H n (back ++ [known[n]]) (by omega) (by simp; omega) (by rw [← e, rev_succ known n h]; simp)
    refine Ev.step (f := fun k => proofmarklaw18_PropOrder.l1 k true l known turned (back ++ [known[n]]) ((n : Int) - 1)) (fun k => ?_) ih
    rw [show (((n + 1 : Nat) : Int) - 1) = (n : Int) by omega, proofmarklaw18_PropOrder.l1, if_pos (by omega), if_pos (by omega), if_pos (by omega), if_pos (by omega), hr, show wrap64 ((n : Int) - 1) = (n : Int) - 1 by unfold wrap64; omega]
theorem order_l0 (l : List (List Int)) (known : List Int) (hl : l.length ≤ 1000) (first : List (List Int)) (hf : first.length ≤ 1000) (r : Bool) (H : Ev (fun k => proofmarklaw18_PropOrder.l1 k true l known (first ++ l.reverse) [] (wrap64 ((known.length : Int) - 1))) r) :
    ∀ (n : Nat) (turned : List (List Int)), n ≤ l.length → turned.length = first.length + (l.length - n) → turned ++ (l.take n).reverse = first ++ l.reverse → Ev (fun k => proofmarklaw18_PropOrder.l0 k true l known turned [] ((n : Int) - 1)) r
  | 0, turned, hn, hb, e => by
    refine Ev.step (fun k => by rw [proofmarklaw18_PropOrder.l0, if_neg (by omega)]) ?_
    have : turned = first ++ l.reverse := by simpa using e
    rw [this]
    exact H
  | n + 1, turned, hn, hb, e => by
    have h : n < l.length := by omega
    have ih := order_l0 l known hl first hf r H n (turned ++ [l[n]]) (by omega) (by simp; omega) (by rw [← e, rev_succ l n h]; simp)
    refine Ev.step (f := fun k => proofmarklaw18_PropOrder.l0 k true l known (turned ++ [l[n]]) [] ((n : Int) - 1)) (fun k => ?_) ih
    rw [show (((n + 1 : Nat) : Int) - 1) = (n : Int) by omega, proofmarklaw18_PropOrder.l0, if_pos (by omega), if_pos (by omega), if_pos (by omega), if_pos (by omega), rdL l n h, show wrap64 ((n : Int) - 1) = (n : Int) - 1 by unfold wrap64; omega]
theorem PropOrder (x0 : List (List Int)) (x1 : List Int) (x2 : Int) (h0 : BL22 x0) (h1 : BL23 x1) (h2 : (Lit.int .i64 x2).wf = true) : ∃ k, proofmarklaw18_PropOrder.f k x0 x1 x2 = some true := by
  refine Ev.rounds (g := fun k => proofmarklaw18_PropOrder.f k x0 x1 x2) ?_
  have A := ask8_of h0 h1 6 (by omega)
  have n0 := smalls_len x0
  have n8 := smalls_len8 x0
  have n1 := known_len x1 6
  unfold proofmarklaw18_PropOrder.f
  refine Ev.bind (ev_is rfl) ?_
  refine Ev.bind (smalls_ev x0) ?_
  refine known_ev x1 6 (by omega) ?_
  obtain ⟨l, el⟩ : ∃ l, smallsOf x0 = l := ⟨_, rfl⟩
  obtain ⟨known, ek⟩ : ∃ k, knownOf x1 6 = k := ⟨_, rfl⟩
  rw [el] at A n0 n8 ⊢
  rw [ek] at A n1 ⊢
  refine Ev.bind (ev_is rfl) ?_
  refine Ev.bind (ev_is rfl) ?_
  have main : ∀ first : List (List Int), first.length ≤ 1 → (∀ c ∈ first, c ∈ l) → Ev (fun k => proofmarklaw18_PropOrder.j1 k true l known first []) true := fun first hf hs => by
    have hc : ∀ c, c ∈ first ++ l.reverse ↔ c ∈ l := fun c => by
      rw [List.mem_append, List.mem_reverse]
      exact ⟨fun h => h.elim (hs c) id, .inr⟩
    have B : Ask8 (first ++ l.reverse) known.reverse := ⟨fun c hx => A.cls c ((hc c).1 hx), fun y hy => A.lit y (List.mem_reverse.1 hy), by
      have := flat_le (first ++ l.reverse) 8 fun c hx => n8 c ((hc c).1 hx)
      simp only [List.length_append, List.length_reverse] at this
      omega, by rw [List.length_reverse]; exact A.few⟩
    refine Ev.step (fun k => by rw [proofmarklaw18_PropOrder.j1, show wrap64 ((l.length : Int) - 1) = (l.length : Int) - 1 by unfold wrap64; omega]) ?_
    refine order_l0 l known (by omega) first (by omega) true ?_ l.length first (by omega) (by omega) (by rw [List.take_length])
    rw [show wrap64 ((known.length : Int) - 1) = (known.length : Int) - 1 by unfold wrap64; omega]
    refine order_l1 l known _ (by omega) true ?_ known.length [] (by omega) (by simp) (by simp)
    refine Ev.bind (ev_is A.unit) ?_
    refine Ev.bind (ev_is B.unit) ?_
    rw [unit_same B A hc fun x => List.mem_reverse]
    simp only [beq_self_eq_true, if_true]
    refine Ev.bind (same_ev _ _ (by have := unit_len A; omega)) ?_
    simpa using Ev.now true
  by_cases c1 : x2 ≥ 0
  · obtain ⟨n, rfl⟩ := Int.eq_ofNat_of_zero_le c1
    simp only [c1, if_true]
    by_cases c2 : (n : Int) < (l.length : Int)
    · have hn : n < l.length := by omega
      simp only [c2, decide_true]
      refine Ev.step (fun k => by rw [proofmarklaw18_PropOrder.j0, if_pos rfl, if_pos (by omega), if_pos c2, if_pos (by simp), rdL l n hn]) ?_
      exact main [l[n]] (by simp) (fun c hc => by simp only [List.mem_singleton] at hc; subst hc; exact List.getElem_mem hn)
    · simp only [c2, decide_false]
      refine Ev.step (fun k => by rw [proofmarklaw18_PropOrder.j0, if_neg (by simp)]) ?_
      exact main [] (by simp) (by simp)
  · simp only [c1, if_false]
    refine Ev.step (fun k => by rw [proofmarklaw18_PropOrder.j0, if_neg (by simp)]) ?_
    exact main [] (by simp) (by simp)
end Go.Proofs.Ytdlfmobnmcamaaa.Pure
