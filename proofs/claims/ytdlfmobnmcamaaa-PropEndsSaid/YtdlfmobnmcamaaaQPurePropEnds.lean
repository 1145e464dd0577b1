/- The law PropEnds in plain terms. -/
import Derived.Test.YtdlfmobnmcamaaaPropEv
import Derived.Test.YtdlfmobnmcamaaaQSayPropEnds
namespace Go.Proofs.Ytdlfmobnmcamaaa.Pure
open Go.RowKit Go.Sort Go.Proofs.YtdlfmobnmcamaaaW.PrintWords Go.Proofs.YtdlfmobnmcamaaaW.PrintLast Go.Proofs.YtdlfmobnmcamaaaW.PrintMore Go.Proofs.Ytdlfmobnmcamaaa.Q
set_option linter.unusedVariables false
set_option linter.unusedSimpArgs false
/-- Of a clause's first places those literals that are open yet, each once. -/
def opn (a c : List Int) : Nat → List Int
  | 0 => []
  | j + 1 => opn a c j ++ (if neg (YtdlfmobnmcamaaaW.PrintWords.rd c (j : Int)) ∈ a then [] else if YtdlfmobnmcamaaaW.PrintWords.rd c (j : Int) ∈ c.take j then [] else [YtdlfmobnmcamaaaW.PrintWords.rd c (j : Int)])
theorem rdc (c : List Int) (j : Nat) (h : j < c.length) : YtdlfmobnmcamaaaW.PrintWords.rd c (j : Int) = c[j] := by simp [YtdlfmobnmcamaaaW.PrintWords.rd, List.getD_eq_getElem?_getD, h]
theorem opn_le (a c : List Int) : ∀ j, (opn a c j).length ≤ j
  | 0 => by simp [opn]
  | j + 1 => by
    have := opn_le a c j
    rw [opn, List.length_append]
    split
    · simp; omega
    · split <;> simp <;> omega
theorem opn_all (a c : List Int) : ∀ j, j ≤ c.length → ∀ y ∈ c.take j, neg y ∈ a ∨ y ∈ opn a c j
  | 0, _, y, hy => by simp at hy
  | j + 1, hj, y, hy => by
    have h : j < c.length := by omega
    rw [List.take_succ_eq_append_getElem h] at hy
    rw [opn, rdc c j h]
    rcases List.mem_append.1 hy with hy | hy
    · rcases opn_all a c j (by omega) y hy with h1 | h1
      · exact .inl h1
      · exact .inr (List.mem_append_left _ h1)
    · simp only [List.mem_singleton] at hy
      subst hy
      by_cases e1 : neg c[j] ∈ a
      · exact .inl e1
      · rw [if_neg e1]
        by_cases e2 : c[j] ∈ c.take j
        · rcases opn_all a c j (by omega) _ e2 with h1 | h1
          · exact .inl h1
          · exact .inr (List.mem_append_left _ h1)
        · rw [if_neg e2]
          exact .inr (List.mem_append_right _ (by simp))
theorem opn_of (a c : List Int) : ∀ j, j ≤ c.length → ∀ y ∈ opn a c j, y ∈ c
  | 0, _, y, hy => by simp [opn] at hy
  | j + 1, hj, y, hy => by
    have h : j < c.length := by omega
    rw [opn, rdc c j h] at hy
    rcases List.mem_append.1 hy with hy | hy
    · exact opn_of a c j (by omega) y hy
    · split at hy
      · cases hy
      · split at hy
        · cases hy
        · simp only [List.mem_singleton] at hy
          subst hy
          exact List.getElem_mem h
/-- Where nothing more follows a clause is met, or two of its literals are open. -/
theorem opn_two {l : List (List Int)} {known a : List Int} (hn : ¬ Conf l known) (ha : ∀ x, x ∈ a ↔ Der l known x) {c : List Int} (hc : c ∈ l) (hm : ∀ y ∈ c, y ∉ a) : 2 ≤ (opn a c c.length).length := by
  have hall := opn_all a c c.length (Nat.le_refl _)
  rw [List.take_length] at hall
  have hof := opn_of a c c.length (Nat.le_refl _)
  rcases ho : opn a c c.length with _ | ⟨z, _ | ⟨u, r⟩⟩
  · rw [ho] at hall
    exact absurd (.inr ⟨c, hc, fun y hy => (ha _).1 ((hall y hy).resolve_right (by simp))⟩) hn
  · rw [ho] at hall hof
    have hz := hof z (by simp)
    refine absurd ((ha z).2 (.unit hc hz fun y hy hne => (ha _).1 ((hall y hy).resolve_right (by simpa using hne)))) (hm z hz)
  · simp
section
variable (l : List (List Int)) (a b : List Int)
theorem ends_l3 (hn : a.length ≤ 1000) (i : Nat) (hi : i < l.length) (hi2 : l.length ≤ 1000) (h8 : l[i].length ≤ 8) (H2 : (∀ y ∈ l[i], y ∉ a) → 2 ≤ (opn a l[i] l[i].length).length)
    (H : Ev (fun k => proofmarklaw18_PropEnds.l2 k true l a b true ((i + 1 : Nat) : Int)) true) :
    ∀ (d j : Nat) (m : Bool), l[i].length - j = d → j ≤ l[i].length → m = (l[i].take j).any (fun y => decide (y ∈ a)) → Ev (fun k => proofmarklaw18_PropEnds.l3 k true l a b true (i : Int) ((opn a l[i] j).length : Int) m (j : Int)) true
  | 0, j, m, hd, hj, hm => by
    obtain rfl : j = l[i].length := by omega
    rw [List.take_length] at hm
    cases m with
    | true =>
      refine Ev.step (fun k => by rw [proofmarklaw18_PropEnds.l3, if_pos (by omega), if_pos (by omega), rdL l i hi, if_neg (by omega), if_pos rfl, wr i (by omega)]) ?_
      exact H
    | false =>
      have h2 := H2 (by simpa using hm.symm)
      refine Ev.step (fun k => by rw [proofmarklaw18_PropEnds.l3, if_pos (by omega), if_pos (by omega), rdL l i hi, if_neg (by omega), if_neg (by simp), if_neg (by omega), wr i (by omega)]) ?_
      exact H
  | d + 1, j, m, hd, hj, hm => by
    have h : j < l[i].length := by omega
    have hle := opn_le a l[i] j
    have e : (l[i].take (j + 1)).any (fun y => decide (y ∈ a)) = (m || decide (l[i][j] ∈ a)) := by rw [List.take_succ_eq_append_getElem h, List.any_append, hm]; simp
    have ih := ends_l3 hn i hi hi2 h8 H2 H d (j + 1) (m || decide (l[i][j] ∈ a)) (by omega) (by omega) e.symm
    have hneg : wrap64 (-(l[i][j])) = neg l[i][j] := rfl
    have hj4 : Ev (fun k => proofmarklaw18_PropEnds.j4 k true l a b true (i : Int) ((opn a l[i] j).length : Int) (m || decide (l[i][j] ∈ a)) (j : Int)) true := by
      rw [opn, rdc l[i] j h] at ih
      refine Ev.step (fun k => by rw [proofmarklaw18_PropEnds.j4, if_pos (by omega), if_pos (by omega), rdL l i hi, if_pos (by omega), if_pos (by omega), rdc l[i] j h, hneg, wr j (by omega)]) ?_
      refine Ev.bind (has_ev a _ (by omega)) ?_
      by_cases e1 : neg l[i][j] ∈ a
      · rw [if_pos e1, List.append_nil] at ih
        simp only [e1, decide_true, if_true]
        exact ih
      · rw [if_neg e1] at ih
        simp only [e1, decide_false]
        have wo : wrap64 (((opn a l[i] j).length : Int) + 1) = (((opn a l[i] j).length + 1 : Nat) : Int) := wr _ (by omega)
        by_cases e0 : j = 0
        · subst e0
          simp only [List.take_zero, List.not_mem_nil, if_false] at ih
          rw [List.length_append, List.length_singleton] at ih
          simpa [wo] using ih
        · have e0' : ¬ ((j : Int) = 0) := by omega
          simp only [e0', Bool.false_eq_true, if_false, show (j : Int) ≤ (l[i].length : Int) by omega, if_true, Int.toNat_natCast, wo]
          refine Ev.bind (has_ev (l[i].take j) _ (by rw [List.length_take]; omega)) ?_
          by_cases e2 : l[i][j] ∈ l[i].take j
          · rw [if_pos e2, List.append_nil] at ih
            simp only [e2, decide_true, if_true]
            exact ih
          · rw [if_neg e2, List.length_append, List.length_singleton] at ih
            simp only [e2, decide_false, Bool.false_eq_true, if_false]
            exact ih
    cases m with
    | true =>
      refine Ev.step (fun k => by rw [proofmarklaw18_PropEnds.l3, if_pos (by omega), if_pos (by omega), rdL l i hi, if_pos (by omega), if_pos rfl]) ?_
      simpa using hj4
    | false =>
      refine Ev.step (fun k => by rw [proofmarklaw18_PropEnds.l3, if_pos (by omega), if_pos (by omega), rdL l i hi, if_pos (by omega), if_neg (by simp), if_pos (by omega), rdc l[i] j h]) ?_
      refine Ev.bind (has_ev a _ (by omega)) ?_
      simpa using hj4
theorem ends_l2 (hab : a = b) (hn : a.length ≤ 1000) (hi2 : l.length ≤ 1000) (h8 : ∀ c ∈ l, c.length ≤ 8) (H2 : ∀ c ∈ l, (∀ y ∈ c, y ∉ a) → 2 ≤ (opn a c c.length).length) :
    ∀ (d i : Nat), l.length - i = d → Ev (fun k => proofmarklaw18_PropEnds.l2 k true l a b true (i : Int)) true
  | 0, i, hd => by
    refine Ev.step (fun k => by rw [proofmarklaw18_PropEnds.l2, if_neg (by omega), if_pos rfl, if_pos rfl]) ?_
    refine Ev.bind (same_ev a b (by omega)) ?_
    rw [decide_eq_true hab]
    exact Ev.now true
  | d + 1, i, hd => by
    have h : i < l.length := by omega
    have ih := ends_l2 hab hn hi2 h8 H2 d (i + 1) (by omega)
    refine Ev.step (fun k => by rw [proofmarklaw18_PropEnds.l2, if_pos (by omega)]) ?_
    exact ends_l3 l a b hn i h hi2 (h8 _ (List.getElem_mem h)) (H2 _ (List.getElem_mem h)) ih _ 0 false rfl (by omega) (by simp)
theorem ends_l1 (hs : ∀ y ∈ a, Sm y) (hr : Rise a) (hn : a.length ≤ 1000) (H : Ev (fun k => proofmarklaw18_PropEnds.l2 k true l a b true 0) true) :
    ∀ (d i : Nat), a.length - i = d → 1 ≤ i → Ev (fun k => proofmarklaw18_PropEnds.l1 k true l a b true (i : Int)) true
  | 0, i, hd, hi => by
    refine Ev.step (fun k => by rw [proofmarklaw18_PropEnds.l1, if_neg (by omega)]) ?_
    exact H
  | d + 1, i, hd, hi => by
    have h : i < a.length := by omega
    have ih := ends_l1 hs hr hn H d (i + 1) (by omega) (by omega)
    have w1 : wrap64 ((i : Int) - 1) = ((i - 1 : Nat) : Int) := by unfold wrap64; omega
    have hlt := List.pairwise_iff_getElem.1 hr (i - 1) i (by omega) h (by omega)
    have of_pv : ∀ y, Sm y → ofOf y = pvar y := fun y hy => by
      rw [pvar_lt hy.lt]
      unfold Sm at hy
      unfold ofOf wrap64
      repeat' split
      all_goals omega
    refine Ev.step (f := fun k => proofmarklaw18_PropEnds.l1 k true l a b true ((i + 1 : Nat) : Int)) (fun k => ?_) ih
    rw [proofmarklaw18_PropEnds.l1, if_pos (by omega), w1, if_pos (by omega), if_pos (by omega), rdc a (i - 1) (by omega), of_f, Option.bind_some, if_pos (by omega), rdc a i h, of_f, Option.bind_some, of_pv _ (hs _ (List.getElem_mem _)), of_pv _ (hs _ (List.getElem_mem _)), if_neg (by omega), wr i (by omega)]
theorem ends_l0 (known : List Int) (hk : known.length ≤ 1000) (hn : a.length ≤ 1000) (hs : ∀ x ∈ known, x ∈ a) (H : Ev (fun k => proofmarklaw18_PropEnds.l1 k true l a b true 1) true) :
    ∀ (d i : Nat), known.length - i = d → Ev (fun k => proofmarklaw18_PropEnds.l0 k true l known a b true (i : Int)) true
  | 0, i, hd => by
    refine Ev.step (fun k => by rw [proofmarklaw18_PropEnds.l0, if_neg (by omega)]) ?_
    exact H
  | d + 1, i, hd => by
    have h : i < known.length := by omega
    have ih := ends_l0 known hk hn hs H d (i + 1) (by omega)
    refine Ev.step (fun k => by rw [proofmarklaw18_PropEnds.l0, if_pos (by omega), if_pos (by omega), rdc known i h, wr i (by omega)]) ?_
    refine Ev.bind (has_ev a _ (by omega)) ?_
    rw [decide_eq_true (hs _ (List.getElem_mem h))]
    simpa using ih
end
theorem PropEnds (x0 : List (List Int)) (x1 : List Int) (h0 : BL22 x0) (h1 : BL23 x1) : ∃ k, proofmarklaw18_PropEnds.f k x0 x1 = some true := by
  refine Ev.rounds (g := fun k => proofmarklaw18_PropEnds.f k x0 x1) ?_
  have A := ask8_of h0 h1 6 (by omega)
  have n0 := smalls_len x0
  have n8 := smalls_len8 x0
  have n1 := known_len x1 6
  unfold proofmarklaw18_PropEnds.f
  refine Ev.bind (ev_is rfl) ?_
  refine Ev.bind (smalls_ev x0) ?_
  refine known_ev x1 6 (by omega) ?_
  refine Ev.bind (ev_is A.unit) ?_
  rcases A.spec with ⟨hc, e⟩ | ⟨hc, out, e, hm, hr⟩
  · rw [e]
    simpa using Ev.now true
  · have hs : ∀ y ∈ out, Sm y := fun y hy => der_sm A ((hm y).1 hy)
    have lo : out.length ≤ 8 := rise_len hr hs
    have B : Ask8 (smallsOf x0) out := ⟨A.cls, hs, A.flat, by omega⟩
    have sub : ∀ x ∈ knownOf x1 6, x ∈ out := fun x hx => (hm x).2 (.known hx)
    have back : ∀ x, Der (smallsOf x0) out x → Der (smallsOf x0) (knownOf x1 6) x := fun x => der_more (fun c hc => hc) fun x hx => (hm x).1 hx
    have cb : Conf (smallsOf x0) out → Conf (smallsOf x0) (knownOf x1 6) := conf_more (fun c hc => hc) fun x hx => (hm x).1 hx
    rw [e]
    simp only [if_true]
    refine Ev.bind (ev_is B.unit) ?_
    rcases B.spec with ⟨hc2, e2⟩ | ⟨hc2, out2, e2, hm2, hr2⟩
    · exact absurd (cb hc2) hc
    · have e3 : out = out2 := rise_eq hr hr2 fun x => by
        rw [hm2]
        exact ⟨.known, fun h => (hm x).2 (back x h)⟩
      rw [e2]
      refine ends_l0 (smallsOf x0) out out2 _ (by omega) (by omega) sub ?_ _ 0 rfl
      refine ends_l1 (smallsOf x0) out out2 hs hr (by omega) ?_ _ 1 rfl (by omega)
      exact ends_l2 (smallsOf x0) out out2 e3 (by omega) (by omega) n8 (fun c hcl hno => opn_two hc hm hcl hno) _ 0 rfl
end Go.Proofs.Ytdlfmobnmcamaaa.Pure
