/- The law PropTells in plain terms. -/
import Derived.Test.YtdlfmobnmcamaaaTellEv
import Derived.Test.YtdlfmobnmcamaaaRefEv
import Derived.Test.YtdlfmobnmcamaaaQx12
import Derived.Test.YtdlfmobnmcamaaaQx13
import Derived.Test.YtdlfmobnmcamaaaQSayPropTells
namespace Go.Proofs.Ytdlfmobnmcamaaa.Pure
open Go.RowKit Go.Sort Go.Shelf Go.Proofs.YtdlfmobnmcamaaaW.PrintWords Go.Proofs.YtdlfmobnmcamaaaW.PrintLast Go.Proofs.YtdlfmobnmcamaaaW.PrintMore Go.Proofs.Ytdlfmobnmcamaaa.Q
set_option linter.unusedVariables false
set_option linter.unusedSimpArgs false
theorem rtrue_f {m : List Bool} {x : Int} (hx : Wf x) (hm : m.length < 9223372036854775807) : proofmarkref18_True.f m x = some (litTrue m x) := by
  unfold proofmarkref18_True.f litTrue
  rw [of_f, Option.bind_some, of_pv hx]
  by_cases h1 : pvar x ≥ 1
  · rw [if_pos h1]
    have e : wrap64 (pvar x - 1) = pvar x - 1 ∨ ¬ pvar x ≤ (m.length : Int) := by unfold wrap64; omega
    by_cases h2 : pvar x ≤ (m.length : Int)
    · rw [if_pos h2, e.resolve_right (by simpa using h2), if_pos (by omega), if_pos (by omega)]
      simp [show 0 < pvar x by omega, h2]
    · rw [if_neg h2]; simp [h2]
  · rw [if_neg h1]; simp [show ¬ 0 < pvar x by omega]
theorem rmet_l1 (l : List (List Int)) (m : List Bool) (hm : m.length < 9223372036854775807) (i : Nat) (hi : i < l.length) (hil : l.length ≤ 1000000) (hw : ∀ y ∈ l[i], Wf y) (hc : l[i].length ≤ 1000000) (r : Bool) (h0 : Ev (fun k => proofmarkref18_Met.l0 k l m ((i + 1 : Nat) : Int)) r) :
    ∀ (d j : Nat) (b : Bool), l[i].length - j = d → j ≤ l[i].length → b = (l[i].take j).any (litTrue m) → Ev (fun k => proofmarkref18_Met.l1 k l m (i : Int) b (j : Int)) (l[i].any (litTrue m) && r)
  | 0, j, b, hd, hj, hb => by
    rw [List.take_of_length_le (by omega)] at hb
    rw [← hb]
    cases b with
    | true =>
      refine Ev.step (f := fun k => proofmarkref18_Met.l0 k l m ((i + 1 : Nat) : Int)) (fun k => ?_) (by simpa using h0)
      rw [proofmarkref18_Met.l1, if_pos (by omega), if_pos (by omega), rdL l i hi, if_neg (by omega), if_pos rfl, wr i (by omega)]
    | false =>
      refine Ev.step (f := fun _ => some false) (fun k => ?_) (by simpa using Ev.now false)
      rw [proofmarkref18_Met.l1, if_pos (by omega), if_pos (by omega), rdL l i hi, if_neg (by omega), if_neg (by simp)]
  | d + 1, j, b, hd, hj, hb => by
    have h : j < l[i].length := by omega
    have e : (l[i].take (j + 1)).any (litTrue m) = (b || litTrue m l[i][j]) := by rw [List.take_succ_eq_append_getElem h, List.any_append, ← hb]; simp
    cases b with
    | true =>
      have ih := rmet_l1 l m hm i hi hil hw hc r h0 d (j + 1) true (by omega) (by omega) (by rw [e]; rfl)
      refine Ev.step (f := fun k => proofmarkref18_Met.l1 k l m (i : Int) true ((j + 1 : Nat) : Int)) (fun k => ?_) ih
      rw [proofmarkref18_Met.l1, if_pos (by omega), if_pos (by omega), rdL l i hi, if_pos (by omega), if_pos rfl, wr j (by omega)]
    | false =>
      have ih := rmet_l1 l m hm i hi hil hw hc r h0 d (j + 1) (litTrue m l[i][j]) (by omega) (by omega) (by rw [e]; simp)
      refine Ev.step (f := fun k => proofmarkref18_Met.l1 k l m (i : Int) (litTrue m l[i][j]) ((j + 1 : Nat) : Int)) (fun k => ?_) ih
      rw [proofmarkref18_Met.l1, if_pos (by omega), if_pos (by omega), rdL l i hi, if_pos (by omega), if_neg (by simp), if_pos (by omega), rdi _ j h, rtrue_f (hw _ (List.getElem_mem h)) hm, Option.bind_some, wr j (by omega)]
theorem rmet_l0 (l : List (List Int)) (m : List Bool) (hm : m.length < 9223372036854775807) (hil : l.length ≤ 1000000) (hw : ∀ c ∈ l, ∀ y ∈ c, Wf y) (hc : ∀ c ∈ l, c.length ≤ 1000000) :
    ∀ (d i : Nat), l.length - i = d → i ≤ l.length → Ev (fun k => proofmarkref18_Met.l0 k l m (i : Int)) ((l.drop i).all fun c => c.any (litTrue m))
  | 0, i, hd, hi => by
    refine Ev.step (f := fun _ => some true) (fun k => ?_) (by rw [List.drop_eq_nil_of_le (by omega)]; simpa using Ev.now true)
    rw [proofmarkref18_Met.l0, if_neg (by omega)]
  | d + 1, i, hd, hi => by
    have h : i < l.length := by omega
    have ih := rmet_l0 l m hm hil hw hc d (i + 1) (by omega) (by omega)
    have h1 := rmet_l1 l m hm i h hil (hw _ (List.getElem_mem h)) (hc _ (List.getElem_mem h)) _ ih l[i].length 0 false (by omega) (by omega) (by simp)
    rw [List.drop_eq_getElem_cons h, List.all_cons]
    refine Ev.step (f := fun k => proofmarkref18_Met.l1 k l m (i : Int) false 0) (fun k => ?_) h1
    rw [proofmarkref18_Met.l0, if_pos (by omega)]
theorem rmet_ev (l : List (List Int)) (m : List Bool) (hm : m.length < 9223372036854775807) (hil : l.length ≤ 1000000) (hw : ∀ c ∈ l, ∀ y ∈ c, Wf y) (hc : ∀ c ∈ l, c.length ≤ 1000000) : Ev (fun k => proofmarkref18_Met.f k l m) (l.all fun c => c.any (litTrue m)) := by
  have h := rmet_l0 l m hm hil hw hc l.length 0 (by omega) (by omega)
  simpa [proofmarkref18_Met.f] using h
theorem rbut_l0 (l : List Int) (x : Int) (hl : l.length ≤ 1000000) : ∀ (d i : Nat) (acc : List Int), l.length - i = d → i ≤ l.length → acc = (l.take i).filter (fun y => !(y == x)) → Ev (fun k => proofmarkref18_but.l0 k l x acc (i : Int)) (l.filter fun y => !(y == x))
  | 0, i, acc, hd, hi, ha => by
    rw [List.take_of_length_le (by omega)] at ha
    refine Ev.step (f := fun _ => some acc) (fun k => ?_) (by rw [← ha]; exact Ev.now _)
    rw [proofmarkref18_but.l0, if_neg (by omega)]
  | d + 1, i, acc, hd, hi, ha => by
    have h : i < l.length := by omega
    have hal : acc.length ≤ i := by rw [ha]; have := List.length_filter_le (fun y => !(y == x)) (l.take i); rw [List.length_take] at this; omega
    by_cases e : l[i] = x
    · have ih := rbut_l0 l x hl d (i + 1) acc (by omega) (by omega) (by rw [List.take_succ_eq_append_getElem h, List.filter_append, ← ha]; simp [e])
      refine Ev.step (f := fun k => proofmarkref18_but.l0 k l x acc ((i + 1 : Nat) : Int)) (fun k => ?_) ih
      rw [proofmarkref18_but.l0, if_pos (by omega), if_pos (by omega), rdi l i h, if_pos e, wr i (by omega)]
    · have ih := rbut_l0 l x hl d (i + 1) (acc ++ [l[i]]) (by omega) (by omega) (by rw [List.take_succ_eq_append_getElem h, List.filter_append, ← ha]; simp [e])
      refine Ev.step (f := fun k => proofmarkref18_but.l0 k l x (acc ++ [l[i]]) ((i + 1 : Nat) : Int)) (fun k => ?_) ih
      rw [proofmarkref18_but.l0, if_pos (by omega), if_pos (by omega), rdi l i h, if_neg e, if_pos (by omega), wr i (by omega)]
theorem rbut_ev (l : List Int) (x : Int) (hl : l.length ≤ 1000000) : Ev (fun k => proofmarkref18_but.f k l x) (l.filter fun y => !(y == x)) := by
  have h := rbut_l0 l x hl l.length 0 [] (by omega) (by omega) (by simp)
  simpa [proofmarkref18_but.f] using h
theorem rres_ev (a b : List Int) (v : Int) (ha : a.length ≤ 1000) (hb : b.length ≤ 1000) (hwa : ∀ y ∈ a, Wf y) (hwb : ∀ y ∈ b, Wf y) : Ev (fun k => proofmarkref18_Resolve.f k a b v) (resOf a b v) := by
  have stop : ∀ t : List Int × Bool, t = ([], false) → Ev (fun k => proofmarkref18_Resolve.j0 k a b v true) t := fun t e => Ev.step (f := fun _ => some ([], false)) (fun k => by rw [proofmarkref18_Resolve.j0, if_pos rfl]) (by rw [e]; exact Ev.now _)
  unfold proofmarkref18_Resolve.f
  by_cases h1 : v < 1
  · simp only [h1, if_true]
    exact stop _ (by unfold resOf; rw [if_neg (by omega)])
  · simp only [h1, if_false]
    refine Ev.bind (rhas_ev a v (by omega)) ?_
    by_cases h2 : v ∈ a
    · rw [decide_eq_true h2]
      simp only [if_true]
      refine Ev.bind (rhas_ev b _ (by omega)) ?_
      by_cases h3 : wrap64 (-v) ∈ b
      · rw [decide_eq_true h3]
        refine Ev.step (fun k => by rw [proofmarkref18_Resolve.j0, if_neg (by simp)]) ?_
        refine Ev.bind (rbut_ev a v (by omega)) ?_
        refine Ev.bind (rbut_ev b _ (by omega)) ?_
        have l1 := List.length_filter_le (fun y => !(y == v)) a
        have l2 := List.length_filter_le (fun y => !(y == wrap64 (-v))) b
        simp only [show (a.filter fun y => !(y == v)).length + (b.filter fun y => !(y == wrap64 (-v))).length < 17592186044416 by omega, if_true]
        refine Ev.bind (rnorm_ev (resRow a b v) (by unfold resRow; rw [List.length_append]; omega) (fun y hy => ?_)) ?_
        · simp only [resRow, List.mem_append, List.mem_filter] at hy
          exact hy.elim (fun h => hwa y h.1) (fun h => hwb y h.1)
        · have : resOf a b v = normOf (resRow a b v) := by unfold resOf; rw [if_pos ⟨by omega, h2, h3⟩]
          rw [this]
          exact Ev.now _
      · rw [decide_eq_false h3]
        exact stop _ (by unfold resOf; rw [if_neg (fun h => h3 h.2.2)])
    · rw [decide_eq_false h2]
      simp only [Bool.false_eq_true, if_false]
      exact stop _ (by unfold resOf; rw [if_neg (fun h => h2 h.2.1)])
theorem pright_ev (l : List (List Int)) (vars : Int) (hl : l.length ≤ 9223372036854775807) (hc : ∀ c ∈ l, c.length ≤ 9223372036854775807) : Ev (fun k => prop_Right.f k l vars) (rightOf l vars) := by
  obtain ⟨k, h⟩ := right_ev l vars hl hc
  exact Ev.of (fun k => prop_Right.mono l vars k) h
theorem rise_nodup {a : List Int} (h : Rise a) : a.Nodup := by
  unfold Rise at h
  exact h.imp fun hlt e => by subst e; omega
theorem tells_len {l : List (List Int)} {k : List Int} (v : Int) (hl : ∀ c ∈ l, ∀ y ∈ c, Wf y) (hk : ∀ y ∈ k, Wf y) : (unitOf l v k).1.length ≤ k.length + l.flatten.length := by
  by_cases h : rightOf l v = true ∧ rightOf [k] v = true
  · have hkl : ∀ y ∈ k, Lt y := lits_ok (l := [k]) (fun c hc y hy => by simp only [List.mem_singleton] at hc; subst hc; exact hk y hy) h.2 k (List.mem_singleton.2 rfl)
    rcases unit_spec h.1 h.2 (lits_ok hl h.1) hkl with ⟨_, e⟩ | ⟨_, out, e, hm, hr⟩
    · rw [e]; simp
    · rw [e]
      have := (rise_nodup hr).length_le_of_subset (fun x hx => der_of ((hm x).1 hx))
      rw [List.length_append] at this
      exact this
  · rw [unitOf_wrong h]; simp
theorem norm_len (c : List Int) : (normOf c).1.length ≤ c.length := by
  by_cases h : Clear c
  · obtain ⟨out, e, hm, hr⟩ := norm_clear h
    rw [e]
    exact (rise_nodup hr).length_le_of_subset (fun x hx => (hm x).1 hx)
  · rw [norm_unclear h]; simp
theorem res_len (a b : List Int) (v : Int) : (resOf a b v).1.length ≤ a.length + b.length := by
  unfold resOf
  split
  · refine Nat.le_trans (norm_len _) ?_
    unfold resRow
    rw [List.length_append]
    exact Nat.add_le_add (List.length_filter_le _ _) (List.length_filter_le _ _)
  · simp
theorem few_wf {l : List (List Int)} (hw : ∀ c ∈ l, ∀ y ∈ c, Wf y) : ∀ c ∈ fewOf l, ∀ y ∈ c, Wf y := by
  intro c hc
  simp only [fewOf, List.mem_map] at hc
  obtain ⟨d, hd, rfl⟩ := hc
  exact fun y hy => hw d (List.mem_of_mem_take hd) y (List.mem_of_mem_take hy)
theorem few_flat (l : List (List Int)) : (fewOf l).flatten.length ≤ 320 := by
  have h1 := flat_le _ 8 (few_len8 l)
  have h2 := few_len l
  omega
theorem tells_l0 (l : List (List Int)) (kn : List Int) (x0 : List (List Int)) (x1 : Int) (x2 : List Int) (x3 : List Bool) (v : Int) (hl : l.length ≤ 40) (hc : ∀ c ∈ l, c.length ≤ 8) (hw : ∀ c ∈ l, ∀ y ∈ c, Wf y) (hk : kn.length ≤ 12) (hkw : ∀ y ∈ kn, Wf y) :
    ∀ (d i : Nat), l.length - i = d → Ev (fun k => proofmarklaw18_PropTells.l0 k true l kn (i : Int) x0 x1 x2 x3 v) true
  | 0, i, hd => by
    refine Ev.step (f := fun _ => some true) (fun k => ?_) (Ev.now true)
    rw [proofmarklaw18_PropTells.l0, if_neg (by omega)]
  | d + 1, i, hd => by
    have h : i < l.length := by omega
    have ih := tells_l0 l kn x0 x1 x2 x3 v hl hc hw hk hkw d (i + 1) (by omega)
    have hl8 := hc _ (List.getElem_mem h)
    have hwi := hw _ (List.getElem_mem h)
    have n1 := norm_len l[i]
    have n2 := res_len l[i] kn v
    refine Ev.step (fun k => by rw [proofmarklaw18_PropTells.l0, if_pos (by omega), if_pos (by omega), rdL l i h, wr i (by omega)]) ?_
    refine Ev.bind (ev_is (show prop_Norm.f l[i] = some (normOf l[i]) from if_pos (by omega))) ?_
    refine Ev.bind (rnorm_ev l[i] (by omega) hwi) ?_
    refine Ev.bind (ev_is (show prop_Resolve.f l[i] kn v = some (resOf l[i] kn v) from if_pos (by omega))) ?_
    refine Ev.bind (rres_ev l[i] kn v (by omega) (by omega) hwi hkw) ?_
    simp only [bne_self_eq_false, Bool.false_eq_true, if_false]
    refine Ev.bind (same_ev _ _ (by omega)) ?_
    simp only [decide_true, if_true]
    refine Ev.bind (same_ev _ _ (by omega)) ?_
    simpa using ih
theorem PropTells (x0 : S37) (h : B37 x0) : ∃ k, proofmarklaw18_PropTells.f k x0.f0 x0.f1 x0.f2 x0.f3 x0.f4 = some true := by
  obtain ⟨h0, h1, h2, h3, h4⟩ := h
  refine Ev.rounds (g := fun k => proofmarklaw18_PropTells.f k x0.f0 x0.f1 x0.f2 x0.f3 x0.f4) ?_
  have fw := few_wf (bl22_wf h0)
  have f0 := few_flat x0.f0
  have n0 := few_len x0.f0
  have n8 := few_len8 x0.f0
  have aw : ∀ y ∈ x0.f2.take 12, Wf y := fun y hy => bl23_wf h2 y (List.mem_of_mem_take hy)
  have al : (x0.f2.take 12).length ≤ 12 := by rw [List.length_take]; omega
  have nu := tells_len x0.f1 fw aw
  have h5 := h3.1
  unfold proofmarklaw18_PropTells.f
  refine Ev.bind (ev_is rfl) ?_
  refine Ev.bind (few_ev x0.f0) ?_
  refine Ev.bind (ev_is (cut_f x0.f2 12 (by omega))) ?_
  have sm : Small (fewOf x0.f0) (x0.f2.take 12) := ⟨by omega, fw, aw⟩
  refine Ev.bind (ev_is (show prop_Unit.f (fewOf x0.f0) x0.f1 (x0.f2.take 12) = some _ from if_pos sm)) ?_
  refine Ev.bind (ev_is (show proofmarkref18_Unit.f (fewOf x0.f0) x0.f1 (x0.f2.take 12) = some _ from if_pos ⟨sm, by omega⟩)) ?_
  refine Ev.bind (pright_ev _ x0.f1 (by omega) (fun c hc => by have := n8 c hc; omega)) ?_
  refine Ev.bind (rright_ev _ x0.f1 (by omega) fw (fun c hc => by have := n8 c hc; omega)) ?_
  simp only [bne_self_eq_false, Bool.false_eq_true, if_false]
  refine Ev.bind (ev_is (met_f _ _)) ?_
  refine Ev.bind (rmet_ev _ _ (by omega) (by omega) fw (fun c hc => by have := n8 c hc; omega)) ?_
  simp only [bne_self_eq_false, Bool.false_eq_true, if_false]
  refine Ev.bind (same_ev _ _ (by omega)) ?_
  simp only [decide_true, Bool.not_true]
  refine Ev.step (fun k => by rw [proofmarklaw18_PropTells.j0, if_neg (by simp)]) ?_
  exact tells_l0 _ _ _ _ _ _ _ n0 n8 fw al aw _ 0 rfl
end Go.Proofs.Ytdlfmobnmcamaaa.Pure
