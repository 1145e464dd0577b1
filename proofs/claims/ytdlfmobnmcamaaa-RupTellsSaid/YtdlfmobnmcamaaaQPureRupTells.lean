/- The law RupTells in plain terms. -/
import Derived.Test.YtdlfmobnmcamaaaRupEv
import Derived.Test.YtdlfmobnmcamaaaRefEv
import Derived.Test.YtdlfmobnmcamaaaQx28
import Derived.Test.YtdlfmobnmcamaaaQx27
import Derived.Test.YtdlfmobnmcamaaaQSayRupTells
namespace Go.Proofs.Ytdlfmobnmcamaaa.Pure
open Go.RowKit Go.Sort Go.Shelf Go.Proofs.YtdlfmobnmcamaaaW.PrintWords Go.Proofs.YtdlfmobnmcamaaaW.PrintLast Go.Proofs.YtdlfmobnmcamaaaW.PrintMore Go.Proofs.Ytdlfmobnmcamaaa.Q
set_option linter.unusedVariables false
set_option linter.unusedSimpArgs false
theorem turned_l0 (c : List Int) (hc : c.length < 17592186044416) : ∀ (d i : Nat), c.length - i = d → i ≤ c.length → Ev (fun k => proofmarkref20_turned.l0 k c (opp (c.take i)) (i : Int)) (opp c)
  | 0, i, hd, hi => by
    refine Ev.step (f := fun _ => some (opp c)) (fun k => ?_) (Ev.now _)
    rw [proofmarkref20_turned.l0, if_neg (by omega), List.take_of_length_le (by omega)]
  | d + 1, i, hd, hi => by
    have h : i < c.length := by omega
    have ih := turned_l0 c hc d (i + 1) (by omega) (by omega)
    refine Ev.step (f := fun k => proofmarkref20_turned.l0 k c (opp (c.take (i + 1))) ((i + 1 : Nat) : Int)) (fun k => ?_) ih
    rw [proofmarkref20_turned.l0, if_pos (by omega), if_pos (by omega), if_pos (by rw [opp_len, List.length_take]; omega), wr i (by omega), rdi c i h]
    have e : opp (c.take i) ++ [wrap64 (-c[i])] = opp (c.take (i + 1)) := by rw [List.take_succ_eq_append_getElem h]; unfold opp; rw [List.map_append]; rfl
    rw [e]
theorem turned_ev (c : List Int) (hc : c.length < 17592186044416) : Ev (fun k => proofmarkref20_turned.f k c) (opp c) := by
  have h := turned_l0 c hc c.length 0 (by omega) (by omega)
  simpa [proofmarkref20_turned.f, opp] using h
/-- Numbers, not many. -/
structure Mild (l : List (List Int)) : Prop where
  wf : ∀ c ∈ l, ∀ y ∈ c, Wf y
  many : l.length ≤ 1000000
  flat : l.flatten.length ≤ 1000000
theorem Mild.len {l : List (List Int)} (h : Mild l) : ∀ c ∈ l, c.length ≤ 1000000 := fun c hc => by have := len_flat hc; have := h.flat; omega
theorem opp_wf (c : List Int) : ∀ y ∈ opp c, Wf y := by
  intro y hy
  simp only [opp, List.mem_map] at hy
  obtain ⟨x, hx, rfl⟩ := hy
  unfold Wf wrap64
  omega
theorem conflict_f {l : List (List Int)} (h : Mild l) {k : List Int} (hk : ∀ y ∈ k, Wf y) (hl : k.length ≤ 1000000) (v : Int) : proofmarkref20_conflict.f l v k = some (refOf l v k) := if_pos ⟨⟨by have := h.flat; omega, h.wf, hk⟩, by have := h.many; omega⟩
theorem rstep_ev {l : List (List Int)} (h : Mild l) {c : List Int} (hc : c.length ≤ 1000000) (v : Int) : Ev (fun n => proofmarkref20_Step.f n l v c) (stepOf l v c) := by
  unfold proofmarkref20_Step.f
  refine Ev.bind (turned_ev c (by omega)) ?_
  refine Ev.bind (ev_is (conflict_f h (opp_wf c) (by rw [opp_len]; exact hc) v)) ?_
  exact Ev.now _
theorem rcheck_l0 (v : Int) (p : List (List Int)) (a : List Int) (ha : ∀ y ∈ a, Wf y) (hal : a.length ≤ 1000000) :
    ∀ (d i : Nat) (l : List (List Int)), p.length - i = d → i ≤ p.length → Mild (l ++ p.drop i) → (∀ c ∈ p, c.length ≤ 1000000) → p.length ≤ 1000000 → Ev (fun k => proofmarkref20_Check.l0 k v p a l (i : Int)) (checkOf l v (p.drop i) a)
  | 0, i, l, hd, hi, hm, hpc, hpl => by
    rw [List.drop_eq_nil_of_le (by omega)] at hm ⊢
    rw [List.append_nil] at hm
    refine Ev.step (fun k => by rw [proofmarkref20_Check.l0, if_neg (by omega)]) ?_
    refine Ev.bind (ev_is (conflict_f hm ha hal v)) ?_
    rw [checkOf]
    exact Ev.now _
  | d + 1, i, l, hd, hi, hm, hpc, hpl => by
    have h : i < p.length := by omega
    have hl : Mild l := ⟨fun c hc => hm.wf c (List.mem_append_left _ hc), by have := hm.many; rw [List.length_append] at this; omega, by have := hm.flat; simp only [List.flatten_append, List.length_append] at this; omega⟩
    have hm2 : Mild ((l ++ [p[i]]) ++ p.drop (i + 1)) := by rw [List.append_assoc, List.singleton_append, ← List.drop_eq_getElem_cons h]; exact hm
    have ih := rcheck_l0 v p a ha hal d (i + 1) (l ++ [p[i]]) (by omega) (by omega) hm2 hpc hpl
    rw [List.drop_eq_getElem_cons h, checkOf]
    refine Ev.step (fun k => by rw [proofmarkref20_Check.l0, if_pos (by omega), if_pos (by omega), rdL p i h, wr i (by omega)]) ?_
    refine Ev.bind (rstep_ev hl (hpc _ (List.getElem_mem h)) v) ?_
    cases hs : stepOf l v p[i] with
    | false => simpa using Ev.now false
    | true =>
      simp only [if_true, Bool.true_and, show l.length < 5864062014805 by have := hl.many; omega]
      exact ih
theorem rcheck_ev {l p : List (List Int)} (h : Mild (l ++ p)) (hp : ∀ c ∈ p, c.length ≤ 1000000) (hpl : p.length ≤ 1000000) {a : List Int} (ha : ∀ y ∈ a, Wf y) (hal : a.length ≤ 1000000) (v : Int) : Ev (fun n => proofmarkref20_Check.f n l v p a) (checkOf l v p a) := by
  have hl : l.length ≤ 1000000 := by have := h.many; rw [List.length_append] at this; omega
  unfold proofmarkref20_Check.f
  refine Ev.bind (ev_is rfl) ?_
  simp only [List.length_nil, show 0 + l.length < 5864062014805 by omega, if_true, List.nil_append]
  have := rcheck_l0 v p a ha hal p.length 0 l (by omega) (by omega) (by rw [List.drop_zero]; exact h) hp hpl
  rw [List.drop_zero] at this
  exact this
theorem few_wf {l : List (List Int)} (hw : ∀ c ∈ l, ∀ y ∈ c, Wf y) : ∀ c ∈ fewOf l, ∀ y ∈ c, Wf y := by
  intro c hc
  simp only [fewOf, List.mem_map] at hc
  obtain ⟨d, hd, rfl⟩ := hc
  exact fun y hy => hw d (List.mem_of_mem_take hd) y (List.mem_of_mem_take hy)
theorem few_flat (l : List (List Int)) : (fewOf l).flatten.length ≤ 320 := by
  have h1 := flat_le _ 8 (few_len8 l)
  have h2 := few_len l
  omega
theorem RupTells (x0 : S25) (h : B25 x0) : ∃ k, proofmarklaw20_RupTells.f k x0.f0 x0.f1 x0.f2 x0.f3 x0.f4 = some true := by
  obtain ⟨h0, h1, h2, h3, h4⟩ := h
  refine Ev.rounds (g := fun k => proofmarklaw20_RupTells.f k x0.f0 x0.f1 x0.f2 x0.f3 x0.f4) ?_
  have fw := few_wf (bl22_wf h0)
  have pw := few_wf (bl22_wf h2)
  have f0 := few_flat x0.f0
  have f2 := few_flat x0.f2
  have n0 := few_len x0.f0
  have n2 := few_len x0.f2
  unfold proofmarklaw20_RupTells.f
  refine Ev.bind (ev_is rfl) ?_
  refine Ev.bind (few_ev x0.f0) ?_
  refine Ev.bind (few_ev x0.f2) ?_
  refine Ev.bind (ev_is (cut_f x0.f3 12 (by omega))) ?_
  refine Ev.bind (ev_is (cut_f x0.f4 12 (by omega))) ?_
  simp only [if_true]
  have aw : ∀ y ∈ x0.f3.take 12, Wf y := fun y hy => bl23_wf h3 y (List.mem_of_mem_take hy)
  have al : (x0.f3.take 12).length ≤ 12 := by rw [List.length_take]; omega
  have cl : (x0.f4.take 12).length ≤ 12 := by rw [List.length_take]; omega
  have ml : Mild (fewOf x0.f0) := ⟨fw, by omega, by omega⟩
  have mp : Mild (fewOf x0.f0 ++ fewOf x0.f2) := ⟨fun c hc => (List.mem_append.1 hc).elim (fw c) (pw c), by rw [List.length_append]; omega, by simp only [List.flatten_append, List.length_append]; omega⟩
  refine Ev.bind (ev_is (show rup_Step.f (fewOf x0.f0) x0.f1 (x0.f4.take 12) = some _ from if_pos ⟨by rw [opp_len]; omega, fw, opp_wf _⟩)) ?_
  refine Ev.bind (rstep_ev ml (by omega) x0.f1) ?_
  simp only [beq_self_eq_true, if_true]
  refine Ev.bind (ev_is (show rup_Check.f (fewOf x0.f0) x0.f1 (fewOf x0.f2) (x0.f3.take 12) = some _ from if_pos ⟨by omega, by have := mp.flat; omega, mp.wf, aw⟩)) ?_
  refine Ev.bind (rcheck_ev mp (fun c hc => by have := few_len8 x0.f2 c hc; omega) (by omega) aw (by omega) x0.f1) ?_
  simpa using Ev.now true
end Go.Proofs.Ytdlfmobnmcamaaa.Pure
