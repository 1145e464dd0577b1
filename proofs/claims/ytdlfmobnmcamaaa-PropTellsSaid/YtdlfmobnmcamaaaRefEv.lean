/- What the document's answers for units come to, in plain Lean. Written for this claim. -/
import Derived.Test.YtdlfmobnmcamaaaTellEv
import Derived.Test.YtdlfmobnmcamaaaQx10
import Derived.Test.YtdlfmobnmcamaaaQx9
namespace Go.Proofs.Ytdlfmobnmcamaaa.Q
open Go.RowKit Go.Sort Go.Shelf Go.Proofs.YtdlfmobnmcamaaaW.PrintWords Go.Proofs.YtdlfmobnmcamaaaW.PrintLast Go.Proofs.YtdlfmobnmcamaaaW.PrintMore Go.Proofs.Ytdlfmobnmcamaaa.Q
set_option linter.unusedVariables false
set_option linter.unusedSimpArgs false
theorem of_pv {x : Int} (h : Wf x) : ofOf x = pvar x := by
  unfold Wf at h
  unfold ofOf pvar mx
  have e : wrap64 (-x) = -x ∨ x = -9223372036854775808 ∧ wrap64 (-x) = x := by unfold wrap64; omega
  rcases e with e | ⟨e, e2⟩
  · rw [e]; repeat' split
    all_goals omega
  · rw [e2]; repeat' split
    all_goals omega
theorem rdi (c : List Int) (j : Nat) (h : j < c.length) : YtdlfmobnmcamaaaW.PrintWords.rd c (j : Int) = c[j] := by simp [YtdlfmobnmcamaaaW.PrintWords.rd, List.getD_eq_getElem?_getD, h]
theorem rhas_l0 (l : List Int) (x : Int) (hl : l.length < 17592186044416) : ∀ (d i : Nat), l.length - i = d → i ≤ l.length → Ev (fun k => proofmarkref18_Has.l0 k l x (i : Int)) (decide (x ∈ l.drop i))
  | 0, i, hd, hi => by
    refine Ev.step (f := fun _ => some false) (fun k => ?_) (by rw [List.drop_eq_nil_of_le (by omega)]; simpa using Ev.now false)
    rw [proofmarkref18_Has.l0, if_neg (by omega)]
  | d + 1, i, hd, hi => by
    have h : i < l.length := by omega
    have ih := rhas_l0 l x hl d (i + 1) (by omega) (by omega)
    rw [List.drop_eq_getElem_cons h]
    by_cases e : l[i] = x
    · refine Ev.step (f := fun _ => some true) (fun k => ?_) (by simpa [e] using Ev.now true)
      rw [proofmarkref18_Has.l0, if_pos (by omega), if_pos (by omega), rdi l i h, if_pos e]
    · refine Ev.step (f := fun k => proofmarkref18_Has.l0 k l x ((i + 1 : Nat) : Int)) (fun k => ?_) (by rw [show decide (x ∈ l[i] :: l.drop (i + 1)) = decide (x ∈ l.drop (i + 1)) from decide_eq_decide.2 (by rw [List.mem_cons]; exact ⟨fun h => h.resolve_left (Ne.symm e), .inr⟩)]; exact ih)
      rw [proofmarkref18_Has.l0, if_pos (by omega), if_pos (by omega), rdi l i h, if_neg e, wr i (by omega)]
theorem rhas_ev (l : List Int) (x : Int) (hl : l.length < 17592186044416) : Ev (fun k => proofmarkref18_Has.f k l x) (decide (x ∈ l)) := by
  have h := rhas_l0 l x hl l.length 0 (by omega) (by omega)
  simpa [proofmarkref18_Has.f] using h
theorem rright_l1 (vars : Int) (l : List (List Int)) (i : Nat) (hi : i < l.length) (hil : l.length < 17592186044416) (hw : ∀ y ∈ l[i], Wf y) (r0 : Bool) (hc : l[i].length ≤ 9223372036854775806) (h0 : Ev (fun k => proofmarkref18_Right.l0 k l vars ((i + 1 : Nat) : Int)) r0) :
    ∀ (d j : Nat), l[i].length - j = d → j ≤ l[i].length → Ev (fun k => proofmarkref18_Right.l1 k l vars (i : Int) (j : Int)) ((l[i].drop j).all (litOk vars) && r0)
  | 0, j, hd, hj => by
    refine Ev.step (f := fun k => proofmarkref18_Right.l0 k l vars ((i + 1 : Nat) : Int)) (fun k => ?_) (by rw [List.drop_eq_nil_of_le (by omega)]; simpa using h0)
    rw [proofmarkref18_Right.l1, if_pos (by omega), if_pos (by omega), rdL l i hi, if_neg (by omega), wr i (by omega)]
  | d + 1, j, hd, hj => by
    have h : j < l[i].length := by omega
    have ih := rright_l1 vars l i hi hil hw r0 hc h0 d (j + 1) (by omega) (by omega)
    have hv := of_pv (hw _ (List.getElem_mem h))
    have hp := pvar_range l[i][j] (hw _ (List.getElem_mem h)).2
    rw [List.drop_eq_getElem_cons h, List.all_cons]
    by_cases e1 : pvar l[i][j] = 0
    · refine Ev.step (f := fun _ => some false) (fun k => ?_) (by simpa [litOk, e1] using Ev.now false)
      rw [proofmarkref18_Right.l1, if_pos (by omega), if_pos (by omega), rdL l i hi, if_pos (by omega), if_pos (by omega), rdi _ j h, of_f, Option.bind_some, hv, if_pos (by omega)]
    · by_cases e2 : pvar l[i][j] > vars
      · refine Ev.step (f := fun _ => some false) (fun k => ?_) (by simpa [litOk, e1, show ¬ pvar l[i][j] ≤ vars by omega] using Ev.now false)
        rw [proofmarkref18_Right.l1, if_pos (by omega), if_pos (by omega), rdL l i hi, if_pos (by omega), if_pos (by omega), rdi _ j h, of_f, Option.bind_some, hv, if_neg (by omega), if_pos e2]
      · refine Ev.step (f := fun k => proofmarkref18_Right.l1 k l vars (i : Int) ((j + 1 : Nat) : Int)) (fun k => ?_) ?_
        · rw [proofmarkref18_Right.l1, if_pos (by omega), if_pos (by omega), rdL l i hi, if_pos (by omega), if_pos (by omega), rdi _ j h, of_f, Option.bind_some, hv, if_neg (by omega), if_neg e2, wr j (by omega)]
        · have e3 : litOk vars l[i][j] = true := by simp [litOk, e1, show pvar l[i][j] ≤ vars by omega]
          rw [e3, Bool.true_and]; exact ih
theorem rright_l0 (vars : Int) (l : List (List Int)) (hil : l.length < 17592186044416) (hw : ∀ c ∈ l, ∀ y ∈ c, Wf y) (hc : ∀ c ∈ l, c.length ≤ 9223372036854775806) :
    ∀ (d i : Nat), l.length - i = d → i ≤ l.length → Ev (fun k => proofmarkref18_Right.l0 k l vars (i : Int)) ((l.drop i).all fun c => c.all (litOk vars))
  | 0, i, hd, hi => by
    refine Ev.step (f := fun _ => some true) (fun k => ?_) (by rw [List.drop_eq_nil_of_le (by omega)]; simpa using Ev.now true)
    rw [proofmarkref18_Right.l0, if_neg (by omega)]
  | d + 1, i, hd, hi => by
    have h : i < l.length := by omega
    have ih := rright_l0 vars l hil hw hc d (i + 1) (by omega) (by omega)
    have h1 := rright_l1 vars l i h hil (hw _ (List.getElem_mem h)) _ (hc _ (List.getElem_mem h)) ih l[i].length 0 (by omega) (by omega)
    rw [List.drop_eq_getElem_cons h, List.all_cons]
    refine Ev.step (f := fun k => proofmarkref18_Right.l1 k l vars (i : Int) 0) (fun k => ?_) h1
    rw [proofmarkref18_Right.l0, if_pos (by omega)]
theorem rright_ev (l : List (List Int)) (vars : Int) (hil : l.length < 17592186044416) (hw : ∀ c ∈ l, ∀ y ∈ c, Wf y) (hc : ∀ c ∈ l, c.length ≤ 9223372036854775806) : Ev (fun k => proofmarkref18_Right.f k l vars) (rightOf l vars) := by
  have h := rright_l0 vars l hil hw hc l.length 0 (by omega) (by omega)
  unfold proofmarkref18_Right.f rightOf
  by_cases e1 : vars < 0
  · simp only [e1, if_true, show ¬ 0 ≤ vars by omega, decide_false, Bool.false_and]
    exact Ev.step (f := fun _ => some false) (fun k => by rw [proofmarkref18_Right.j0, if_pos rfl]) (Ev.now false)
  · simp only [e1, if_false, show 0 ≤ vars by omega, decide_true, Bool.true_and]
    by_cases e2 : vars > 1048576
    · simp only [show ¬ vars ≤ 1048576 by omega, decide_false, Bool.false_and]
      exact Ev.step (f := fun _ => some false) (fun k => by rw [proofmarkref18_Right.j0, if_pos (by simpa using e2)]) (Ev.now false)
    · simp only [show vars ≤ 1048576 by omega, decide_true, Bool.true_and]
      refine Ev.step (f := fun k => proofmarkref18_Right.l0 k l vars 0) (fun k => by rw [proofmarkref18_Right.j0, if_neg (by simpa using e2)]) ?_
      simpa using h
/-- A literal that keeps a row from being in order. -/
def Bad (c : List Int) (x : Int) : Prop := ofOf x = 0 ∨ neg x ∈ c
instance (c : List Int) (x : Int) : Decidable (Bad c x) := by unfold Bad; infer_instance
theorem wf_lt {x : Int} (h : Wf x) (h0 : pvar x ≠ 0) : pvar x = (if x < 0 then -x else x) ∧ neg x = -x ∧ x ≠ 0 := by
  have e : wrap64 (-x) = -x ∨ x = -9223372036854775808 ∧ wrap64 (-x) = x := by unfold Wf at h; unfold wrap64; omega
  rcases e with e | ⟨e, e2⟩
  · unfold neg
    rw [e]
    unfold pvar mx at h0 ⊢
    rw [e] at h0 ⊢
    refine ⟨?_, rfl, fun e0 => h0 (by subst e0; rfl)⟩
    repeat' split
    all_goals omega
  · exfalso
    apply h0
    unfold pvar mx
    rw [e2]
    repeat' split
    all_goals omega
theorem clear_iff {c : List Int} (hw : ∀ y ∈ c, Wf y) : Clear c ↔ ∀ x ∈ c, ¬ Bad c x := by
  constructor
  · rintro ⟨h1, h2⟩ x hx (h | h)
    · rw [of_pv (hw x hx)] at h; exact h1 x hx h
    · obtain ⟨e1, e2, e3⟩ := wf_lt (hw x hx) (h1 x hx)
      obtain ⟨f1, f2, f3⟩ := wf_lt (hw _ h) (h1 _ h)
      have := h2 x hx _ h (by rw [e1, f1, e2]; split <;> split <;> omega)
      omega
  · intro h
    have h0 : ∀ x ∈ c, pvar x ≠ 0 := fun x hx e => h x hx (.inl (by rw [of_pv (hw x hx)]; exact e))
    refine ⟨h0, fun x hx y hy e => ?_⟩
    obtain ⟨e1, e2, e3⟩ := wf_lt (hw x hx) (h0 x hx)
    obtain ⟨f1, f2, f3⟩ := wf_lt (hw y hy) (h0 y hy)
    rw [e1, f1] at e
    by_cases c1 : x = y
    · exact c1
    · exact absurd (.inr (by rw [e2, show -x = y by split at e <;> split at e <;> omega]; exact hy)) (h x hx)
theorem rise_insert {out : List Int} {x : Int} {j : Nat} (hr : Rise out) (hj : j ≤ out.length) (h1 : ∀ i, (h : i < out.length) → i < j → pvar out[i] < pvar x) (h2 : ∀ (h : j < out.length), pvar x < pvar out[j]) : Rise (out.take j ++ [x] ++ out.drop j) := by
  unfold Rise at *
  rw [List.append_assoc, List.pairwise_append]
  refine ⟨hr.sublist (List.take_sublist _ _), ?_, ?_⟩
  · rw [List.singleton_append, List.pairwise_cons]
    refine ⟨fun y hy => ?_, hr.sublist (List.drop_sublist _ _)⟩
    obtain ⟨k, hk, rfl⟩ := List.getElem_of_mem hy
    rw [List.length_drop] at hk
    rw [List.getElem_drop]
    rcases Nat.eq_zero_or_pos k with e | e
    · subst e; exact h2 (by omega)
    · have := List.pairwise_iff_getElem.1 hr j (j + k) (by omega) (by omega) (by omega)
      have := h2 (by omega)
      omega
  · intro y hy z hz
    obtain ⟨i, hi, rfl⟩ := List.mem_take_iff_getElem.1 hy
    have hij : i < j := by omega
    have hy1 := h1 i (by omega) hij
    rcases List.mem_append.1 hz with hz | hz
    · simp only [List.mem_singleton] at hz; subst hz; exact hy1
    · obtain ⟨k, hk, rfl⟩ := List.getElem_of_mem hz
      rw [List.length_drop] at hk
      rw [List.getElem_drop]
      exact List.pairwise_iff_getElem.1 hr i (j + k) (by omega) (by omega) (by omega)
section
variable (c : List Int) (hc : c.length < 17592186044416) (hw : ∀ y ∈ c, Wf y)
include hc hw
theorem rnorm_l1 (out : List Int) (i : Nat) (hi : i < c.length) (hb : ∀ y ∈ out, Wf y) (hr : Rise out) (hx : ∀ y ∈ out, pvar y ≠ pvar c[i]) (hol : out.length ≤ i) (r : List Int × Bool)
    (H : ∀ out', Rise out' → (∀ y, y ∈ out' ↔ y ∈ out ∨ y = c[i]) → out'.length = out.length + 1 → Ev (fun k => proofmarkref18_Norm.l0 k c out' ((i + 1 : Nat) : Int)) r) :
    ∀ (d j : Nat), out.length - j = d → j ≤ out.length → (∀ a, (h : a < out.length) → a < j → pvar out[a] < pvar c[i]) → Ev (fun k => proofmarkref18_Norm.l1 k c out (i : Int) (j : Int)) r := by
  intro d
  have fin : ∀ j, j ≤ out.length → (∀ a, (h : a < out.length) → a < j → pvar out[a] < pvar c[i]) → (∀ h : j < out.length, pvar c[i] < pvar out[j]) → Ev (fun k => proofmarkref18_Norm.l0 k c (out.take j ++ [c[i]] ++ out.drop j) ((i + 1 : Nat) : Int)) r := fun j hj h1 h2 =>
    H _ (rise_insert hr hj h1 h2) (fun y => by
      rw [List.mem_append, List.mem_append, List.mem_singleton]
      constructor
      · rintro ((h | h) | h)
        · exact .inl (List.mem_of_mem_take h)
        · exact .inr h
        · exact .inl (List.mem_of_mem_drop h)
      · rintro (h | h)
        · have : y ∈ out.take j ++ out.drop j := by rw [List.take_append_drop]; exact h
          rcases List.mem_append.1 this with h | h
          · exact .inl (.inl h)
          · exact .inr h
        · exact .inl (.inr h)) (by simp only [List.length_append, List.length_take, List.length_drop, List.length_singleton]; omega)
  induction d with
  | zero =>
    intro j hd hj h1
    obtain rfl : j = out.length := by omega
    have hf := fin out.length (Nat.le_refl _) h1 (fun h => absurd h (by omega))
    refine Ev.step (f := fun k => proofmarkref18_Norm.l0 k c (out.take out.length ++ [c[i]] ++ out.drop out.length) ((i + 1 : Nat) : Int)) (fun k => ?_) hf
    rw [proofmarkref18_Norm.l1, if_neg (by omega)]
    simp only [Option.bind_some, show ((out.length : Int) ≤ (out.length : Int)) by omega, if_true, Int.toNat_natCast, List.nil_append, List.length_nil, List.take_length, Nat.zero_add, show out.length < 17592186044416 by omega, show (0 : Int) ≤ (i : Int) by omega, show (i : Int) < (c.length : Int) by omega, rdi c i hi, List.drop_length, List.length_append, List.length_singleton, show out.length + 1 + 0 < 17592186044416 by omega, wr i (by omega), show (out.length : Int) ≥ 0 by omega]
  | succ d ih =>
    intro j hd hj h1
    have hjl : j < out.length := by omega
    have e1 := of_pv (hb _ (List.getElem_mem hjl))
    have e2 := of_pv (hw _ (List.getElem_mem hi))
    by_cases hlt : pvar out[j] < pvar c[i]
    · have ih' := ih (j + 1) (by omega) (by omega) (fun a ha hlt' => by
        by_cases e : a = j
        · subst e; exact hlt
        · exact h1 a ha (by omega))
      refine Ev.step (f := fun k => proofmarkref18_Norm.l1 k c out (i : Int) ((j + 1 : Nat) : Int)) (fun k => ?_) ih'
      rw [proofmarkref18_Norm.l1, if_pos (by omega), if_pos (by omega), rdi out j hjl, of_f, Option.bind_some, if_pos (by omega), if_pos (by omega), rdi c i hi, of_f, Option.bind_some, e1, e2, if_pos hlt, wr j (by omega)]
    · have hne := hx _ (List.getElem_mem hjl)
      have hf := fin j (by omega) h1 (fun _ => by omega)
      refine Ev.step (f := fun k => proofmarkref18_Norm.l0 k c (out.take j ++ [c[i]] ++ out.drop j) ((i + 1 : Nat) : Int)) (fun k => ?_) hf
      rw [proofmarkref18_Norm.l1, if_pos (by omega), if_pos (by omega), rdi out j hjl, of_f, Option.bind_some, if_pos (by omega), if_pos (by omega), rdi c i hi, of_f, Option.bind_some, e1, e2, if_neg hlt]
      have hl1 : (out.take j).length = j := by rw [List.length_take]; omega
      simp only [Option.bind_some, show ((j : Int) ≤ (out.length : Int)) by omega, if_true, Int.toNat_natCast, List.nil_append, List.length_nil, Nat.zero_add, hl1, show j < 17592186044416 by omega, List.length_append, List.length_singleton, List.length_drop, show j + 1 + (out.length - j) < 17592186044416 by omega, wr i (by omega)]
theorem rnorm_l0 : ∀ (d i : Nat) (out : List Int), c.length - i = d → i ≤ c.length → (∀ j, (h : j < c.length) → j < i → ¬ Bad c c[j]) → Rise out → (∀ y, y ∈ out ↔ y ∈ c.take i) → out.length ≤ i → Ev (fun k => proofmarkref18_Norm.l0 k c out (i : Int)) (normOf c) := by
  intro d
  induction d with
  | zero =>
    intro i out hd hi hbad hr hm hol
    obtain rfl : i = c.length := by omega
    have hcl : Clear c := (clear_iff hw).2 fun x hx => by
      obtain ⟨j, hj, rfl⟩ := List.getElem_of_mem hx
      exact hbad j hj hj
    obtain ⟨o2, e, hm2, hr2⟩ := norm_clear hcl
    have : out = o2 := rise_eq hr hr2 fun y => by rw [hm, hm2, List.take_length]
    subst this
    rw [e]
    refine Ev.step (f := fun _ => some (out, true)) (fun k => ?_) (Ev.now _)
    rw [proofmarkref18_Norm.l0, if_neg (by omega)]
  | succ d ih =>
    intro i out hd hi hbad hr hm hol
    have h : i < c.length := by omega
    by_cases hb : Bad c c[i]
    · have hn : normOf c = ([], false) := norm_unclear fun hcl => (clear_iff hw).1 hcl _ (List.getElem_mem h) hb
      rw [hn]
      have stop : Ev (fun k => proofmarkref18_Norm.j1 k c out (i : Int) true) (([] : List Int), false) := Ev.step (f := fun _ => some ([], false)) (fun k => by rw [proofmarkref18_Norm.j1, if_pos rfl]) (Ev.now _)
      by_cases e0 : ofOf c[i] = 0
      · refine Ev.step (fun k => by rw [proofmarkref18_Norm.l0, if_pos (by omega), if_pos (by omega), rdi c i h, of_f, Option.bind_some, if_pos e0]) stop
      · have hn2 : neg c[i] ∈ c := hb.resolve_left e0
        refine Ev.step (fun k => by rw [proofmarkref18_Norm.l0, if_pos (by omega), if_pos (by omega), rdi c i h, of_f, Option.bind_some, if_neg e0]) ?_
        refine Ev.bind (rhas_ev c _ hc) ?_
        rw [show decide (wrap64 (-c[i]) ∈ c) = true from decide_eq_true hn2]
        exact stop
    · have e0 : ¬ ofOf c[i] = 0 := fun e => hb (.inl e)
      have hn2 : ¬ wrap64 (-c[i]) ∈ c := fun e => hb (.inr e)
      have hbad' : ∀ j, (hj : j < c.length) → j < i + 1 → ¬ Bad c c[j] := fun j hj hlt => by
        by_cases e : j = i
        · subst e; exact hb
        · exact hbad j hj (by omega)
      refine Ev.step (fun k => by rw [proofmarkref18_Norm.l0, if_pos (by omega), if_pos (by omega), rdi c i h, of_f, Option.bind_some, if_neg e0]) ?_
      refine Ev.bind (rhas_ev c _ hc) ?_
      rw [show decide (wrap64 (-c[i]) ∈ c) = false from decide_eq_false hn2]
      refine Ev.step (fun k => by rw [proofmarkref18_Norm.j1, if_neg (by simp), if_pos (by omega), if_pos (by omega), rdi c i h, wr i (by omega)]) ?_
      refine Ev.bind (rhas_ev out _ (by omega)) ?_
      by_cases hin : c[i] ∈ out
      · rw [decide_eq_true hin]
        simp only [if_true]
        refine ih (i + 1) out (by omega) (by omega) hbad' hr (fun y => ?_) (by omega)
        rw [hm, List.take_succ_eq_append_getElem h, List.mem_append, List.mem_singleton]
        constructor
        · exact .inl
        · rintro (h1 | h1)
          · exact h1
          · subst h1; exact (hm _).1 hin
      · rw [decide_eq_false hin]
        simp only [Bool.false_eq_true, if_false]
        have hsub : ∀ y ∈ out, y ∈ c := fun y hy => List.mem_of_mem_take ((hm y).1 hy)
        refine rnorm_l1 c hc hw out i h (fun y hy => hw y (hsub y hy)) hr (fun y hy e => ?_) hol _ (fun out' hr' hm' hl' => ?_) out.length 0 (by omega) (by omega) (fun a _ ha => absurd ha (by omega))
        · have hy2 : ¬ Bad c y := by
            obtain ⟨j, hj, rfl⟩ := List.mem_take_iff_getElem.1 ((hm y).1 hy)
            exact hbad j (by omega) (by omega)
          have p1 : pvar y ≠ 0 := fun e => hy2 (.inl (by rw [of_pv (hw y (hsub y hy))]; exact e))
          have p2 : pvar c[i] ≠ 0 := fun e => e0 (by rw [of_pv (hw _ (List.getElem_mem h))]; exact e)
          obtain ⟨e1, e2, e3⟩ := wf_lt (hw y (hsub y hy)) p1
          obtain ⟨f1, f2, f3⟩ := wf_lt (hw _ (List.getElem_mem h)) p2
          rw [e1, f1] at e
          by_cases c1 : y = c[i]
          · exact hin (c1 ▸ hy)
          · exact hy2 (.inr (by rw [e2, show -y = c[i] by split at e <;> split at e <;> omega]; exact List.getElem_mem h))
        · exact ih (i + 1) out' (by omega) (by omega) hbad' hr' (fun y => by rw [hm', hm, List.take_succ_eq_append_getElem h, List.mem_append, List.mem_singleton]) (by omega)
theorem rnorm_ev : Ev (fun k => proofmarkref18_Norm.f k c) (normOf c) := by
  have h := rnorm_l0 c hc hw c.length 0 [] (by omega) (by omega) (fun j _ hj => absurd hj (by omega)) (by unfold Rise; simp) (by simp) (by simp)
  exact h
end
/-- What the document's 'next' tells. -/
def nextOf (ks c : List Int) : Int × Bool := match scanOf ks c 0 with
  | none => (0, true)
  | some z => (z, decide (z ≠ 0))
theorem rnext_l0 (c ks : List Int) (hc : c.length < 17592186044416) (hk : ks.length < 17592186044416) (h0 : ∀ y ∈ c, y ≠ 0) :
    ∀ (d i : Nat) (left : Int), c.length - i = d → i ≤ c.length → Ev (fun k => proofmarkref18_next.l0 k c ks left (i : Int)) (match scanOf ks (c.drop i) left with | none => (0, true) | some z => (z, decide (z ≠ 0)))
  | 0, i, left, hd, hi => by
    rw [List.drop_eq_nil_of_le (by omega), scanOf]
    refine Ev.step (f := fun _ => some (left, left != 0)) (fun k => ?_) ?_
    · rw [proofmarkref18_next.l0, if_neg (by omega)]
    · have : (left != 0) = decide (left ≠ 0) := by by_cases e : left = 0 <;> simp [e]
      rw [this]; exact Ev.now _
  | d + 1, i, left, hd, hi => by
    have h : i < c.length := by omega
    have hne := h0 _ (List.getElem_mem h)
    rw [List.drop_eq_getElem_cons h, scanOf]
    refine Ev.step (fun k => by rw [proofmarkref18_next.l0, if_pos (by omega), if_pos (by omega), rdi c i h]) ?_
    refine Ev.bind (rhas_ev ks _ hk) ?_
    by_cases e1 : c[i] ∈ ks
    · rw [if_pos e1, decide_eq_true e1]
      simpa using Ev.now _
    · rw [if_neg e1, decide_eq_false e1]
      simp only [Bool.false_eq_true, if_false]
      refine Ev.bind (rhas_ev ks _ hk) ?_
      by_cases e2 : wrap64 (-c[i]) ∈ ks
      · rw [if_pos e2, decide_eq_true e2]
        simp only [if_true]
        refine Ev.step (fun k => by rw [proofmarkref18_next.j1, if_pos rfl, wr i (by omega)]) ?_
        exact rnext_l0 c ks hc hk h0 d (i + 1) left (by omega) (by omega)
      · rw [if_neg e2, decide_eq_false e2]
        simp only [Bool.false_eq_true, if_false]
        by_cases e3 : c[i] = left
        · rw [if_neg (fun hh => hh.2 e3.symm), show (c[i] == left) = true by simpa using e3]
          refine Ev.step (fun k => by rw [proofmarkref18_next.j1, if_pos rfl, wr i (by omega)]) ?_
          have := rnext_l0 c ks hc hk h0 d (i + 1) left (by omega) (by omega)
          rw [e3]; exact this
        · rw [show (c[i] == left) = false by simpa using e3]
          by_cases e4 : left = 0
          · rw [if_neg (fun hh => hh.1 e4)]
            refine Ev.step (fun k => by rw [proofmarkref18_next.j1, if_neg (by simp), if_pos e4, if_pos (by omega), if_pos (by omega), rdi c i h, wr i (by omega)]) ?_
            exact rnext_l0 c ks hc hk h0 d (i + 1) c[i] (by omega) (by omega)
          · rw [if_pos ⟨e4, Ne.symm e3⟩]
            refine Ev.step (fun k => by rw [proofmarkref18_next.j1, if_neg (by simp), if_neg e4]) ?_
            exact Ev.now _
theorem rnext_ev (c ks : List Int) (hc : c.length < 17592186044416) (hk : ks.length < 17592186044416) (h0 : ∀ y ∈ c, y ≠ 0) : Ev (fun k => proofmarkref18_next.f k c ks) (nextOf ks c) := by
  have h := rnext_l0 c ks hc hk h0 c.length 0 0 (by omega) (by omega)
  exact h
end Go.Proofs.Ytdlfmobnmcamaaa.Q
