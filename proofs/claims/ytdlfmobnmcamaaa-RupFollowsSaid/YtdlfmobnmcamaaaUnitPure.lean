/- What prop.Norm and prop.Unit tell, in plain Lean. Written for this claim. -/
import Derived.Test.YtdlfmobnmcamaaaUnitB
namespace Go.Proofs.Ytdlfmobnmcamaaa.Q
open Go.RowKit Go.Sort Go.Shelf Go.Proofs.YtdlfmobnmcamaaaW.PrintWords Go.Proofs.YtdlfmobnmcamaaaW.PrintLast Go.Proofs.YtdlfmobnmcamaaaW.PrintMore
set_option linter.unusedVariables false
set_option linter.unusedSimpArgs false
theorem once_mem (d : Array Int) : ∀ (m : Nat), m ≤ d.size → ∀ x, x ∈ Lib.compactUpTo d m ↔ x ∈ d.toList.take m
  | 0, _, x => by simp [Lib.compactUpTo]
  | m + 1, hm, x => by
    have ih := once_mem d m (by omega) x
    have hl : m < d.toList.length := by simpa using (show m < d.size by omega)
    rw [Lib.compactUpTo_succ, List.mem_append, ih, List.take_succ_eq_append_getElem hl, List.mem_append]
    have e : d[m]! = d.toList[m] := by simp [getElem!_pos d m (by omega)]
    by_cases hk : Lib.keeps d m = true
    · rw [if_pos hk, e]
    · rw [if_neg hk]
      simp only [Lib.keeps, decide_eq_true_eq, not_or, Decidable.not_not] at hk
      have h1 : m - 1 < d.toList.length := by omega
      have e1 : d[m - 1]! = d.toList[m - 1] := by simp [getElem!_pos d (m - 1) (by omega)]
      constructor
      · rintro (h | h)
        · exact .inl h
        · cases h
      · rintro (h | h)
        · exact .inl h
        · simp only [List.mem_singleton] at h
          refine .inl ?_
          rw [h, ← e, hk.2, e1]
          exact List.mem_take_iff_getElem.2 ⟨m - 1, by omega, rfl⟩
theorem litOnce_mem (l : List Int) (x : Int) : x ∈ litOnce l ↔ x ∈ l := by
  unfold litOnce
  rw [once_mem _ _ (by simp)]
  simp
def litLe (x y : Int) : Prop := pvar x < pvar y ∨ (pvar x = pvar y ∧ x ≤ y)
theorem once_sorted (d : Array Int) (hs : d.toList.Pairwise litLe) : ∀ (m : Nat), m ≤ d.size → (Lib.compactUpTo d m).Pairwise (fun x y => litLe x y ∧ x ≠ y)
  | 0, _ => by simp [Lib.compactUpTo]
  | m + 1, hm => by
    have ih := once_sorted d hs m (by omega)
    have hl : m < d.toList.length := by simpa using (show m < d.size by omega)
    rw [Lib.compactUpTo_succ]
    have e : d[m]! = d.toList[m] := by simp [getElem!_pos d m (by omega)]
    by_cases hk : Lib.keeps d m = true
    · rw [if_pos hk, e, List.pairwise_append]
      refine ⟨ih, by simp, fun x hx y hy => ?_⟩
      simp only [List.mem_singleton] at hy
      subst hy
      rw [once_mem d m (by omega)] at hx
      obtain ⟨i, hi, rfl⟩ := List.mem_take_iff_getElem.1 hx
      have hi' : i < m := by omega
      rw [List.pairwise_iff_getElem] at hs
      have h1 := hs i m (by omega) hl hi'
      refine ⟨h1, fun hx => ?_⟩
      simp only [Lib.keeps, decide_eq_true_eq] at hk
      have e1 : d[m - 1]! = d.toList[m - 1] := by simp [getElem!_pos d (m - 1) (by omega)]
      rw [e, e1] at hk
      rcases hk with hk | hk
      · omega
      · apply hk
        by_cases c : i = m - 1
        · subst c; exact hx.symm
        · have h2 := hs i (m - 1) (by omega) (by omega) (by omega)
          have h3 := hs (m - 1) m (by omega) hl (by omega)
          unfold litLe at h2 h3
          rw [hx] at h2
          omega
    · rw [if_neg hk, List.append_nil]; exact ih
theorem litSort_sorted (l : List Int) : (litSort l).Pairwise litLe := by
  have tr : ∀ x y z : Int, (!(ltOf litCmp) y x) = true → (!(ltOf litCmp) z y) = true → (!(ltOf litCmp) z x) = true := by
    intro x y z h1 h2
    simp only [Bool.not_eq_true'] at *
    exact litCmp_swo.ntrans _ _ _ h2 h1
  have tot : ∀ x y : Int, ((!(ltOf litCmp) y x) || (!(ltOf litCmp) x y)) = true := by
    intro x y
    cases h1 : (ltOf litCmp) y x with
    | false => simp
    | true =>
      cases h2 : (ltOf litCmp) x y with
      | false => simp
      | true => have := litCmp_swo.trans _ _ _ h1 h2; rw [litCmp_swo.irrefl] at this; cases this
  refine (List.pairwise_mergeSort tr tot l).imp fun {x y} h => ?_
  simp only [Bool.not_eq_true', litLt_not] at h
  unfold litLe
  omega
theorem litSort_mem (l : List Int) (x : Int) : x ∈ litSort l ↔ x ∈ l := (List.mergeSort_perm l _).mem_iff
/-- Literals of one variable each, none of none. -/
def Clear (ks : List Int) : Prop := (∀ x ∈ ks, pvar x ≠ 0) ∧ ∀ x ∈ ks, ∀ y ∈ ks, pvar x = pvar y → x = y
/-- By variable. -/
def Rise (l : List Int) : Prop := l.Pairwise fun x y => pvar x < pvar y
theorem rd_get (s : List Int) (i : Nat) (h : i < s.length) : YtdlfmobnmcamaaaW.PrintWords.rd s (i : Int) = s[i] := by simp [YtdlfmobnmcamaaaW.PrintWords.rd, List.getD_eq_getElem?_getD, h]
theorem norm_row (ks : List Int) : (litOnce (litSort ks)).Pairwise (fun x y => litLe x y ∧ x ≠ y) := by
  have h := once_sorted (litSort ks).toArray (litSort_sorted ks) (litSort ks).length (by simp)
  exact h
theorem norm_mem (ks : List Int) (x : Int) : x ∈ litOnce (litSort ks) ↔ x ∈ ks := by rw [litOnce_mem, litSort_mem]
theorem rise_of {s : List Int} (hs : s.Pairwise (fun x y => litLe x y ∧ x ≠ y)) (hb : ¬ litBad s) : Rise s := by
  have adj : ∀ i, i + 1 < s.length → pvar s[i]! < pvar s[i+1]! := by
    intro i hi
    have h1 := List.pairwise_iff_getElem.1 hs i (i + 1) (by omega) hi (by omega)
    have h2 : ¬ badAt s (i + 1) := fun h => hb ⟨i + 1, hi, h⟩
    unfold badAt at h2
    rw [rd_get s (i + 1) hi, show (((i + 1 : Nat) : Int) - 1) = (i : Int) by omega, rd_get s i (by omega)] at h2
    rw [getElem!_pos s i (by omega), getElem!_pos s (i + 1) hi]
    unfold litLe at h1
    omega
  unfold Rise
  rw [List.pairwise_iff_getElem]
  intro i j hi hj hij
  have : ∀ d, i + d + 1 < s.length → pvar s[i]! < pvar s[i + d + 1]! := by
    intro d
    induction d with
    | zero => exact fun h => adj i h
    | succ d ih => exact fun h => Int.lt_trans (ih (by omega)) (adj (i + d + 1) h)
  have h := this (j - i - 1) (by omega)
  rw [show i + (j - i - 1) + 1 = j by omega, getElem!_pos s i hi, getElem!_pos s j hj] at h
  exact h
theorem norm_clear {ks : List Int} (h : Clear ks) : ∃ out, normOf ks = (out, true) ∧ (∀ x, x ∈ out ↔ x ∈ ks) ∧ Rise out := by
  have hb : ¬ litBad (litOnce (litSort ks)) := by
    rintro ⟨i, hi, hb⟩
    have hm : ∀ (j : Nat) (hj : j < (litOnce (litSort ks)).length), (litOnce (litSort ks))[j] ∈ ks := fun j hj => (norm_mem ks _).1 (List.getElem_mem hj)
    unfold badAt at hb
    rcases hb with hb | ⟨h0, hb⟩
    · rw [rd_get _ i hi] at hb
      exact h.1 _ (hm i hi) hb
    · rw [show ((i : Int) - 1) = ((i - 1 : Nat) : Int) by omega, rd_get _ (i - 1) (by omega), rd_get _ i hi] at hb
      have e := h.2 _ (hm (i - 1) (by omega)) _ (hm i hi) hb
      exact (List.pairwise_iff_getElem.1 (norm_row ks) (i - 1) i (by omega) hi (by omega)).2 e
  exact ⟨_, by unfold normOf; rw [if_neg hb], norm_mem ks, rise_of (norm_row ks) hb⟩
theorem norm_unclear {ks : List Int} (h : ¬ Clear ks) : normOf ks = ([], false) := by
  unfold normOf
  rw [if_pos]
  apply Decidable.byContradiction
  intro hb
  apply h
  have hr := rise_of (norm_row ks) hb
  refine ⟨fun x hx h0 => ?_, fun x hx y hy e => ?_⟩
  · obtain ⟨i, hi, e⟩ := List.getElem_of_mem ((norm_mem ks x).2 hx)
    exact hb ⟨i, hi, .inl (by rw [rd_get _ i hi, e]; exact h0)⟩
  · obtain ⟨i, hi, ei⟩ := List.getElem_of_mem ((norm_mem ks x).2 hx)
    obtain ⟨j, hj, ej⟩ := List.getElem_of_mem ((norm_mem ks y).2 hy)
    have hp := List.pairwise_iff_getElem.1 hr
    rcases Nat.lt_trichotomy i j with c | c | c
    · have := hp i j hi hj c; rw [ei, ej] at this; omega
    · subst c; exact ei.symm.trans ej
    · have := hp j i hj hi c; rw [ei, ej] at this; omega
theorem rise_eq {a b : List Int} (ha : Rise a) (hb : Rise b) (h : ∀ x, x ∈ a ↔ x ∈ b) : a = b := by
  have na : a.Nodup := ha.imp fun {x y} h e => by subst e; omega
  have nb : b.Nodup := hb.imp fun {x y} h e => by subst e; omega
  refine List.Perm.eq_of_pairwise (le := fun x y => pvar x < pvar y) ?_ ha hb ((List.perm_ext_iff_of_nodup na nb).2 h)
  intro x y _ _ h1 h2
  omega
theorem rise_clear {a : List Int} (ha : Rise a) (h0 : ∀ x ∈ a, pvar x ≠ 0) : Clear a := by
  refine ⟨h0, fun x hx y hy e => ?_⟩
  obtain ⟨i, hi, ei⟩ := List.getElem_of_mem hx
  obtain ⟨j, hj, ej⟩ := List.getElem_of_mem hy
  have hp := List.pairwise_iff_getElem.1 ha
  rcases Nat.lt_trichotomy i j with c | c | c
  · have := hp i j hi hj c; rw [ei, ej] at this; omega
  · subst c; exact ei.symm.trans ej
  · have := hp j i hj hi c; rw [ei, ej] at this; omega
theorem pvar_lt {x : Int} (h : Lt x) : pvar x = if x < 0 then -x else x := by
  have e : wrap64 (-x) = -x := by unfold Lt at h; unfold wrap64; omega
  unfold Lt at h
  unfold pvar
  rw [e]
  unfold mx
  repeat' split
  all_goals omega
theorem pvar_neg {x : Int} (h : Lt x) : pvar (neg x) = pvar x := by
  rw [pvar_lt (neg_Lt h), pvar_lt h, neg_lt h]
  unfold Lt at h
  repeat' split
  all_goals omega
theorem pvar_pos {x : Int} (h : Lt x) : 0 < pvar x := by
  rw [pvar_lt h]; unfold Lt at h; split <;> omega
theorem pvar_eq {x y : Int} (hx : Lt x) (hy : Lt y) (h : pvar x = pvar y) : x = y ∨ y = neg x := by
  rw [pvar_lt hx, pvar_lt hy] at h
  rw [neg_lt hx]
  unfold Lt at hx hy
  split at h <;> split at h <;> omega
/-- A literal and its opposite are not both true. -/
theorem true_neg {m : List Bool} {x : Int} (hx : Lt x) (h1 : litTrue m x = true) (h2 : litTrue m (neg x) = true) : False := by
  unfold litTrue at h1 h2
  rw [pvar_neg hx, neg_lt hx] at h2
  simp only [Bool.and_eq_true, decide_eq_true_eq, beq_iff_eq] at h1 h2
  have := h1.2.symm.trans h2.2
  unfold Lt at hx
  by_cases c : 0 < x
  · simp [c] at this; omega
  · simp [c] at this; omega
/-- .. one of them is, if the model tells the variable. -/
theorem true_or {m : List Bool} {x : Int} (hx : Lt x) (hm : pvar x ≤ (m.length : Int)) : litTrue m x = true ∨ litTrue m (neg x) = true := by
  unfold litTrue
  rw [pvar_neg hx, neg_lt hx]
  have hp := pvar_pos hx
  simp only [Bool.and_eq_true, decide_eq_true_eq, beq_iff_eq, hp, hm, true_and]
  unfold Lt at hx
  by_cases c : 0 < x
  · simp [c]
    cases rdOf false m (pvar x - 1) <;> simp
    all_goals omega
  · simp [c]
    cases rdOf false m (pvar x - 1) <;> simp
    all_goals omega
def Lits (l : List (List Int)) : Prop := ∀ c ∈ l, ∀ y ∈ c, Lt y
theorem der_of {l : List (List Int)} {known : List Int} {x : Int} (h : Der l known x) : x ∈ known ++ l.flatten := by
  cases h with
  | known h => exact List.mem_append_left _ h
  | unit hc hx _ => exact List.mem_append_right _ (List.mem_flatten.2 ⟨_, hc, hx⟩)
theorem der_lt {l : List (List Int)} {known : List Int} {x : Int} (hL : Lits l) (hK : ∀ y ∈ known, Lt y) (h : Der l known x) : Lt x := by
  cases h with
  | known h => exact hK _ h
  | unit hc hx _ => exact hL _ hc _ hx
/-- Does a model meet clauses? -/
def Meets (m : List Bool) (l : List (List Int)) : Prop := ∀ c ∈ l, ∃ y ∈ c, litTrue m y = true
theorem der_true {l : List (List Int)} {known : List Int} {m : List Bool} (hL : Lits l) (hm : Meets m l) (hk : ∀ y ∈ known, litTrue m y = true) {x : Int} (h : Der l known x) : litTrue m x = true := by
  induction h with
  | known h => exact hk _ h
  | @unit c x hc hx _ ih =>
    obtain ⟨y, hy, ht⟩ := hm c hc
    by_cases e : y = x
    · exact e ▸ ht
    · exact (true_neg (hL c hc y hy) ht (ih y hy e)).elim
theorem conf_no {l : List (List Int)} {known : List Int} {m : List Bool} (hL : Lits l) (hK : ∀ y ∈ known, Lt y) (hm : Meets m l) (hk : ∀ y ∈ known, litTrue m y = true) : ¬ Conf l known := by
  rintro (⟨x, h1, h2⟩ | ⟨c, hc, h⟩)
  · exact true_neg (der_lt hL hK h1) (der_true hL hm hk h1) (der_true hL hm hk h2)
  · obtain ⟨y, hy, ht⟩ := hm c hc
    exact true_neg (hL c hc y hy) ht (der_true hL hm hk (h y hy))
theorem der_more {l l' : List (List Int)} {known known' : List Int} (h1 : ∀ c ∈ l, c ∈ l') (h2 : ∀ x ∈ known, Der l' known' x) {x : Int} (h : Der l known x) : Der l' known' x := by
  induction h with
  | known h => exact h2 _ h
  | unit hc hx _ ih => exact .unit (h1 _ hc) hx ih
theorem conf_more {l l' : List (List Int)} {known known' : List Int} (h1 : ∀ c ∈ l, c ∈ l') (h2 : ∀ x ∈ known, Der l' known' x) (h : Conf l known) : Conf l' known' := by
  rcases h with ⟨x, ha, hb⟩ | ⟨c, hc, h⟩
  · exact .inl ⟨x, der_more h1 h2 ha, der_more h1 h2 hb⟩
  · exact .inr ⟨c, h1 c hc, fun y hy => der_more h1 h2 (h y hy)⟩
theorem row_ex : ∀ (L : List Int) (P : Int → Prop), (∀ x, P x → x ∈ L) → ∃ ks : List Int, ks.Nodup ∧ ∀ x, P x ↔ x ∈ ks
  | [], P, h => ⟨[], by simp, fun x => ⟨fun hx => h x hx, fun hx => by cases hx⟩⟩
  | a :: L, P, h => by
    obtain ⟨ks, hn, hk⟩ := row_ex L (fun x => P x ∧ x ≠ a) (fun x hx => by
      rcases List.mem_cons.1 (h x hx.1) with e | e
      · exact absurd e hx.2
      · exact e)
    by_cases ha : P a
    · refine ⟨a :: ks, List.nodup_cons.2 ⟨fun hx => ((hk a).2 hx).2 rfl, hn⟩, fun x => ⟨fun hx => ?_, fun hx => ?_⟩⟩
      · by_cases e : x = a
        · subst e; exact List.mem_cons_self
        · exact List.mem_cons_of_mem _ ((hk x).1 ⟨hx, e⟩)
      · rcases List.mem_cons.1 hx with e | hx
        · subst e; exact ha
        · exact ((hk x).2 hx).1
    · refine ⟨ks, hn, fun x => ⟨fun hx => (hk x).1 ⟨hx, fun e => ha (e ▸ hx)⟩, fun hx => ((hk x).2 hx).1⟩⟩
theorem row_is (l : List (List Int)) (known : List Int) : ∃ ks, Row l known ks := by
  obtain ⟨ks, h1, h2⟩ := row_ex (known ++ l.flatten) (Der l known) (fun x h => der_of h)
  exact ⟨ks, h1, h2⟩
/-- What prop.Unit tells, in one piece. -/
theorem unit_spec {l : List (List Int)} {vars : Int} {known : List Int} (h1 : rightOf l vars = true) (h2 : rightOf [known] vars = true) (hL : Lits l) (hK : ∀ y ∈ known, Lt y) :
    (Conf l known ∧ unitOf l vars known = ([], false)) ∨ (¬ Conf l known ∧ ∃ out, unitOf l vars known = (out, true) ∧ (∀ x, x ∈ out ↔ Der l known x) ∧ Rise out) := by
  by_cases hc : Conf l known
  · exact .inl ⟨hc, unitOf_conf hc⟩
  · right
    obtain ⟨ks, hr⟩ := row_is l known
    have hlt : ∀ x ∈ ks, Lt x := fun x hx => der_lt hL hK ((hr.2 x).2 hx)
    have hcl : Clear ks := ⟨fun x hx => by have := pvar_pos (hlt x hx); omega, fun x hx y hy e => by
      rcases pvar_eq (hlt x hx) (hlt y hy) e with e | e
      · exact e
      · exact absurd (.inl ⟨x, (hr.2 x).2 hx, (hr.2 _).2 (e ▸ hy)⟩) hc⟩
    obtain ⟨out, e, hm, hri⟩ := norm_clear hcl
    exact ⟨hc, out, by rw [unitOf_row h1 h2 hc hr, e], fun x => (hm x).trans (hr.2 x).symm, hri⟩
theorem unit_true {l : List (List Int)} {vars : Int} {known : List Int} (h1 : rightOf l vars = true) (h2 : rightOf [known] vars = true) (hL : Lits l) (hK : ∀ y ∈ known, Lt y) : (unitOf l vars known).2 = true ↔ ¬ Conf l known := by
  rcases unit_spec h1 h2 hL hK with ⟨h, e⟩ | ⟨h, out, e, _⟩ <;> rw [e] <;> simp [h]
/-- Literals of the variables 1 to 8. -/
def Sm (x : Int) : Prop := x ≠ 0 ∧ -8 ≤ x ∧ x ≤ 8
theorem Sm.lt {x : Int} (h : Sm x) : Lt x := by unfold Sm at h; unfold Lt; omega
theorem Sm.wf {x : Int} (h : Sm x) : Wf x := by unfold Sm at h; unfold Wf; omega
theorem Sm.neg {x : Int} (h : Sm x) : Sm (neg x) := by rw [neg_lt h.lt]; unfold Sm at *; omega
theorem Sm.pv {x : Int} (h : Sm x) : pvar x ≤ 8 := by rw [pvar_lt h.lt]; unfold Sm at h; split <;> omega
theorem right_sm {l : List (List Int)} {vars : Int} (hv : 8 ≤ vars) (hv2 : vars ≤ 1048576) (h : ∀ c ∈ l, ∀ y ∈ c, Sm y) : rightOf l vars = true := by
  simp only [rightOf, Bool.and_eq_true, decide_eq_true_eq, List.all_eq_true]
  refine ⟨⟨by omega, hv2⟩, fun c hc y hy => ?_⟩
  have := (h c hc y hy).pv
  have := pvar_pos (h c hc y hy).lt
  simp only [litOk, Bool.and_eq_true, decide_eq_true_eq]
  omega
end Go.Proofs.Ytdlfmobnmcamaaa.Q
