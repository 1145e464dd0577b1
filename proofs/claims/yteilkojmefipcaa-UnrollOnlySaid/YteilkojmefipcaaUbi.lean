/- Unroll: plain laws of Only: no other variable can be turned. -/
import Derived.Test.YteilkojmefipcaaR02
namespace Go.Proofs.Yteilkojmefipcaa.U
open Go.RowKit Go.Proofs.YteilkojmefipcaaW.PrintWords Go.Proofs.YteilkojmefipcaaW.PrintLast
set_option linter.unusedVariables false
set_option linter.unusedSimpArgs false
/-- What a literal of a frame is, in any model. -/
def lv (c : S35) (M : List Bool) (a : Nat) (l : Int) : Bool := M.getD (a * szN c + (l / 2).toNat) false != decide (l % 2 = 1)
theorem lit_gen {c : S35} {M : List Bool} {k a : Nat} (hc : CircOk c) (hM : M.length = k * szN c) (ha : a < k) (hk : k ≤ 10) {l : Int} (h0 : 0 ≤ l) (h1 : l < 2 * (szN c : Int)) :
    litTrue M (litOf ((a : Int) * sizeOf c) l) = lv c M a l ∧ litTrue M (-litOf ((a : Int) * sizeOf c) l) = !lv c M a l := by
  obtain ⟨q, hq⟩ : ∃ q : Nat, l / 2 = (q : Int) := ⟨(l / 2).toNat, by omega⟩
  have hqs : q < szN c := by omega
  have h2 : (a + 1) * szN c ≤ k * szN c := Nat.mul_le_mul_right _ ha
  have h3 : k * szN c ≤ 10 * szN c := Nat.mul_le_mul_right _ hk
  rw [Nat.add_mul, Nat.one_mul] at h2
  have h4 := hc.fit.2.1
  have h5 := hc.szN
  have hl : a * szN c + q < M.length := by omega
  have hb : a * szN c + q ≤ 100000000000 := by omega
  have e1 : (a : Int) * sizeOf c + 1 + l / 2 = ((a * szN c + q : Nat) : Int) + 1 := by rw [h5, hq, Int.natCast_add, Int.natCast_mul]; omega
  have hv : (l / 2).toNat = q := by omega
  unfold lv
  rcases (by omega : l % 2 = 0 ∨ l % 2 = 1) with h | h
  · have e2 : litOf ((a : Int) * sizeOf c) l = ((a * szN c + q : Nat) : Int) + 1 := by unfold litOf; rw [h, e1]; omega
    rw [e2, litTrue_pos hl hb, litTrue_neg hl hb, hv, h, decide_eq_false (by omega)]
    cases M.getD (a * szN c + q) false <;> exact ⟨rfl, rfl⟩
  · have e2 : litOf ((a : Int) * sizeOf c) l = -(((a * szN c + q : Nat) : Int) + 1) := by unfold litOf; rw [h, e1]; omega
    rw [e2, Int.neg_neg, litTrue_pos hl hb, litTrue_neg hl hb, hv, h, decide_eq_true rfl]
    cases M.getD (a * szN c + q) false <;> exact ⟨rfl, rfl⟩
theorem lv_out {c : S35} {s : List Bool} {rows : List (List Bool)} (hs : s.length = c.f2.length) {k a : Nat} (ha : a < k) {l : Int} (h0 : 0 ≤ l) (h1 : l < 2 * (szN c : Int)) : lv c (outL c s rows k) a l = litB (valL c s rows a) l := by
  unfold lv litB
  rw [outL_get hs ha (by omega)]
/-- A model, one variable of which is turned. -/
def turnM (M : List Bool) (t : Nat) : List Bool := M.set t (!M.getD t false)
theorem turnM_len (M : List Bool) (t : Nat) : (turnM M t).length = M.length := by unfold turnM; exact List.length_set
theorem turnM_get (M : List Bool) (t q : Nat) (ht : t < M.length) : (turnM M t).getD q false = if q = t then !M.getD t false else M.getD q false := by
  unfold turnM
  by_cases h : q = t
  · subst h
    rw [if_pos rfl, List.getD_eq_getElem?_getD, List.getElem?_set_self ht]; rfl
  · rw [if_neg h, List.getD_eq_getElem?_getD, List.getElem?_set_ne (fun e => h e.symm), ← List.getD_eq_getElem?_getD]
theorem lv_turn {c : S35} {M : List Bool} {t a : Nat} (ht : t < M.length) (l : Int) : lv c (turnM M t) a l = if a * szN c + (l / 2).toNat = t then !lv c M a l else lv c M a l := by
  unfold lv
  rw [turnM_get _ _ _ ht]
  by_cases h : a * szN c + (l / 2).toNat = t
  · rw [if_pos h, if_pos h, h]
    cases M.getD t false <;> cases decide (l % 2 = 1) <;> rfl
  · rw [if_neg h, if_neg h]
theorem val_gate {c : S35} {s : List Bool} {rows : List (List Bool)} (hc : CircOk c) (hs : s.length = c.f2.length) (a : Nat) {j : Nat} (hj : j < c.f0.f1.length) : litB (valL c s rows a) (2 * (1 + c.f0.f0 + (j : Int))) = (litB (valL c s rows a) c.f0.f1[j].f0 && litB (valL c s rows a) c.f0.f1[j].f1) := by
  have hbl : ((insL c rows a ++ stL c s rows a).length : Int) = c.f0.f0 := by
    have h1 := hc.ins
    rw [List.length_append, stL_len hs]
    unfold insL
    rw [bitsL_len]; exact h1
  obtain ⟨⟨a0, a1⟩, ⟨b0, b1⟩⟩ := hc.ok j hj
  have hg := evl_gate (insL c rows a ++ stL c s rows a) c.f0.f1 hj (Nat.le_refl _) ⟨⟨a0, by rw [hbl]; exact a1⟩, ⟨b0, by rw [hbl]; exact b1⟩⟩
  have hq : (2 * (1 + c.f0.f0 + (j : Int))) = 2 * ((1 + (insL c rows a ++ stL c s rows a).length + j : Nat) : Int) := by rw [← hbl]; omega
  rw [hq, litB_even]; exact hg
theorem val_zero {c : S35} {s : List Bool} {rows : List (List Bool)} (a : Nat) : litB (valL c s rows a) 0 = false := by
  have := litB_even (valL c s rows a) 0
  rw [show (2 * ((0 : Nat) : Int)) = 0 by omega] at this
  rw [this]; exact evl_zero _ _ _
theorem val_latch {c : S35} {s : List Bool} {rows : List (List Bool)} (hs : s.length = c.f2.length) (hc : CircOk c) (a : Nat) {i : Nat} (hi : i < c.f2.length) : litB (valL c s rows a) (2 * c.f2[i].f0) = (stL c s rows a).getD i false := by
  have h1 := (hc.lats i hi).1
  rw [show 2 * c.f2[i].f0 = 2 * ((1 + c.f1.length + i : Nat) : Int) by rw [h1]; omega, litB_even, val_lat hs hi]
theorem val_link {c : S35} {s : List Bool} {rows : List (List Bool)} (hs : s.length = c.f2.length) (hc : CircOk c) (b : Nat) {i : Nat} (hi : i < c.f2.length) : litB (valL c s rows (b + 1)) (2 * c.f2[i].f0) = litB (valL c s rows b) c.f2[i].f1 := by
  rw [val_latch hs hc (b + 1) hi, stL, bitsL_get hi, map_get (fun x : S84 => litB (evlC c (insL c rows b ++ stL c s rows b)) x.f1) _ _ hi]
  rfl
theorem mem_frame {c : S35} {fs : Bool} {k a : Nat} {cl : List Int} (ha : a < k) (h : cl ∈ frameC c fs a) : cl ∈ framesC c fs k := by
  unfold framesC
  exact List.mem_flatMap.2 ⟨a, List.mem_range.2 ha, h⟩
theorem mem_gate {c : S35} {fs : Bool} {a j : Nat} {cl : List Int} (hj : j < c.f0.f1.length) (h : cl ∈ gateOf c.f0.f0 ((a : Int) * sizeOf c) j c.f0.f1[j]) : cl ∈ frameC c fs a := by
  unfold frameC clausesTo gatesTo
  refine List.mem_append_left _ (List.mem_cons_of_mem _ (List.mem_flatMap.2 ⟨j, List.mem_range.2 hj, ?_⟩))
  rw [List.getD_eq_getElem?_getD, List.getElem?_eq_getElem hj]; exact h
theorem all_false {L : List (List Int)} {p : List Int → Bool} {cl : List Int} (h : cl ∈ L) (hp : p cl = false) : L.all p = false := by
  rcases hb : L.all p with _ | _
  · rfl
  · rw [List.all_eq_true] at hb
    rw [hb cl h] at hp; cases hp
/-- What is turned alone, and is no input, nor one of the first frame's latches unless those are bound, breaks a clause. -/
theorem only_law {c : S35} {s : List Bool} {rows : List (List Bool)} {k t : Nat} (hc : CircOk c) (hs : s.length = c.f2.length) (hk : k ≤ 10) (fs : Bool) (hf : fs = true → s = c.f2.map S84.f2) (ht : t < k * szN c)
    (h1 : ¬ (1 ≤ t % szN c ∧ t % szN c ≤ c.f1.length)) (h2 : fs = false → ¬ (t < szN c ∧ ((t % szN c : Nat) : Int) ≤ c.f0.f0 ∧ 1 ≤ t % szN c)) : ((framesC c fs k).all fun cl => cl.any (litTrue (turnM (outL c s rows k) t))) = false := by
  have hlen : (outL c s rows k).length = k * szN c := outL_len hs k
  have hS : (szN c : Int) = 1 + c.f0.f0 + c.f0.f1.length := by rw [← hc.szN]; rfl
  have hS0 : 0 < szN c := by unfold szN; omega
  have hI := hc.ins
  obtain ⟨a, v, hta, hv⟩ : ∃ a v, t = a * szN c + v ∧ v < szN c := ⟨t / szN c, t % szN c, by rw [Nat.mul_comm]; exact (Nat.div_add_mod t (szN c)).symm, Nat.mod_lt _ hS0⟩
  have hmod : t % szN c = v := by rw [hta, Nat.mul_comm, Nat.mul_add_mod]; exact Nat.mod_eq_of_lt hv
  have hak : a < k := by
    rcases Nat.lt_or_ge a k with h | h
    · exact h
    · have : k * szN c ≤ a * szN c := Nat.mul_le_mul_right _ h
      omega
  rw [hmod] at h1 h2
  have htl : t < (outL c s rows k).length := by omega
  have hM' : (turnM (outL c s rows k) t).length = k * szN c := by rw [turnM_len, hlen]
  have LT : ∀ {b : Nat} {l : Int}, b < k → 0 ≤ l → l < 2 * (szN c : Int) → litTrue (turnM (outL c s rows k) t) (litOf ((b : Int) * sizeOf c) l) = lv c (turnM (outL c s rows k) t) b l ∧ litTrue (turnM (outL c s rows k) t) (-litOf ((b : Int) * sizeOf c) l) = !lv c (turnM (outL c s rows k) t) b l := fun hb h0 h1 => lit_gen hc hM' hb hk h0 h1
  have SAME : ∀ {b : Nat} {l : Int}, b < k → 0 ≤ l → l < 2 * (szN c : Int) → b * szN c + (l / 2).toNat ≠ t → lv c (turnM (outL c s rows k) t) b l = litB (valL c s rows b) l := fun hb h0 h1 hne => by rw [lv_turn htl, if_neg hne, lv_out hs hb h0 h1]
  have TURN : ∀ {l : Int}, 0 ≤ l → l < 2 * (szN c : Int) → (l / 2).toNat = v → lv c (turnM (outL c s rows k) t) a l = !litB (valL c s rows a) l := fun h0 h1 he => by rw [lv_turn htl, if_pos (by rw [he]; exact hta.symm), lv_out hs hak h0 h1]
  by_cases hv0 : v = 0
  · refine all_false (cl := [-litOf ((a : Int) * sizeOf c) 0]) (mem_frame hak (by unfold frameC clausesTo; simp)) ?_
    rw [List.any_cons, (LT hak (by omega) (by omega)).2, TURN (by omega) (by omega) (by omega), val_zero]; rfl
  · by_cases hvl : (v : Int) ≤ c.f0.f0
    · -- a latch
      obtain ⟨i, hi⟩ : ∃ i, v = 1 + c.f1.length + i := ⟨v - 1 - c.f1.length, by omega⟩
      have hil : i < c.f2.length := by omega
      have hlv := (hc.lats i hil).1
      have g0 : 0 ≤ 2 * c.f2[i].f0 := by omega
      have g1 : 2 * c.f2[i].f0 < 2 * (szN c : Int) := by omega
      have gv : (2 * c.f2[i].f0 / 2).toNat = v := by omega
      have hT := TURN g0 g1 gv
      by_cases ha0 : a = 0
      · subst ha0
        cases fs with
        | false => exact absurd ⟨by omega, hvl, by omega⟩ (h2 rfl)
        | true =>
          have hz : (0 : Int) = ((0 : Nat) : Int) * sizeOf c := by simp
          refine all_false (cl := initOf c.f2[i]) (mem_frame hak (by unfold frameC; rw [if_pos rfl, if_pos rfl]; exact List.mem_append_right _ (List.mem_map.2 ⟨_, List.getElem_mem hil, rfl⟩))) ?_
          have hvv : litB (valL c s rows 0) (2 * c.f2[i].f0) = c.f2[i].f2 := by
            rw [val_latch hs hc 0 hil]
            show s.getD i false = _
            rw [hf rfl, map_get S84.f2 _ _ hil]
          rw [hvv] at hT
          unfold initOf
          rw [hz]
          cases hb : c.f2[i].f2 with
          | true =>
            simp only [if_true, List.any_cons, List.any_nil]
            rw [(LT hak g0 g1).1, hT, hb]; rfl
          | false =>
            simp only [Bool.false_eq_true, if_false, List.any_cons, List.any_nil]
            rw [(LT hak g0 g1).2, hT, hb]; rfl
      · obtain ⟨b, rfl⟩ : ∃ b, a = b + 1 := ⟨a - 1, by omega⟩
        obtain ⟨n0, n1⟩ := (hc.lats i hil).2
        have n2 : c.f2[i].f1 < 2 * (szN c : Int) := by omega
        have hbz : (((b + 1 : Nat) : Int) - 1) = (b : Int) := by omega
        have hN := SAME (show b < k by omega) n0 n2 (by rw [hta, Nat.add_mul]; omega)
        rw [val_link hs hc b hil] at hT
        have hmem : ∀ cl, cl ∈ linkOf (((b + 1 : Nat) : Int) * sizeOf c) ((b : Int) * sizeOf c) c.f2[i] → cl ∈ framesC c fs k := fun cl hcl => mem_frame hak (by
          unfold frameC
          rw [if_neg (by omega), hbz]
          exact List.mem_append_right _ (List.mem_flatMap.2 ⟨_, List.getElem_mem hil, hcl⟩))
        cases hb : litB (valL c s rows b) c.f2[i].f1 with
        | true =>
          refine all_false (cl := [litOf (((b + 1 : Nat) : Int) * sizeOf c) (2 * c.f2[i].f0), -litOf ((b : Int) * sizeOf c) c.f2[i].f1]) (hmem _ (by unfold linkOf; simp)) ?_
          rw [List.any_cons, List.any_cons, (LT hak g0 g1).1, (LT (show b < k by omega) n0 n2).2, hT, hN, hb]; rfl
        | false =>
          refine all_false (cl := [-litOf (((b + 1 : Nat) : Int) * sizeOf c) (2 * c.f2[i].f0), litOf ((b : Int) * sizeOf c) c.f2[i].f1]) (hmem _ (by unfold linkOf; simp)) ?_
          rw [List.any_cons, List.any_cons, (LT hak g0 g1).2, (LT (show b < k by omega) n0 n2).1, hT, hN, hb]; rfl
    · -- an and
      obtain ⟨j, hj⟩ : ∃ j : Nat, (v : Int) = 1 + c.f0.f0 + j := ⟨((v : Int) - 1 - c.f0.f0).toNat, by omega⟩
      have hjl : j < c.f0.f1.length := by omega
      obtain ⟨⟨a0, a1⟩, ⟨b0, b1⟩⟩ := hc.ok j hjl
      have g0 : 0 ≤ 2 * (1 + c.f0.f0 + (j : Int)) := by omega
      have g1 : 2 * (1 + c.f0.f0 + (j : Int)) < 2 * (szN c : Int) := by omega
      have a2 : c.f0.f1[j].f0 < 2 * (szN c : Int) := by omega
      have b2 : c.f0.f1[j].f1 < 2 * (szN c : Int) := by omega
      have hT := TURN g0 g1 (by omega)
      have hA := SAME hak a0 a2 (by rw [hta]; omega)
      have hB := SAME hak b0 b2 (by rw [hta]; omega)
      rw [val_gate hc hs a hjl] at hT
      have hmem : ∀ cl, cl ∈ gateOf c.f0.f0 ((a : Int) * sizeOf c) j c.f0.f1[j] → cl ∈ framesC c fs k := fun cl hcl => mem_frame hak (mem_gate hjl hcl)
      cases hx : litB (valL c s rows a) c.f0.f1[j].f0 with
      | false =>
        rw [hx] at hT hA
        refine all_false (cl := [-litOf ((a : Int) * sizeOf c) (2 * (1 + c.f0.f0 + (j : Int))), litOf ((a : Int) * sizeOf c) c.f0.f1[j].f0]) (hmem _ (by unfold gateOf; simp)) ?_
        rw [List.any_cons, List.any_cons, (LT hak g0 g1).2, (LT hak a0 a2).1, hT, hA]; rfl
      | true =>
        cases hy : litB (valL c s rows a) c.f0.f1[j].f1 with
        | false =>
          rw [hx, hy] at hT
          rw [hy] at hB
          refine all_false (cl := [-litOf ((a : Int) * sizeOf c) (2 * (1 + c.f0.f0 + (j : Int))), litOf ((a : Int) * sizeOf c) c.f0.f1[j].f1]) (hmem _ (by unfold gateOf; simp)) ?_
          rw [List.any_cons, List.any_cons, (LT hak g0 g1).2, (LT hak b0 b2).1, hT, hB]; rfl
        | true =>
          rw [hx, hy] at hT
          rw [hx] at hA
          rw [hy] at hB
          refine all_false (cl := [litOf ((a : Int) * sizeOf c) (2 * (1 + c.f0.f0 + (j : Int))), -litOf ((a : Int) * sizeOf c) c.f0.f1[j].f0, -litOf ((a : Int) * sizeOf c) c.f0.f1[j].f1]) (hmem _ (by unfold gateOf; simp)) ?_
          rw [List.any_cons, List.any_cons, List.any_cons, (LT hak g0 g1).1, (LT hak a0 a2).2, (LT hak b0 b2).2, hT, hA, hB]; rfl
end Go.Proofs.Yteilkojmefipcaa.U
