/- The law RupFull in plain terms. -/
import Derived.Test.YtdlfmobnmcamaaaRupEv
import Derived.Test.YtdlfmobnmcamaaaQSayRupFull
namespace Go.Proofs.Ytdlfmobnmcamaaa.Pure
open Go.RowKit Go.Sort Go.Proofs.YtdlfmobnmcamaaaW.PrintWords Go.Proofs.YtdlfmobnmcamaaaW.PrintLast Go.Proofs.YtdlfmobnmcamaaaW.PrintMore Go.Proofs.Ytdlfmobnmcamaaa.Q
set_option linter.unusedVariables false
set_option linter.unusedSimpArgs false
def lit3 (x : Int) : Int := if x < 0 then wrap64 (-(wrap64 (1 + (Int.tmod (ofOf x) 3)))) else wrap64 (1 + (Int.tmod (ofOf x) 3))
/-- A literal of three variables. -/
def Th (x : Int) : Prop := x ≠ 0 ∧ -3 ≤ x ∧ x ≤ 3
theorem Th.sm {x : Int} (h : Th x) : Sm x := by unfold Th at h; unfold Sm; omega
theorem Th.pv {x : Int} (h : Th x) : pvar x ≤ 3 := by
  rw [pvar_lt h.sm.lt]; unfold Th at h; split <;> omega
theorem lit3_th {x : Int} (hw : Wf x) : Th (lit3 x) := by
  have h1 : 0 ≤ ofOf x := by unfold ofOf; split <;> (try split) <;> omega
  have e : Int.tmod (ofOf x) 3 = ofOf x % 3 := Int.tmod_eq_emod_of_nonneg h1
  unfold lit3 Th
  rw [e]
  unfold wrap64
  split <;> omega
theorem full_l1 (v : Int) (few out : List (List Int)) (i : Nat) (hi : i < few.length) (h8 : few[i].length ≤ 8) (hout : out.length ≤ 40) (r : Bool)
    (H : Ev (fun k => proofmarklaw20_RupFull.l0 k v true few (out ++ [few[i].map lit3]) ((i + 1 : Nat) : Int)) r) (hi2 : i < 1000) :
    ∀ (d j : Nat) (acc : List Int), few[i].length - j = d → j ≤ few[i].length → acc = (few[i].take j).map lit3 → Ev (fun k => proofmarklaw20_RupFull.l1 k v true few out (i : Int) acc (j : Int)) r
  | 0, j, acc, hd, hj, ha => by
    refine Ev.step (fun k => by rw [proofmarklaw20_RupFull.l1, if_pos (by omega), if_pos (by omega), rdL few i hi, if_neg (by omega), if_pos (by omega), wr i (by omega)]) ?_
    rw [ha, List.take_of_length_le (by omega)]
    exact H
  | d + 1, j, acc, hd, hj, ha => by
    have h : j < few[i].length := by omega
    have hr : YtdlfmobnmcamaaaW.PrintWords.rd few[i] (j : Int) = few[i][j] := by simp [YtdlfmobnmcamaaaW.PrintWords.rd, List.getD_eq_getElem?_getD, h]
    have hl : acc.length = j := by rw [ha, List.length_map, List.length_take]; omega
    have ih := full_l1 v few out i hi h8 hout r H hi2 d (j + 1) (acc ++ [lit3 few[i][j]]) (by omega) (by omega) (by rw [ha, List.take_succ_eq_append_getElem h, List.map_append]; rfl)
    refine Ev.step (f := fun k => proofmarklaw20_RupFull.l1 k v true few out (i : Int) (acc ++ [lit3 few[i][j]]) ((j + 1 : Nat) : Int)) (fun k => ?_) ih
    rw [proofmarklaw20_RupFull.l1, if_pos (by omega), if_pos (by omega), rdL few i hi, if_pos (by omega), if_pos (by omega), hr, of_f, Option.bind_some, wr j (by omega)]
    simp only [show acc.length < 17592186044416 by omega, if_true]
    unfold lit3
    split <;> rfl
theorem full_l0 (v : Int) (few : List (List Int)) (h8 : ∀ c ∈ few, c.length ≤ 8) (hf : few.length ≤ 40) (r : Bool) (H : Ev (fun k => proofmarklaw20_RupFull.l2 k v true (few.map (·.map lit3)) false 0) r) :
    ∀ (d i : Nat) (out : List (List Int)), few.length - i = d → i ≤ few.length → out = (few.take i).map (·.map lit3) → Ev (fun k => proofmarklaw20_RupFull.l0 k v true few out (i : Int)) r
  | 0, i, out, hd, hi, ho => by
    refine Ev.step (fun k => by rw [proofmarklaw20_RupFull.l0, if_neg (by omega)]) ?_
    rw [ho, List.take_of_length_le (by omega)]
    exact H
  | d + 1, i, out, hd, hi, ho => by
    have h : i < few.length := by omega
    have ih := full_l0 v few h8 hf r H d (i + 1) (out ++ [few[i].map lit3]) (by omega) (by omega) (by rw [ho, List.take_succ_eq_append_getElem h, List.map_append]; rfl)
    refine Ev.step (fun k => by rw [proofmarklaw20_RupFull.l0, if_pos (by omega)]) ?_
    exact full_l1 v few out i h (h8 _ (List.getElem_mem h)) (by rw [ho, List.length_map, List.length_take]; omega) r ih (by omega) few[i].length 0 [] (by omega) (by omega) rfl
/-- A model of three variables that meets clauses. -/
def met3 (l : List (List Int)) (n : Nat) : Bool := l.all fun c => c.any (litTrue (modelOf 3 (n : Int)))
theorem full_l2 (v : Int) (l : List (List Int)) (r : Bool) (H : ∀ b, b = (List.range 8).any (met3 l) → Ev (fun k => if v < 3 then proofmarklaw20_RupFull.j3 k true l b v true else proofmarklaw20_RupFull.j3 k true l b v (decide (v > 1000))) r) :
    ∀ (d i : Nat) (b : Bool), 8 - i = d → i ≤ 8 → b = (List.range i).any (met3 l) → Ev (fun k => proofmarklaw20_RupFull.l2 k v true l b (i : Int)) r
  | 0, i, b, hd, hi, hb => by
    obtain rfl : i = 8 := by omega
    refine Ev.step (fun k => by rw [proofmarklaw20_RupFull.l2, if_neg (by omega)]) ?_
    exact H b hb
  | d + 1, i, b, hd, hi, hb => by
    have e : (List.range (i + 1)).any (met3 l) = (b || met3 l i) := by rw [List.range_succ, List.any_append, hb]; simp
    cases b with
    | true =>
      have ih := full_l2 v l r H d (i + 1) true (by omega) (by omega) (by rw [e]; rfl)
      refine Ev.step (fun k => by rw [proofmarklaw20_RupFull.l2, if_pos (by omega), if_pos rfl, wr i (by omega)]) ?_
      exact ih
    | false =>
      have ih := full_l2 v l r H d (i + 1) (met3 l i) (by omega) (by omega) (by rw [e]; simp)
      refine Ev.step (fun k => by rw [proofmarklaw20_RupFull.l2, if_pos (by omega), if_neg (by simp), wr i (by omega)]) ?_
      refine Ev.bind (model_ev (i : Int) 3 (by omega)) ?_
      refine Ev.bind (ev_is (met_f _ _)) ?_
      exact ih
def full3 : List (List Int) := [[-1, -2], [1, -2], [-1, 2], [1, 2], [-1], [1], []]
theorem full_ev : Ev (fun k => proofmarkref20_Full.f k 3) full3 := Ev.of (fun k => proofmarkref20_Full.mono 3 k) (k := 60) (by decide +kernel)
def sgn (v : Int) (b : Bool) : Int := if b then v else -v
theorem conf_two {l : List (List Int)} {known : List Int} {v : Int} (hv : Lt v) (hL : Lits l) (h : ∀ b, ∃ C ∈ l, ∀ y ∈ C, neg y ∈ known ∨ neg y = sgn v b) : Conf l known := by
  have step : ∀ b, Conf l known ∨ Der l known (sgn v (!b)) := fun b => by
    obtain ⟨C, hC, hy⟩ := h b
    have hs : neg (sgn v b) = sgn v (!b) := by
      cases b with
      | true => simp only [sgn, if_true, Bool.not_true]; rw [neg_lt hv]; rfl
      | false =>
        have : Lt (-v) := by unfold Lt at *; omega
        simp only [sgn, Bool.not_false, if_true]
        show neg (-v) = v
        rw [neg_lt this]; omega
    by_cases e : ∃ z ∈ C, neg z = sgn v b
    · obtain ⟨z, hz, ez⟩ := e
      have ez' : z = sgn v (!b) := by rw [← hs, ← ez, neg_neg (hL C hC z hz)]
      right
      rw [← ez']
      refine .unit hC hz fun y hyC hne => .known ?_
      rcases hy y hyC with h1 | h1
      · exact h1
      · exfalso
        apply hne
        rw [← neg_neg (hL C hC y hyC), h1, ← ez, neg_neg (hL C hC z hz)]
    · left
      exact .inr ⟨C, hC, fun y hyC => .known ((hy y hyC).resolve_right fun h1 => e ⟨y, hyC, h1⟩)⟩
  rcases step true with h1 | h1
  · exact h1
  · rcases step false with h2 | h2
    · exact h2
    · refine .inl ⟨v, h2, ?_⟩
      rw [neg_lt hv]
      exact h1
theorem false3 (a b c : Bool) (y : Int) (h : Th y) (hf : litTrue [a, b, c] y = false) : neg y = sgn 1 a ∨ neg y = sgn 2 b ∨ neg y = sgn 3 c := by
  unfold Th at h
  have : y = -3 ∨ y = -2 ∨ y = -1 ∨ y = 1 ∨ y = 2 ∨ y = 3 := by omega
  rcases this with rfl | rfl | rfl | rfl | rfl | rfl <;> cases a <;> cases b <;> cases c <;> revert hf <;> decide +kernel
theorem conf_cast {l : List (List Int)} {c k : List Int} (e : opp c = k) (h : Conf l k) : Conf l (opp c) := e ▸ h
theorem chk_full {l : List (List Int)} (hl : ∀ c ∈ l, ∀ y ∈ c, Th y) (h : ∀ a b c, ∃ C ∈ l, ∀ y ∈ C, litTrue [a, b, c] y = false) : Chk l full3 [] := by
  have lits : ∀ m : List (List Int), (∀ c ∈ m, ∀ y ∈ c, Th y) → Lits (l ++ m) := fun m hm c hc y hy => by
    rcases List.mem_append.1 hc with hc | hc
    · exact (hl c hc y hy).sm.lt
    · exact (hm c hc y hy).sm.lt
  have four : ∀ (a b : Bool) (m : List (List Int)), (∀ c ∈ m, ∀ y ∈ c, Th y) → Conf (l ++ m) [sgn 1 a, sgn 2 b] := fun a b m hm => by
    refine conf_two (v := 3) (by unfold Lt; omega) (lits m hm) fun c => ?_
    obtain ⟨C, hC, hf⟩ := h a b c
    refine ⟨C, List.mem_append_left _ hC, fun y hy => ?_⟩
    rcases false3 a b c y (hl C hC y hy) (hf y hy) with e | e | e
    · exact .inl (by simp [e])
    · exact .inl (by simp [e])
    · exact .inr e
  have th : ∀ c ∈ full3, ∀ y ∈ c, Th y := by unfold Th; decide +kernel
  have two : ∀ (a : Bool) (m : List (List Int)), (∀ c ∈ m, ∀ y ∈ c, Th y) → (∀ b, [neg (sgn 1 a), neg (sgn 2 b)] ∈ m) → Conf (l ++ m) [sgn 1 a] := fun a m hm h2 => by
    refine conf_two (v := 2) (by unfold Lt; omega) (lits m hm) fun b => ⟨_, List.mem_append_right _ (h2 b), fun y hy => ?_⟩
    revert hy
    cases a <;> cases b <;> (simp only [List.mem_cons, List.not_mem_nil, or_false]; rintro (rfl | rfl) <;> decide +kernel)
  have one : ∀ (m : List (List Int)), (∀ c ∈ m, ∀ y ∈ c, Th y) → (∀ b, [neg (sgn 1 b)] ∈ m) → Conf (l ++ m) [] := fun m hm h1 => by
    refine conf_two (v := 1) (by unfold Lt; omega) (lits m hm) fun b => ⟨_, List.mem_append_right _ (h1 b), fun y hy => ?_⟩
    revert hy
    cases b <;> (simp only [List.mem_cons, List.not_mem_nil, or_false]; rintro rfl; decide +kernel)
  have sub : ∀ (m : List (List Int)), (∀ c ∈ m, c ∈ full3) → ∀ c ∈ m, ∀ y ∈ c, Th y := fun m hm c hc => th c (hm c hc)
  refine ⟨?_, ?_, ?_, ?_, ?_, ?_, ?_, ?_⟩
  · have := four true true [] (by simp)
    rw [List.append_nil] at this
    exact conf_cast (by decide +kernel) this
  · exact conf_cast (by decide +kernel) (four false true [[-1, -2]] (sub _ (by decide +kernel)))
  · have := four true false [[-1, -2], [1, -2]] (sub _ (by decide +kernel))
    refine conf_cast (by decide +kernel) (k := [sgn 1 true, sgn 2 false]) (by simpa using this)
  · have := four false false [[-1, -2], [1, -2], [-1, 2]] (sub _ (by decide +kernel))
    refine conf_cast (by decide +kernel) (k := [sgn 1 false, sgn 2 false]) (by simpa using this)
  · have := two true [[-1, -2], [1, -2], [-1, 2], [1, 2]] (sub _ (by decide +kernel)) (by decide +kernel)
    refine conf_cast (by decide +kernel) (k := [sgn 1 true]) (by simpa using this)
  · have := two false [[-1, -2], [1, -2], [-1, 2], [1, 2], [-1]] (sub _ (by decide +kernel)) (by decide +kernel)
    refine conf_cast (by decide +kernel) (k := [sgn 1 false]) (by simpa using this)
  · have := one [[-1, -2], [1, -2], [-1, 2], [1, 2], [-1], [1]] (sub _ (by decide +kernel)) (by decide +kernel)
    refine conf_cast (by decide +kernel) (k := []) (by simpa using this)
  · exact .inr ⟨[], by simp, fun y hy => by cases hy⟩
theorem model3 (a b c : Bool) : ∃ n, n < 8 ∧ modelOf 3 ((n : Nat) : Int) = [a, b, c] := by
  refine ⟨(if a then 1 else 0) + (if b then 2 else 0) + (if c then 4 else 0), ?_, ?_⟩ <;> cases a <;> cases b <;> cases c <;> decide +kernel
theorem true_pad (m q : List Bool) (y : Int) (h : pvar y ≤ (m.length : Int)) : litTrue (m ++ q) y = litTrue m y := by
  unfold litTrue
  by_cases h0 : 0 < pvar y
  · have e : rdOf false (m ++ q) (pvar y - 1) = rdOf false m (pvar y - 1) := by
      unfold rdOf
      rw [List.getD_eq_getElem?_getD, List.getD_eq_getElem?_getD, List.getElem?_append_left (by omega)]
    rw [e]
    simp [h0, h, show pvar y ≤ (m.length : Int) + (q.length : Int) by omega]
  · simp [h0]
theorem full_iff {l : List (List Int)} (hl : ∀ c ∈ l, ∀ y ∈ c, Th y) (h1 : l.length ≤ 1000) (h2 : l.flatten.length ≤ 10000) : Chk l full3 [] ↔ ¬ (List.range 8).any (met3 l) = true := by
  constructor
  · intro h hm
    simp only [List.any_eq_true, List.mem_range] at hm
    obtain ⟨n, hn, hm⟩ := hm
    have hm := (meets_iff _ _).1 hm
    have A : Askc l full3 [] := askc_of (fun c hc y hy => (hl c hc y hy).sm) (by unfold Sm; decide +kernel) (by simp) h1 (by decide) h2 (by decide) (by simp)
    refine chk_no A (m := modelOf 3 (n : Int) ++ [false, false, false, false, false]) (by simp [modelOf_len]) (fun c hc => ?_) h (by simp)
    obtain ⟨y, hy, ht⟩ := hm c hc
    exact ⟨y, hy, by rw [true_pad _ _ _ (by rw [modelOf_len]; exact (hl c hc y hy).pv)]; exact ht⟩
  · intro h
    refine chk_full hl fun a b c => ?_
    obtain ⟨n, hn, e⟩ := model3 a b c
    have hm : met3 l n = false := by
      cases e : met3 l n with
      | false => rfl
      | true => exact absurd (List.any_eq_true.2 ⟨n, List.mem_range.2 hn, e⟩) h
    unfold met3 at hm
    rw [e] at hm
    simpa using hm
theorem RupFull (x0 : List (List Int)) (x1 : Int) (h0 : BL22 x0) (h1 : (Lit.int .i64 x1).wf = true) : ∃ k, proofmarklaw20_RupFull.f k x0 x1 = some true := by
  refine Ev.rounds (g := fun k => proofmarklaw20_RupFull.f k x0 x1) ?_
  unfold proofmarklaw20_RupFull.f
  refine Ev.bind (ev_is rfl) ?_
  refine Ev.bind (smalls_ev x0) ?_
  have hw := smalls_sm (bl22_wf h0)
  have n0 := smalls_len x0
  have n8 := smalls_len8 x0
  obtain ⟨few, ef⟩ : ∃ l, smallsOf x0 = l := ⟨_, rfl⟩
  rw [ef] at hw n0 n8 ⊢
  have hth : ∀ c ∈ few.map (·.map lit3), ∀ y ∈ c, Th y := fun c hc y hy => by
    simp only [List.mem_map] at hc
    obtain ⟨d, hd, rfl⟩ := hc
    simp only [List.mem_map] at hy
    obtain ⟨z, hz, rfl⟩ := hy
    exact lit3_th (hw d hd z hz).wf
  have l8 : ∀ c ∈ few.map (·.map lit3), c.length ≤ 8 := fun c hc => by
    simp only [List.mem_map] at hc
    obtain ⟨d, hd, rfl⟩ := hc
    rw [List.length_map]; exact n8 d hd
  have fl := flat_le _ 8 l8
  rw [List.length_map] at fl
  obtain ⟨l, el⟩ : ∃ l, few.map (·.map lit3) = l := ⟨_, rfl⟩
  have nl : l.length ≤ 40 := by rw [← el, List.length_map]; exact n0
  rw [el] at hth fl
  have A : Askc l full3 [] := askc_of (fun c hc y hy => (hth c hc y hy).sm) (by unfold Sm; decide +kernel) (by simp) (by omega) (by decide) (by omega) (by decide) (by simp)
  have fin : ∀ v : Int, 3 ≤ v → v ≤ 1000 → ∀ b, b = (List.range 8).any (met3 l) → Ev (fun k => (proofmarkref20_Full.f k 3).bind fun t => (rup_Check.f l v t []).bind fun u => some (u == !b)) true := fun v hv hv2 b hb => by
    refine Ev.bind full_ev ?_
    refine Ev.bind (ev_is (check_f A v)) ?_
    have hi := check_iff' A (v := v) (by omega) (by omega) (fun c hc y hy => by
      have : Th y := by
        rcases List.mem_append.1 hc with hc | hc
        · exact hth c hc y hy
        · exact (show ∀ c ∈ full3, ∀ y ∈ c, Th y by unfold Th; decide +kernel) c hc y hy
      have := this.pv
      omega) (by simp)
    have hf := full_iff hth (by omega) (by omega)
    rw [← hb] at hf
    have e : checkOf l v full3 [] = !b := by
      cases b with
      | true =>
        cases hc : checkOf l v full3 [] with
        | false => rfl
        | true => exact absurd rfl (hf.1 (hi.1 hc))
      | false => exact hi.2 (hf.2 (by simp))
    rw [e]
    simpa using Ev.now true
  refine full_l0 x1 few n8 n0 true ?_ few.length 0 [] (by omega) (by omega) rfl
  rw [el]
  refine full_l2 x1 l true ?_ 8 0 false rfl (by omega) rfl
  intro b hb
  by_cases c1 : x1 < 3
  · simp only [c1, if_true]
    refine Ev.step (fun k => by rw [proofmarklaw20_RupFull.j3, if_pos rfl, if_pos rfl]) ?_
    exact fin 3 (by omega) (by omega) b hb
  · simp only [c1, if_false]
    by_cases c2 : x1 > 1000
    · refine Ev.step (fun k => by rw [proofmarklaw20_RupFull.j3, if_pos (decide_eq_true c2), if_pos rfl]) ?_
      exact fin 3 (by omega) (by omega) b hb
    · refine Ev.step (fun k => by rw [proofmarklaw20_RupFull.j3, if_neg (by simpa using c2), if_pos rfl]) ?_
      exact fin x1 (by omega) (by omega) b hb
end Go.Proofs.Ytdlfmobnmcamaaa.Pure
