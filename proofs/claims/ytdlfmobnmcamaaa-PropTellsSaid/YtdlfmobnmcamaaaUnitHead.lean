/- The document's examples, in plain Lean, and the head of layer 18's laws. Written for this claim. -/
import Derived.Test.YtdlfmobnmcamaaaUnitB
import Derived.Test.YtdlfmobnmcamaaaQx7
import Derived.Test.YtdlfmobnmcamaaaQx0
import Derived.Test.YtdlfmobnmcamaaaUnitWalk
import Derived.Test.YtdlfmobnmcamaaaQx6
import Derived.Outline
namespace Go.Proofs.Ytdlfmobnmcamaaa.Q
open Go.RowKit Go.Sort Go.Proofs.YtdlfmobnmcamaaaW.PrintWords Go.Proofs.YtdlfmobnmcamaaaW.PrintLast Go.Proofs.YtdlfmobnmcamaaaW.PrintMore
set_option linter.unusedVariables false
/-- A row in order is what the sort makes of any row with the same members as often. -/
theorem litSort_eq {a b : List Int} (h : a.Perm b) (hs : b.Pairwise fun x y => (!(ltOf litCmp) y x) = true) : litSort a = b := by
  have e : litSort b = b := List.mergeSort_of_pairwise hs
  rw [litSort_perm h, e]
theorem normOf_eq {a b : List Int} (h : a.Perm b) (hs : b.Pairwise fun x y => (!(ltOf litCmp) y x) = true) : normOf a = if litBad (litOnce b) then ([], false) else (litOnce b, true) := by
  unfold normOf
  rw [litSort_eq h hs]
theorem norm_ex1 : normOf [3, -1, 3] = ([-1, 3], true) := by
  rw [normOf_eq (b := [-1, 3, 3]) (by decide +kernel) (by decide +kernel)]
  decide +kernel
theorem norm_ex2 : normOf [1, -1] = ([], false) := by
  rw [normOf_eq (b := [-1, 1]) (by decide +kernel) (by decide +kernel)]
  decide +kernel
theorem res_ex : resOf [1, 2] [-2, 3] 2 = ([1, 3], true) := by
  have e : resRow [1, 2] [-2, 3] 2 = [1, 3] := by decide +kernel
  unfold resOf
  rw [if_pos (by decide +kernel), e, normOf_eq (b := [1, 3]) (by decide +kernel) (by decide +kernel)]
  decide +kernel
/-- A row that is closed is what follows. -/
theorem row_of {l : List (List Int)} {known ks : List Int} (hL : ∀ c ∈ l, ∀ y ∈ c, Lt y) (hn : ks.Nodup) (hd : ∀ x ∈ ks, Der l known x) (hlt : ∀ x ∈ ks, Lt x) (ho : ∀ x ∈ ks, x ∈ known ++ l.flatten) (hc : ∀ x ∈ ks, neg x ∉ ks) (hg : ∀ c ∈ l, Good ks c) (hk : ∀ x ∈ known, x ∈ ks) : Row l known ks ∧ ¬ Conf l known := by
  have I : Inv l known (fun _ => False) ks ks.length := ⟨hn, hd, hlt, ho, hc, Nat.le_refl _, fun i c h => .inr (.inl (hg c (List.mem_of_getElem? h)))⟩
  have := I.last hL (by simp) hk
  exact ⟨⟨hn, this.1⟩, this.2⟩
instance (ks c : List Int) : Decidable (Good ks c) := by unfold Good; infer_instance
instance (x : Int) : Decidable (Lt x) := by unfold Lt; infer_instance
theorem neg1 : neg 1 = -1 := by decide +kernel
theorem negm2 : neg (-2) = 2 := by decide +kernel
theorem negm3 : neg (-3) = 3 := by decide +kernel
theorem unit_ex1 : unitOf [[1, 2], [-2, 3]] 3 [-1] = ([-1, 2, 3], true) := by
  have d1 : Der [[1, 2], [-2, 3]] [-1] (-1) := .known (by simp)
  have d2 : Der [[1, 2], [-2, 3]] [-1] 2 := .unit (c := [1, 2]) (by simp) (by simp) (fun y hy hne => by
    simp at hy
    rcases hy with rfl | rfl
    · rw [neg1]; exact d1
    · exact absurd rfl hne)
  have d3 : Der [[1, 2], [-2, 3]] [-1] 3 := .unit (c := [-2, 3]) (by simp) (by simp) (fun y hy hne => by
    simp at hy
    rcases hy with rfl | rfl
    · rw [negm2]; exact d2
    · exact absurd rfl hne)
  obtain ⟨hr, hc⟩ := row_of (l := [[1, 2], [-2, 3]]) (known := [-1]) (ks := [-1, 2, 3]) (by decide +kernel) (by decide +kernel) (by
    intro x hx
    simp at hx
    rcases hx with rfl | rfl | rfl
    · exact d1
    · exact d2
    · exact d3) (by decide +kernel) (by decide +kernel) (by decide +kernel) (by decide +kernel) (by decide +kernel)
  rw [unitOf_row (by decide +kernel) (by decide +kernel) hc hr, normOf_eq (b := [-1, 2, 3]) (by decide +kernel) (by decide +kernel)]
  decide +kernel
theorem unit_ex2 : unitOf [[1, 2], [-2, 3], [-3]] 3 [-1] = ([], false) := by
  have d1 : Der [[1, 2], [-2, 3], [-3]] [-1] (-1) := .known (by simp)
  have d2 : Der [[1, 2], [-2, 3], [-3]] [-1] 2 := .unit (c := [1, 2]) (by simp) (by simp) (fun y hy hne => by
    simp at hy
    rcases hy with rfl | rfl
    · rw [neg1]; exact d1
    · exact absurd rfl hne)
  have d3 : Der [[1, 2], [-2, 3], [-3]] [-1] 3 := .unit (c := [-2, 3]) (by simp) (by simp) (fun y hy hne => by
    simp at hy
    rcases hy with rfl | rfl
    · rw [negm2]; exact d2
    · exact absurd rfl hne)
  refine unitOf_conf (.inr ⟨[-3], by simp, fun y hy => ?_⟩)
  simp at hy
  subst hy
  rw [negm3]; exact d3
end Go.Proofs.Ytdlfmobnmcamaaa.Q
namespace Go.Proofs.Ytdlfmobnmcamaaa.Q
open Go.RowKit Go.Proofs.YtdlfmobnmcamaaaW.PrintWords Go.Proofs.YtdlfmobnmcamaaaW.PrintLast Go.Proofs.YtdlfmobnmcamaaaW.PrintMore
set_option linter.unusedVariables false
theorem lit_C {W : World} {g : Nat} {e : TypeId} {fr : Nat × Nat} (xs : List Int) (hm : xs.length ≤ 9223372036854775807) (h : W.heap[g]? = some (.cells (nums .i64 xs).toArray e fr)) : Kd.C (Kd.int .i64) W (some ⟨g, 0, none⟩) xs.length xs := by
  refine ⟨rfl, hm, fun _ => ⟨_, rfl, fun j p hj => ⟨[.int .i64 p], rfl, rfl, fun i u hu => ?_⟩⟩⟩
  have hi : i = 0 := by
    have := (List.getElem?_eq_some_iff.1 hu).1
    simp at this
    exact this
  subst hi
  simp at hu
  subst hu
  have hjl := (List.getElem?_eq_some_iff.1 hj).1
  have e0 : (⟨g, 0, none⟩ : Addr).add (j * (Kd.int .i64).sz + 0) = ⟨g, j, none⟩ := by
    have : j * (Kd.int .i64).sz + 0 = j := by show j * 1 + 0 = j; omega
    rw [this]
    exact add_plain g j
  rw [e0, cell_of_row W g j _ e fr h]
  simp [nums, hj]
theorem litB_C {W : World} {g : Nat} {e : TypeId} {fr : Nat × Nat} (xs : List Bool) (hm : xs.length ≤ 9223372036854775807) (h : W.heap[g]? = some (.cells (bools xs).toArray e fr)) : Kd.C Kd.bool W (some ⟨g, 0, none⟩) xs.length xs := by
  refine ⟨rfl, hm, fun _ => ⟨_, rfl, fun j p hj => ⟨[.bool p], rfl, rfl, fun i u hu => ?_⟩⟩⟩
  have hi : i = 0 := by
    have := (List.getElem?_eq_some_iff.1 hu).1
    simp at this
    exact this
  subst hi
  simp at hu
  subst hu
  have hjl := (List.getElem?_eq_some_iff.1 hj).1
  have e0 : (⟨g, 0, none⟩ : Addr).add (j * Kd.bool.sz + 0) = ⟨g, j, none⟩ := by
    have : j * Kd.bool.sz + 0 = j := by show j * 1 + 0 = j; omega
    rw [this]
    exact add_plain g j
  rw [e0, cell_of_row W g j _ e fr h]
  simp [bools, hj]
/-- A row of rows, each written out: 'gs' its rows' blocks. -/
theorem lits_C {W : World} {g : Nat} {e e' : TypeId} {fr : Nat × Nat} (xs : List (List Int)) (gs : List Nat) (hm : xs.length ≤ 9223372036854775807) (h : W.heap[g]? = some (.cells ((gs.zip xs).map fun p => Value.slice (some ⟨p.1, 0, none⟩) p.2.length p.2.length).toArray e fr)) (hl : gs.length = xs.length)
    (hr : ∀ (i : Nat) b x, gs[i]? = some b → xs[i]? = some x → Kd.C (Kd.int .i64) W (some ⟨b, 0, none⟩) x.length x) : Kd.C (Kd.slice 3 (Kd.int .i64)) W (some ⟨g, 0, none⟩) xs.length xs := by
  refine ⟨rfl, hm, fun _ => ⟨_, rfl, fun j p hj => ?_⟩⟩
  have hjl := (List.getElem?_eq_some_iff.1 hj).1
  obtain ⟨b, hb⟩ : ∃ b, gs[j]? = some b := ⟨gs[j]'(by omega), List.getElem?_eq_getElem (by omega)⟩
  refine ⟨[.slice (some ⟨b, 0, none⟩) p.length p.length], rfl, ⟨_, _, rfl, Nat.le_refl _, hr j b p hb hj⟩, fun i u hu => ?_⟩
  have hi : i = 0 := by
    have := (List.getElem?_eq_some_iff.1 hu).1
    simp at this
    exact this
  subst hi
  simp at hu
  subst hu
  have e0 : (⟨g, 0, none⟩ : Addr).add (j * (Kd.slice 3 (Kd.int .i64)).sz + 0) = ⟨g, j, none⟩ := by
    have : j * (Kd.slice 3 (Kd.int .i64)).sz + 0 = j := by show j * 1 + 0 = j; omega
    rw [this]
    exact add_plain g j
  rw [e0, cell_of_row W g j _ e fr h]
  simp [List.getElem?_zip_eq_some, hj, hb]
  exact ⟨b, p, ⟨rfl, rfl⟩, rfl, rfl⟩
end Go.Proofs.Ytdlfmobnmcamaaa.Q
namespace Go.Proofs.Ytdlfmobnmcamaaa.Q
open Go.RowKit Go.Proofs.YtdlfmobnmcamaaaW.PrintWords Go.Proofs.YtdlfmobnmcamaaaW.PrintLast Go.Proofs.YtdlfmobnmcamaaaW.PrintMore
set_option linter.unusedVariables false
set_option linter.unusedSimpArgs false
theorem name_world {P : Program} {f : FuncId} {args : Array Value} {W : World} {R : Ending → World → Prop} (h : ∀ W1, W1 = W → Calls P f args W1 R) : Calls P f args W R := h W rfl
theorem at_new {W : World} {o : Obj} {k : Nat} (h : k = W.heap.size) : (W.alloc o).heap[k]? = some o := by rw [h]; exact alloc_new W o
theorem two_rows {W : World} {b1 b2 : Nat} {x1 x2 : List Int} (h1 : Kd.C (Kd.int .i64) W (some ⟨b1, 0, none⟩) x1.length x1) (h2 : Kd.C (Kd.int .i64) W (some ⟨b2, 0, none⟩) x2.length x2) : ∀ (i : Nat) b x, [b1, b2][i]? = some b → [x1, x2][i]? = some x → Kd.C (Kd.int .i64) W (some ⟨b, 0, none⟩) x.length x
  | 0, b, x, hb, hx => by cases hb; cases hx; exact h1
  | 1, b, x, hb, hx => by cases hb; cases hx; exact h2
  | i + 2, b, x, hb, hx => by simp at hb
theorem three_rows {W : World} {b1 b2 b3 : Nat} {x1 x2 x3 : List Int} (h1 : Kd.C (Kd.int .i64) W (some ⟨b1, 0, none⟩) x1.length x1) (h2 : Kd.C (Kd.int .i64) W (some ⟨b2, 0, none⟩) x2.length x2) (h3 : Kd.C (Kd.int .i64) W (some ⟨b3, 0, none⟩) x3.length x3) : ∀ (i : Nat) b x, [b1, b2, b3][i]? = some b → [x1, x2, x3][i]? = some x → Kd.C (Kd.int .i64) W (some ⟨b, 0, none⟩) x.length x
  | 0, b, x, hb, hx => by cases hb; cases hx; exact h1
  | 1, b, x, hb, hx => by cases hb; cases hx; exact h2
  | 2, b, x, hb, hx => by cases hb; cases hx; exact h3
  | i + 3, b, x, hb, hx => by simp at hb
theorem small_ex1 : Small [[1, 2], [-2, 3]] [-1] := by decide +kernel
theorem small_ex2 : Small [[1, 2], [-2, 3], [-3]] [-1] := by decide +kernel
set_option maxHeartbeats 16000000 in
set_option maxRecDepth 100000 in
theorem head18_any (w : World) : Calls Try.prog 26 #[] w fun e w' => e = .returned (.bool true) ∧ Below w.heap.size w w' := by
  go_enter Try.func26, Try.ntmps26
  go_wp2_with fail
  refine name_world fun W1 hW1 => ?_
  have r1 : Kd.C (Kd.int .i64) W1 (some ⟨w.heap.size, 0, none⟩) [1, 2].length [1, 2] := lit_C (e := 3) (fr := (0, 0)) [1, 2] (by decide) (by rw [hW1]; repeat (first | rw [alloc_old _ _ _ (by simp only [alloc_size]; omega)] | exact at_new (by simp only [alloc_size])))
  have r2 : Kd.C (Kd.int .i64) W1 (some ⟨w.heap.size + 1, 0, none⟩) [-2, 3].length [-2, 3] := lit_C (e := 3) (fr := (0, 0)) [-2, 3] (by decide) (by rw [hW1]; repeat (first | rw [alloc_old _ _ _ (by simp only [alloc_size]; omega)] | exact at_new (by simp only [alloc_size])))
  have r3 : Kd.C (Kd.slice 3 (Kd.int .i64)) W1 (some ⟨w.heap.size + 1 + 1, 0, none⟩) [[1, 2], [-2, 3]].length [[1, 2], [-2, 3]] := lits_C (e := 23) (e' := 0) (fr := (0, 0)) [[1, 2], [-2, 3]] [w.heap.size, w.heap.size + 1] (by decide) (by rw [hW1]; repeat (first | rw [alloc_old _ _ _ (by simp only [alloc_size]; omega)] | exact at_new (by simp only [alloc_size]))) rfl (two_rows r1 r2)
  have r4 : Kd.C (Kd.int .i64) W1 (some ⟨w.heap.size + 1 + 1 + 1 + 1 + 1 + 1 + 1, 0, none⟩) [-1].length [-1] := lit_C (e := 3) (fr := (0, 0)) [-1] (by decide) (by rw [hW1]; repeat (first | rw [alloc_old _ _ _ (by simp only [alloc_size]; omega)] | exact at_new (by simp only [alloc_size])))
  have z1 : W1.heap.size = w.heap.size + 1 + 1 + 1 + 1 + 1 + 1 + 1 + 1 := by rw [hW1]; simp only [alloc_size]
  have r5 : Kd.C (Kd.int .i64) W1 (some ⟨w.heap.size + 1 + 1 + 1, 0, none⟩) [1, 2].length [1, 2] := lit_C (e := 3) (fr := (0, 0)) [1, 2] (by decide) (by rw [hW1]; repeat (first | rw [alloc_old _ _ _ (by simp only [alloc_size]; omega)] | exact at_new (by simp only [alloc_size])))
  have r6 : Kd.C (Kd.int .i64) W1 (some ⟨w.heap.size + 1 + 1 + 1 + 1, 0, none⟩) [-2, 3].length [-2, 3] := lit_C (e := 3) (fr := (0, 0)) [-2, 3] (by decide) (by rw [hW1]; repeat (first | rw [alloc_old _ _ _ (by simp only [alloc_size]; omega)] | exact at_new (by simp only [alloc_size])))
  have r7 : Kd.C (Kd.int .i64) W1 (some ⟨w.heap.size + 1 + 1 + 1 + 1 + 1, 0, none⟩) [-3].length [-3] := lit_C (e := 3) (fr := (0, 0)) [-3] (by decide) (by rw [hW1]; repeat (first | rw [alloc_old _ _ _ (by simp only [alloc_size]; omega)] | exact at_new (by simp only [alloc_size])))
  have r8 : Kd.C (Kd.slice 3 (Kd.int .i64)) W1 (some ⟨w.heap.size + 1 + 1 + 1 + 1 + 1 + 1, 0, none⟩) [[1, 2], [-2, 3], [-3]].length [[1, 2], [-2, 3], [-3]] := lits_C (e := 23) (e' := 0) (fr := (0, 0)) [[1, 2], [-2, 3], [-3]] [w.heap.size + 1 + 1 + 1, w.heap.size + 1 + 1 + 1 + 1, w.heap.size + 1 + 1 + 1 + 1 + 1] (by decide) (by rw [hW1]; repeat (first | rw [alloc_old _ _ _ (by simp only [alloc_size]; omega)] | exact at_new (by simp only [alloc_size]))) rfl (three_rows r5 r6 r7)
  have b1 : Below w.heap.size w W1 := by rw [hW1]; repeat (first | exact Below.refl _ _ | apply below_alloc)
  have K1 := unit_any (w := W1) _ 2 [[1, 2], [-2, 3]] 3 _ 1 [-1] r3 (by decide) r4 (by decide) small_ex1
  rw [unit_ex1] at K1
  have HL := Aside0.mk r3
  have HM := Aside0.mk r8
  have HB1 := Aside0.mk b1
  clear r1 r2 r3 r4 r5 r6 r7 r8 b1 hW1 z1
  refine K1.mono ?_
  rintro e W2 ⟨va, rfl, ho, hb⟩
  obtain ⟨A1, c1, rfl⟩ := own_slice ho
  have HVA := Aside0.mk ho
  have HB2 := Aside0.mk hb
  clear ho hb K1
  go_wp2_with fail
  have HA2 := Aside0.mk (below_alloc HB2.out (.cells #[.int .i64 (-1)] 3))
  have K2 := unit_any (w := W2.alloc (.cells #[.int .i64 (-1)] 3)) _ 3 [[1, 2], [-2, 3], [-3]] 3 (some ⟨W2.heap.size, 0, none⟩) 1 [-1] (Kd.C_below HM.out HA2.out) (by decide) (lit_C (e := 3) (fr := (0, 0)) [-1] (by decide) (alloc_new _ _)) (by decide) small_ex2
  rw [unit_ex2] at K2
  refine K2.mono ?_
  rintro e W3 ⟨vn, rfl, _, hb⟩
  have HB3 := Aside0.mk (below_then HA2.out HA2.out.size hb)
  have HVA3 := Aside0.mk (pw_own_below (own_alloc HVA.out (.cells #[.int .i64 (-1)] 3)) hb)
  clear hb K2 HB2 HA2 HVA HM
  go_wp2_with fail
  have HA3 := Aside0.mk (below_alloc HB3.out (.cells #[.int .i64 3, .int .i64 (-1), .int .i64 3] 3))
  have K3 := norm_any (some ⟨W3.heap.size, 0, none⟩) 3 [3, -1, 3] (W3.alloc (.cells #[.int .i64 3, .int .i64 (-1), .int .i64 3] 3)) (lit_C (e := 3) (fr := (0, 0)) [3, -1, 3] (by decide) (alloc_new _ _)) (by decide)
  rw [norm_ex1] at K3
  refine K3.mono ?_
  rintro e W4 ⟨vb, rfl, hob, hb⟩
  obtain ⟨A2, c2, rfl⟩ := own_slice hob
  have HB4 := Aside0.mk (below_then HA3.out HA3.out.size hb)
  have HVA4 := Aside0.mk (pw_own_below (own_alloc HVA3.out (.cells #[.int .i64 3, .int .i64 (-1), .int .i64 3] 3)) hb)
  have HVB4 := Aside0.mk hob
  clear hb hob K3 HB3 HA3 HVA3
  go_wp2_with fail
  have HA4 := Aside0.mk (below_alloc HB4.out (.cells #[.int .i64 1, .int .i64 (-1)] 3))
  have K4 := norm_any (some ⟨W4.heap.size, 0, none⟩) 2 [1, -1] (W4.alloc (.cells #[.int .i64 1, .int .i64 (-1)] 3)) (lit_C (e := 3) (fr := (0, 0)) [1, -1] (by decide) (alloc_new _ _)) (by decide)
  rw [norm_ex2] at K4
  refine K4.mono ?_
  rintro e W5 ⟨vn2, rfl, _, hb⟩
  have HB5 := Aside0.mk (below_then HA4.out HA4.out.size hb)
  have HVA5 := Aside0.mk (pw_own_below (own_alloc HVA4.out (.cells #[.int .i64 1, .int .i64 (-1)] 3)) hb)
  have HVB5 := Aside0.mk (pw_own_below (own_alloc HVB4.out (.cells #[.int .i64 1, .int .i64 (-1)] 3)) hb)
  clear hb K4 HB4 HA4 HVA4 HVB4
  go_wp2_with fail
  have HA5 := Aside0.mk (below_alloc (below_alloc HB5.out (.cells #[.int .i64 1, .int .i64 2] 3)) (.cells #[.int .i64 (-2), .int .i64 3] 3))
  have K5 := res_any (some ⟨W5.heap.size, 0, none⟩) 2 [1, 2] (some ⟨W5.heap.size + 1, 0, none⟩) 2 [-2, 3] 2 ((W5.alloc (.cells #[.int .i64 1, .int .i64 2] 3)).alloc (.cells #[.int .i64 (-2), .int .i64 3] 3)) (lit_C (e := 3) (fr := (0, 0)) [1, 2] (by decide) (by rw [alloc_old _ _ _ (by simp only [alloc_size]; omega)]; exact alloc_new _ _)) (by decide) (lit_C (e := 3) (fr := (0, 0)) [-2, 3] (by decide) (at_new (by simp only [alloc_size]))) (by decide) (by decide)
  rw [res_ex] at K5
  refine K5.mono ?_
  rintro e W6 ⟨vc, rfl, hoc, hb⟩
  obtain ⟨A3, c3, rfl⟩ := own_slice hoc
  have HB6 := Aside0.mk (below_then HA5.out HA5.out.size hb)
  have HVA6 := Aside0.mk (pw_own_below (own_alloc (own_alloc HVA5.out _) _) hb)
  have HVB6 := Aside0.mk (pw_own_below (own_alloc (own_alloc HVB5.out _) _) hb)
  have HVC6 := Aside0.mk hoc
  clear hb hoc K5 HB5 HA5 HVA5 HVB5
  go_wp2_with fail
  have CA := Aside0.mk (Kd.C_of_reads (h1 := fun _ => rfl) (d := (0 : Int)) (own_reads_of' (enc := Value.int .i64) (d := (0 : Int)) HVA6.out))
  have CB := Aside0.mk (Kd.C_of_reads (h1 := fun _ => rfl) (d := (0 : Int)) (own_reads_of' (enc := Value.int .i64) (d := (0 : Int)) HVB6.out))
  have CC := Aside0.mk (Kd.C_of_reads (h1 := fun _ => rfl) (d := (0 : Int)) (own_reads_of' (enc := Value.int .i64) (d := (0 : Int)) HVC6.out))
  have CL := Aside0.mk (Kd.C_below HL.out HB6.out)
  have PA := Aside0.mk (own_cap HVA6.out)
  have PB := Aside0.mk (own_cap HVB6.out)
  have PC := Aside0.mk (own_cap HVC6.out)
  have HB7 := Aside0.mk (below_then HB1.out HB1.out.size HB6.out)
  clear HVA6 HVB6 HVC6 HL HB6 HB1
  have D1 := Aside0.mk (below_alloc (Below.refl W6.heap.size W6) (.cells #[.int .i64 (-1), .int .i64 2, .int .i64 3] 3))
  refine (proofmarkref18_Same.calls 10 A1 c1 [-1, 2, 3] (some ⟨W6.heap.size, 0, none⟩) 3 [-1, 2, 3] true (W6.alloc (.cells #[.int .i64 (-1), .int .i64 2, .int .i64 3] 3)) (Kd.C_below CA.out D1.out) PA.out (lit_C (e := 3) (fr := (0, 0)) [-1, 2, 3] (by decide) (alloc_new _ _)) (by decide) (by decide +kernel)).mono ?_
  rintro e w' ⟨rfl, ⟨⟨n1, rfl⟩⟩⟩
  go_wp2_with fail
  refine (proofmarkref18_Same.calls 10 A2 c2 [-1, 3] (some ⟨W6.heap.size + 1, 0, none⟩) 2 [-1, 3] true _ (Kd.C_below CB.out (by repeat (first | exact Below.refl _ _ | apply below_alloc | apply pw_below_drewN))) PB.out (lit_C (e := 3) (fr := (0, 0)) [-1, 3] (by decide) (at_new (by simp))) (by decide) (by decide +kernel)).mono ?_
  rintro e w' ⟨rfl, ⟨⟨n2, rfl⟩⟩⟩
  go_wp2_with fail
  refine (proofmarkref18_Same.calls 10 A3 c3 [1, 3] (some ⟨W6.heap.size + 1 + 1, 0, none⟩) 2 [1, 3] true _ (Kd.C_below CC.out (by repeat (first | exact Below.refl _ _ | apply below_alloc | apply pw_below_drewN))) PC.out (lit_C (e := 3) (fr := (0, 0)) [1, 3] (by decide) (at_new (by simp))) (by decide) (by decide +kernel)).mono ?_
  rintro e w' ⟨rfl, ⟨⟨n3, rfl⟩⟩⟩
  go_wp2_with fail
  have e3 : rightOf [[1, 2], [-2, 3]] 3 = true := by decide +kernel
  have e2 : rightOf [[1, 2], [-2, 3]] 2 = false := by decide +kernel
  refine name_world fun W7 hW7 => ?_
  have HB8 : Aside0 (Below W6.heap.size W6 W7) := ⟨by rw [hW7]; repeat (first | exact Below.refl _ _ | apply below_alloc | apply pw_below_drewN)⟩
  clear hW7
  have K6 := right_calls _ 2 [[1, 2], [-2, 3]] 3 W7 (Kd.C_below CL.out HB8.out) (by decide) (by decide)
  rw [e3] at K6
  refine K6.mono ?_
  rintro e W8 ⟨rfl, hb⟩
  have HB9 := Aside0.mk (below_then HB8.out HB8.out.size hb)
  clear hb K6
  go_wp2_with fail
  have K7 := right_calls _ 2 [[1, 2], [-2, 3]] 2 W8 (Kd.C_below CL.out HB9.out) (by decide) (by decide)
  rw [e2] at K7
  refine K7.mono ?_
  rintro e W9 ⟨rfl, hb⟩
  have HB10 := Aside0.mk (below_then HB9.out HB9.out.size hb)
  clear hb K7
  go_wp2_with fail
  have m1 : ([[1, 2], [-2, 3]].all fun c => c.any (litTrue [true, false, false])) = true := by decide +kernel
  have m2 : ([[1, 2], [-2, 3]].all fun c => c.any (litTrue [false, true, false])) = false := by decide +kernel
  have HA10 := Aside0.mk (below_alloc HB10.out (.cells #[.bool true, .bool false, .bool false] 4))
  have K8 := met_any _ 2 [[1, 2], [-2, 3]] (some ⟨W9.heap.size, 0, none⟩) 3 [true, false, false] (W9.alloc (.cells #[.bool true, .bool false, .bool false] 4)) (Kd.C_below CL.out HA10.out) (by decide) (litB_C (e := 4) (fr := (0, 0)) [true, false, false] (by decide) (alloc_new _ _))
  rw [m1] at K8
  refine K8.mono ?_
  rintro e W10 ⟨rfl, hb⟩
  have HB11 := Aside0.mk (below_then HA10.out HA10.out.size hb)
  clear hb K8
  go_wp2_with fail
  have HA11 := Aside0.mk (below_alloc HB11.out (.cells #[.bool false, .bool true, .bool false] 4))
  have K9 := met_any _ 2 [[1, 2], [-2, 3]] (some ⟨W10.heap.size, 0, none⟩) 3 [false, true, false] (W10.alloc (.cells #[.bool false, .bool true, .bool false] 4)) (Kd.C_below CL.out HA11.out) (by decide) (litB_C (e := 4) (fr := (0, 0)) [false, true, false] (by decide) (alloc_new _ _))
  rw [m2] at K9
  refine K9.mono ?_
  rintro e W11 ⟨rfl, hb⟩
  have HB12 := Aside0.mk (below_then HB7.out HB7.out.size (below_then HA11.out HA11.out.size hb))
  clear hb K9
  go_wp2_with fail
  go_ret
  exact ⟨rfl, HB12.out⟩
end Go.Proofs.Ytdlfmobnmcamaaa.Q
