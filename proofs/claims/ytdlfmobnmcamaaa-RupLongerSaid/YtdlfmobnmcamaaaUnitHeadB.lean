/- The head of layer 20's laws: the document's examples. Written for this claim. -/
import Derived.Test.YtdlfmobnmcamaaaUnitHead
import Derived.Test.YtdlfmobnmcamaaaUnitB
import Derived.Test.YtdlfmobnmcamaaaUnitCheck
namespace Go.Proofs.Ytdlfmobnmcamaaa.Q
open Go.RowKit Go.Proofs.YtdlfmobnmcamaaaW.PrintWords Go.Proofs.YtdlfmobnmcamaaaW.PrintLast Go.Proofs.YtdlfmobnmcamaaaW.PrintMore
set_option linter.unusedVariables false
set_option linter.unusedSimpArgs false
def lx : List (List Int) := [[1, 2], [-1, 2]]
def mx4 : List (List Int) := [[1, 2], [-1, 2], [1, -2], [-1, -2]]
theorem ref_yes {l : List (List Int)} {v : Int} {k : List Int} (h1 : rightOf l v = true) (h2 : rightOf [k] v = true) (h : Conf l k) : refOf l v k = true := by
  unfold refOf
  rw [h1, h2, unitOf_conf h]
  rfl
theorem ref_no {l : List (List Int)} {v : Int} {k : List Int} (h1 : rightOf l v = true) (h2 : rightOf [k] v = true) (hL : Lits l) (hK : ∀ y ∈ k, Lt y) (h : ¬ Conf l k) : refOf l v k = false := by
  unfold refOf
  rw [h1, h2, (unit_true h1 h2 hL hK).2 h]
  rfl
theorem one_unit {l : List (List Int)} {k c : List Int} {x : Int} (hc : c ∈ l) (hx : x ∈ c) (h : ∀ y ∈ c, y ≠ x → neg y ∈ k) : Der l k x := .unit hc hx fun y hy hne => .known (h y hy hne)
theorem neg2 : neg 2 = -2 := by decide +kernel
theorem negm1 : neg (-1) = 1 := by decide +kernel
theorem step_ex1 : stepOf lx 2 [2] = true := by
  refine ref_yes (by decide +kernel) (by decide +kernel) (.inr ⟨[-1, 2], by decide +kernel, ?_⟩)
  have d1 : Der lx (opp [2]) 1 := one_unit (c := [1, 2]) (by decide +kernel) (by decide +kernel) (by decide +kernel)
  intro y hy
  simp at hy
  rcases hy with rfl | rfl
  · rw [negm1]; exact d1
  · exact .known (by decide +kernel)
theorem step_ex2 : stepOf lx 2 [1] = false := by
  refine ref_no (by decide +kernel) (by decide +kernel) (by unfold Lits; decide +kernel) (by decide +kernel) ?_
  refine (row_of (ks := [-1, 2]) (by decide +kernel) (by decide +kernel) (fun x hx => ?_) (by decide +kernel) (by decide +kernel) (by decide +kernel) (by decide +kernel) (by decide +kernel)).2
  simp at hx
  rcases hx with rfl | rfl
  · exact .known (by decide +kernel)
  · exact one_unit (c := [1, 2]) (by decide +kernel) (by decide +kernel) (by decide +kernel)
theorem check_ex1 : checkOf mx4 2 [[2]] [] = true := by
  have h1 : stepOf mx4 2 [2] = true := by
    refine ref_yes (by decide +kernel) (by decide +kernel) (.inr ⟨[-1, 2], by decide +kernel, ?_⟩)
    have d1 : Der mx4 (opp [2]) 1 := one_unit (c := [1, 2]) (by decide +kernel) (by decide +kernel) (by decide +kernel)
    intro y hy
    simp at hy
    rcases hy with rfl | rfl
    · rw [negm1]; exact d1
    · exact .known (by decide +kernel)
  have h2 : refOf (mx4 ++ [[2]]) 2 [] = true := by
    refine ref_yes (by decide +kernel) (by decide +kernel) (.inr ⟨[-1, -2], by decide +kernel, ?_⟩)
    have d2 : Der (mx4 ++ [[2]]) [] 2 := one_unit (c := [2]) (by decide +kernel) (by decide +kernel) (by decide +kernel)
    have d1 : Der (mx4 ++ [[2]]) [] 1 := .unit (c := [1, -2]) (by decide +kernel) (by decide +kernel) (fun y hy hne => by
      simp at hy
      rcases hy with rfl | rfl
      · exact absurd rfl hne
      · rw [negm2]; exact d2)
    intro y hy
    simp at hy
    rcases hy with rfl | rfl
    · rw [negm1]; exact d1
    · rw [negm2]; exact d2
  rw [checkOf, checkOf, h1, h2]; rfl
theorem check_ex2 : checkOf mx4 2 [] [] = false := by
  rw [checkOf]
  refine ref_no (by decide +kernel) (by decide +kernel) (by unfold Lits; decide +kernel) (by decide +kernel) ?_
  exact (row_of (ks := []) (by decide +kernel) (by decide +kernel) (by simp) (by decide +kernel) (by decide +kernel) (by decide +kernel) (by decide +kernel) (by decide +kernel)).2
theorem check_ex3 : checkOf mx4 2 [] [1] = true := by
  rw [checkOf]
  refine ref_yes (by decide +kernel) (by decide +kernel) (.inr ⟨[-1, -2], by decide +kernel, ?_⟩)
  have d2 : Der mx4 [1] 2 := one_unit (c := [-1, 2]) (by decide +kernel) (by decide +kernel) (by decide +kernel)
  intro y hy
  simp at hy
  rcases hy with rfl | rfl
  · rw [negm1]; exact .known (by simp)
  · rw [negm2]; exact d2
theorem check_ex4 : checkOf lx 2 [[2]] [] = false := by
  have h2 : refOf (lx ++ [[2]]) 2 [] = false := by
    refine ref_no (by decide +kernel) (by decide +kernel) (by unfold Lits; decide +kernel) (by decide +kernel) ?_
    refine (row_of (ks := [2]) (by decide +kernel) (by decide +kernel) (fun x hx => ?_) (by decide +kernel) (by decide +kernel) (by decide +kernel) (by decide +kernel) (by decide +kernel)).2
    simp at hx
    subst hx
    exact one_unit (c := [2]) (by decide +kernel) (by decide +kernel) (by decide +kernel)
  rw [checkOf, checkOf, h2, Bool.and_false]
theorem check_ex5 : checkOf lx 1 [] [] = false := by
  rw [checkOf, refOf, show rightOf lx 1 = false by decide +kernel]; rfl
theorem four_rows {W : World} {b1 b2 b3 b4 : Nat} {x1 x2 x3 x4 : List Int} (h1 : Kd.C (Kd.int .i64) W (some ⟨b1, 0, none⟩) x1.length x1) (h2 : Kd.C (Kd.int .i64) W (some ⟨b2, 0, none⟩) x2.length x2) (h3 : Kd.C (Kd.int .i64) W (some ⟨b3, 0, none⟩) x3.length x3) (h4 : Kd.C (Kd.int .i64) W (some ⟨b4, 0, none⟩) x4.length x4) : ∀ (i : Nat) b x, [b1, b2, b3, b4][i]? = some b → [x1, x2, x3, x4][i]? = some x → Kd.C (Kd.int .i64) W (some ⟨b, 0, none⟩) x.length x
  | 0, b, x, hb, hx => by cases hb; cases hx; exact h1
  | 1, b, x, hb, hx => by cases hb; cases hx; exact h2
  | 2, b, x, hb, hx => by cases hb; cases hx; exact h3
  | 3, b, x, hb, hx => by cases hb; cases hx; exact h4
  | i + 4, b, x, hb, hx => by simp at hb
theorem one_rows {W : World} {b1 : Nat} {x1 : List Int} (h1 : Kd.C (Kd.int .i64) W (some ⟨b1, 0, none⟩) x1.length x1) : ∀ (i : Nat) b x, [b1][i]? = some b → [x1][i]? = some x → Kd.C (Kd.int .i64) W (some ⟨b, 0, none⟩) x.length x
  | 0, b, x, hb, hx => by cases hb; cases hx; exact h1
  | i + 1, b, x, hb, hx => by simp at hb
theorem nil_C {α : Type} (d : Kd α) (W : World) : Kd.C d W none ([] : List α).length [] := Kd.C_nil d W
set_option maxHeartbeats 16000000 in
set_option maxRecDepth 100000 in
theorem head20_any (w : World) : Calls Try.prog 17 #[] w fun e w' => e = .returned (.bool true) ∧ Below w.heap.size w w' := by
  go_enter Try.func17, Try.ntmps17
  go_wp2_with fail
  refine name_world fun W1 hW1 => ?_
  have r1 : Kd.C (Kd.int .i64) W1 (some ⟨w.heap.size, 0, none⟩) [1, 2].length [1, 2] := lit_C (e := 3) (fr := (0, 0)) [1, 2] (by decide) (by rw [hW1]; repeat (first | rw [alloc_old _ _ _ (by simp only [alloc_size]; omega)] | exact at_new (by simp only [alloc_size])))
  have r2 : Kd.C (Kd.int .i64) W1 (some ⟨w.heap.size + 1, 0, none⟩) [-1, 2].length [-1, 2] := lit_C (e := 3) (fr := (0, 0)) [-1, 2] (by decide) (by rw [hW1]; repeat (first | rw [alloc_old _ _ _ (by simp only [alloc_size]; omega)] | exact at_new (by simp only [alloc_size])))
  have r3 : Kd.C (Kd.slice 3 (Kd.int .i64)) W1 (some ⟨w.heap.size + 1 + 1, 0, none⟩) lx.length lx := lits_C (e := 23) (e' := 0) (fr := (0, 0)) [[1, 2], [-1, 2]] [w.heap.size, w.heap.size + 1] (by decide) (by rw [hW1]; repeat (first | rw [alloc_old _ _ _ (by simp only [alloc_size]; omega)] | exact at_new (by simp only [alloc_size]))) rfl (two_rows r1 r2)
  have r4 : Kd.C (Kd.int .i64) W1 (some ⟨w.heap.size + 1 + 1 + 1, 0, none⟩) [1, 2].length [1, 2] := lit_C (e := 3) (fr := (0, 0)) [1, 2] (by decide) (by rw [hW1]; repeat (first | rw [alloc_old _ _ _ (by simp only [alloc_size]; omega)] | exact at_new (by simp only [alloc_size])))
  have r5 : Kd.C (Kd.int .i64) W1 (some ⟨w.heap.size + 1 + 1 + 1 + 1, 0, none⟩) [-1, 2].length [-1, 2] := lit_C (e := 3) (fr := (0, 0)) [-1, 2] (by decide) (by rw [hW1]; repeat (first | rw [alloc_old _ _ _ (by simp only [alloc_size]; omega)] | exact at_new (by simp only [alloc_size])))
  have r6 : Kd.C (Kd.int .i64) W1 (some ⟨w.heap.size + 1 + 1 + 1 + 1 + 1, 0, none⟩) [1, -2].length [1, -2] := lit_C (e := 3) (fr := (0, 0)) [1, -2] (by decide) (by rw [hW1]; repeat (first | rw [alloc_old _ _ _ (by simp only [alloc_size]; omega)] | exact at_new (by simp only [alloc_size])))
  have r7 : Kd.C (Kd.int .i64) W1 (some ⟨w.heap.size + 1 + 1 + 1 + 1 + 1 + 1, 0, none⟩) [-1, -2].length [-1, -2] := lit_C (e := 3) (fr := (0, 0)) [-1, -2] (by decide) (by rw [hW1]; repeat (first | rw [alloc_old _ _ _ (by simp only [alloc_size]; omega)] | exact at_new (by simp only [alloc_size])))
  have r8 : Kd.C (Kd.slice 3 (Kd.int .i64)) W1 (some ⟨w.heap.size + 1 + 1 + 1 + 1 + 1 + 1 + 1, 0, none⟩) mx4.length mx4 := lits_C (e := 23) (e' := 0) (fr := (0, 0)) [[1, 2], [-1, 2], [1, -2], [-1, -2]] [w.heap.size + 1 + 1 + 1, w.heap.size + 1 + 1 + 1 + 1, w.heap.size + 1 + 1 + 1 + 1 + 1, w.heap.size + 1 + 1 + 1 + 1 + 1 + 1] (by decide) (by rw [hW1]; repeat (first | rw [alloc_old _ _ _ (by simp only [alloc_size]; omega)] | exact at_new (by simp only [alloc_size]))) rfl (four_rows r4 r5 r6 r7)
  have r9 : Kd.C (Kd.int .i64) W1 (some ⟨w.heap.size + 1 + 1 + 1 + 1 + 1 + 1 + 1 + 1, 0, none⟩) [2].length [2] := lit_C (e := 3) (fr := (0, 0)) [2] (by decide) (by rw [hW1]; repeat (first | rw [alloc_old _ _ _ (by simp only [alloc_size]; omega)] | exact at_new (by simp only [alloc_size])))
  have b1 : Below w.heap.size w W1 := by rw [hW1]; repeat (first | exact Below.refl _ _ | apply below_alloc)
  have K1 := step_any _ 2 lx 2 _ 1 [2] W1 r3 (by decide) r9 (by decide) (by decide +kernel)
  rw [step_ex1] at K1
  have HL := Aside0.mk r3
  have HM := Aside0.mk r8
  have HB1 := Aside0.mk b1
  clear r1 r2 r3 r4 r5 r6 r7 r8 r9 b1 hW1
  refine K1.mono ?_
  rintro e W2 ⟨rfl, hb⟩
  have HB2 := Aside0.mk hb
  clear hb K1
  go_wp2_with fail
  have HA2 := Aside0.mk (below_alloc HB2.out (.cells #[.int .i64 1] 3))
  have K2 := step_any _ 2 lx 2 (some ⟨W2.heap.size, 0, none⟩) 1 [1] (W2.alloc (.cells #[.int .i64 1] 3)) (Kd.C_below HL.out HA2.out) (by decide) (lit_C (e := 3) (fr := (0, 0)) [1] (by decide) (alloc_new _ _)) (by decide) (by decide +kernel)
  rw [step_ex2] at K2
  refine K2.mono ?_
  rintro e W3 ⟨rfl, hb⟩
  have HB3 := Aside0.mk (below_then HA2.out HA2.out.size hb)
  clear hb K2 HB2 HA2
  go_wp2_with fail
  refine name_world fun W4 hW4 => ?_
  have q1 : Kd.C (Kd.int .i64) W4 (some ⟨W3.heap.size, 0, none⟩) [2].length [2] := lit_C (e := 3) (fr := (0, 0)) [2] (by decide) (by rw [hW4]; repeat (first | rw [alloc_old _ _ _ (by simp only [alloc_size]; omega)] | exact at_new (by simp only [alloc_size])))
  have q2 : Kd.C (Kd.slice 3 (Kd.int .i64)) W4 (some ⟨W3.heap.size + 1, 0, none⟩) [[2]].length [[2]] := lits_C (e := 23) (e' := 0) (fr := (0, 0)) [[2]] [W3.heap.size] (by decide) (by rw [hW4]; repeat (first | rw [alloc_old _ _ _ (by simp only [alloc_size]; omega)] | exact at_new (by simp only [alloc_size]))) rfl (one_rows q1)
  have b4 : Below W1.heap.size W1 W4 := by rw [hW4]; exact below_alloc (below_alloc HB3.out _) _
  have K3 := check_any _ 4 mx4 2 _ 1 [[2]] none 0 [] W4 (Kd.C_below HM.out b4) (by decide) q2 (by decide) (nil_C _ _) (by decide) (by decide +kernel)
  rw [check_ex1] at K3
  have HB4 := Aside0.mk b4
  clear q1 q2 b4 hW4 HB3
  refine K3.mono ?_
  rintro e W5 ⟨rfl, hb⟩
  have HB5 := Aside0.mk (below_then HB4.out HB4.out.size hb)
  clear hb K3 HB4
  go_wp2_with fail
  have K4 := check_any _ 4 mx4 2 none 0 [] none 0 [] W5 (Kd.C_below HM.out HB5.out) (by decide) (nil_C _ _) (by decide) (nil_C _ _) (by decide) (by decide +kernel)
  rw [check_ex2] at K4
  refine K4.mono ?_
  rintro e W6 ⟨rfl, hb⟩
  have HB6 := Aside0.mk (below_then HB5.out HB5.out.size hb)
  clear hb K4 HB5
  go_wp2_with fail
  have HA6 := Aside0.mk (below_alloc HB6.out (.cells #[.int .i64 1] 3))
  have K5 := check_any _ 4 mx4 2 none 0 [] (some ⟨W6.heap.size, 0, none⟩) 1 [1] (W6.alloc (.cells #[.int .i64 1] 3)) (Kd.C_below HM.out HA6.out) (by decide) (nil_C _ _) (by decide) (lit_C (e := 3) (fr := (0, 0)) [1] (by decide) (alloc_new _ _)) (by decide) (by decide +kernel)
  rw [check_ex3] at K5
  refine K5.mono ?_
  rintro e W7 ⟨rfl, hb⟩
  have HB7 := Aside0.mk (below_then HA6.out HA6.out.size hb)
  clear hb K5 HB6 HA6
  go_wp2_with fail
  refine name_world fun W8 hW8 => ?_
  have q1 : Kd.C (Kd.int .i64) W8 (some ⟨W7.heap.size, 0, none⟩) [2].length [2] := lit_C (e := 3) (fr := (0, 0)) [2] (by decide) (by rw [hW8]; repeat (first | rw [alloc_old _ _ _ (by simp only [alloc_size]; omega)] | exact at_new (by simp only [alloc_size])))
  have q2 : Kd.C (Kd.slice 3 (Kd.int .i64)) W8 (some ⟨W7.heap.size + 1, 0, none⟩) [[2]].length [[2]] := lits_C (e := 23) (e' := 0) (fr := (0, 0)) [[2]] [W7.heap.size] (by decide) (by rw [hW8]; repeat (first | rw [alloc_old _ _ _ (by simp only [alloc_size]; omega)] | exact at_new (by simp only [alloc_size]))) rfl (one_rows q1)
  have b8 : Below W1.heap.size W1 W8 := by rw [hW8]; exact below_alloc (below_alloc HB7.out _) _
  have K6 := check_any _ 2 lx 2 _ 1 [[2]] none 0 [] W8 (Kd.C_below HL.out b8) (by decide) q2 (by decide) (nil_C _ _) (by decide) (by decide +kernel)
  rw [check_ex4] at K6
  have HB8 := Aside0.mk b8
  clear q1 q2 b8 hW8 HB7
  refine K6.mono ?_
  rintro e W9 ⟨rfl, hb⟩
  have HB9 := Aside0.mk (below_then HB8.out HB8.out.size hb)
  clear hb K6 HB8
  go_wp2_with fail
  have K7 := check_any _ 2 lx 1 none 0 [] none 0 [] W9 (Kd.C_below HL.out HB9.out) (by decide) (nil_C _ _) (by decide) (nil_C _ _) (by decide) (by decide +kernel)
  rw [check_ex5] at K7
  refine K7.mono ?_
  rintro e W10 ⟨rfl, hb⟩
  have HB10 := Aside0.mk (below_then HB1.out HB1.out.size (below_then HB9.out HB9.out.size hb))
  clear hb K7 HB9
  go_wp2_with fail
  go_ret
  exact ⟨rfl, HB10.out⟩
end Go.Proofs.Ytdlfmobnmcamaaa.Q
