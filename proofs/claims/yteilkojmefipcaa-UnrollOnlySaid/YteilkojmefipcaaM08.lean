/- Unroll: walks and plain laws of this seat's functions, merged out of smaller texts of this session (Ut). -/
import Derived.Test.YteilkojmefipcaaM04
namespace Go.Proofs.Yteilkojmefipcaa.U
open Go.RowKit Go.Proofs.YteilkojmefipcaaW.PrintWords Go.Proofs.YteilkojmefipcaaW.PrintLast
set_option linter.unusedVariables false
set_option linter.unusedSimpArgs false
theorem wdi_bnd (ns : List S77) (i : Nat) (hi : i ≤ ns.length) (hW : ∀ (j : Nat) (h : j < ns.length), j < i → 1 ≤ ns[j].f1 ∧ ns[j].f1 ≤ 16) (a : Int) : 0 ≤ wdi ns a i ∧ wdi ns a i ≤ 16 := by
  unfold wdi
  split
  · next h =>
    have h1 : a.toNat < ns.length := by omega
    have := hW a.toNat h1 (by omega)
    rw [List.getD_eq_getElem?_getD, List.getElem?_eq_getElem h1]
    exact ⟨by show 0 ≤ ns[a.toNat].f1; omega, this.2⟩
  · omega
theorem below_drewN' {B : Nat} {w W : World} (h : Below B w W) (n : Nat) : Below B w (W.drewN n) := ⟨h.os, h.tape, h.output, h.size, h.block⟩
/-- What fits told. -/
structure FitsOk (o m fn fl na nb nc : Int) : Prop where
  o3 : o = 3 → na = m
  o45 : o = 4 ∨ o = 5 → m = 1 ∧ 0 < na
  o6 : 6 ≤ o → o ≤ 11 → na = m ∧ nb = m
  o12 : 12 ≤ o → o ≤ 15 → m = 1 ∧ na = nb ∧ 0 < na
  o16 : o = 16 → na = 1 ∧ nb = m ∧ nc = m
  o17 : o = 17 → 0 < na ∧ 0 < nb ∧ na + nb = m
  o18 : o = 18 → 0 ≤ fl ∧ fl ≤ fn ∧ fn < na ∧ m = fn - fl + 1
theorem mask_is (m : Int) (h0 : 0 ≤ m) (h1 : m ≤ 16) : ∃ M : Int, ∀ w, Calls Try.prog 72 #[.int .i64 m] w (fun e w' => e = .returned (.int .i64 M) ∧ w' = w) := by
  refine ⟨2 ^ m.toNat - 1, fun w => ?_⟩
  obtain ⟨k, rfl⟩ := Int.eq_ofNat_of_zero_le h0
  have hk : k ≤ 16 := by omega
  clear h0 h1
  rcases (by omega : k = 0 ∨ k = 1 ∨ k = 2 ∨ k = 3 ∨ k = 4 ∨ k = 5 ∨ k = 6 ∨ k = 7 ∨ k = 8 ∨ k = 9 ∨ k = 10 ∨ k = 11 ∨ k = 12 ∨ k = 13 ∨ k = 14 ∨ k = 15 ∨ k = 16) with rfl | rfl | rfl | rfl | rfl | rfl | rfl | rfl | rfl | rfl | rfl | rfl | rfl | rfl | rfl | rfl | rfl
  all_goals go_enter Try.func72, Try.ntmps72
  all_goals go_wp2
  all_goals go_ret
  all_goals exact ⟨rfl, rfl⟩
set_option maxHeartbeats 64000000 in
set_option maxRecDepth 100000 in
theorem fits_any (n : S27) (cs : List Value) (i : Nat) (w : World) (h : k27.K w n cs) (hi : i < n.f0.length) (hW : ∀ (j : Nat) (h : j < n.f0.length), j < i → 1 ≤ n.f0[j].f1 ∧ n.f0[j].f1 ≤ 16) (h1 : 1 ≤ n.f0[i].f1) (h16 : n.f0[i].f1 ≤ 16) :
    Calls Try.prog 91 #[.agg cs.toArray, .int .i64 (i : Int)] w (RetB (fun b => b = true → FitsOk n.f0[i].f0 n.f0[i].f1 n.f0[i].f5 n.f0[i].f6 (wdi n.f0 n.f0[i].f2 i) (wdi n.f0 n.f0[i].f3 i) (wdi n.f0 n.f0[i].f4 i)) w) := by
  have hB := fun a => wdi_bnd n.f0 i (by omega) hW a
  have HK := am h
  obtain ⟨A0, c0, A1, c1, A2, c2, A3, c3, A4, c4, rfl, hl0, hC0, hrest⟩ := k27_open h
  obtain ⟨⟨o, m, fa, fb, fc, fn, fl⟩, hx⟩ : ∃ x, n.f0[i] = x := ⟨_, rfl⟩
  obtain ⟨ad, cx, rfl, hKx, hcx⟩ := el_get hC0 i hi
  rw [hx] at hKx h1 h16 ⊢
  obtain rfl := k77_open hKx
  have HCX := am hcx
  have q1 : (i : Int) < (n.f0.length : Int) := by omega
  have q0 : (0 : Int) ≤ (i : Int) := by omega
  dsimp only at h1 h16 ⊢
  obtain ⟨na, ea⟩ : ∃ z, wdi n.f0 fa i = z := ⟨_, rfl⟩
  obtain ⟨nb, eb⟩ : ∃ z, wdi n.f0 fb i = z := ⟨_, rfl⟩
  obtain ⟨nc, ec⟩ : ∃ z, wdi n.f0 fc i = z := ⟨_, rfl⟩
  have ba : 0 ≤ na ∧ na ≤ 16 := ea ▸ hB fa
  have bb : 0 ≤ nb ∧ nb ≤ 16 := eb ▸ hB fb
  have KA : Aside0 (∀ W, Below w.heap.size w W → Calls Try.prog 92 #[.agg #[.slice (some ad) n.f0.length c0, .slice A1 n.f1.length c1, .slice A2 n.f2.length c2, .slice A3 n.f3.length c3, .slice A4 n.f4.length c4], .int .i64 fa, .int .i64 (i : Int)] W (RetI (fun r => r = na) W)) := ⟨fun W hb => ea ▸ wide92_any n _ fa i W (k27.K_below hb HK.out) (by omega)⟩
  have KB_ : Aside0 (∀ W, Below w.heap.size w W → Calls Try.prog 92 #[.agg #[.slice (some ad) n.f0.length c0, .slice A1 n.f1.length c1, .slice A2 n.f2.length c2, .slice A3 n.f3.length c3, .slice A4 n.f4.length c4], .int .i64 fb, .int .i64 (i : Int)] W (RetI (fun r => r = nb) W)) := ⟨fun W hb => eb ▸ wide92_any n _ fb i W (k27.K_below hb HK.out) (by omega)⟩
  have KC_ : Aside0 (∀ W, Below w.heap.size w W → Calls Try.prog 92 #[.agg #[.slice (some ad) n.f0.length c0, .slice A1 n.f1.length c1, .slice A2 n.f2.length c2, .slice A3 n.f3.length c3, .slice A4 n.f4.length c4], .int .i64 fc, .int .i64 (i : Int)] W (RetI (fun r => r = nc) W)) := ⟨fun W hb => ec ▸ wide92_any n _ fc i W (k27.K_below hb HK.out) (by omega)⟩
  rw [ea, eb, ec]
  obtain ⟨M, hM⟩ := mask_is m (by omega) h16
  have HM := am hM
  obtain ⟨ba0, ba1⟩ := ba
  obtain ⟨bb0, bb1⟩ := bb
  have HL : Aside0 (Led [] w w) := ⟨Led.nil w⟩
  have hu27 := Try.underlying27
  have hu77 := Try.underlying77
  clear h hB hW hx ea eb ec hM HK hC0 hrest hKx hcx hl0 hi
  go_enter Try.func91, Try.ntmps91
  go_upto_region 5 with (first
    | ((with_reducible refine zg 2 rfl ?_); refine zx 2 [.slice (some ad) n.f0.length c0, .slice A1 n.f1.length c1, .slice A2 n.f2.length c2, .slice A3 n.f3.length c3, .slice A4 n.f4.length c4] 27 HL ?_; clear HL; intro g2 w1_ HL hb; have hk0 : w1_.cell? ⟨g2, 0, none⟩ = some (.slice (some ad) n.f0.length c0) := blk_cell HL.out.g0 0; clear hb)
    | ((with_reducible refine zg 14 rfl ?_); refine zle 14 77 (.tmp 13) [.int .i64 o, .int .i64 m, .int .i64 fa, .int .i64 fb, .int .i64 fc, .int .i64 fn, .int .i64 fl] (HCX.out _ HL.out.below) hu77 ?_)
    | ((with_reducible refine zg 5 rfl ?_); refine zx 5 [.int .i64 0, .int .i64 0, .int .i64 0, .int .i64 0, .int .i64 0, .int .i64 0, .int .i64 0] 77 HL ?_; clear HL; intro g5 w2_ HL hb; clear hb hk0)
    | ((with_reducible refine zst 77 (.tmp 5) (.tmp 14) rfl ?_); refine zs 0 0 77 (.tmp 5) (.tmp 14) [.int .i64 o, .int .i64 m, .int .i64 fa, .int .i64 fb, .int .i64 fc, .int .i64 fn, .int .i64 fl] HL ?_; intro w3_ HLn hfar; replace HL := HLn; clear HLn hfar; have hk2 : w3_.cell? ⟨g5, 2, none⟩ = some (.int .i64 fa) := blk_cell HL.out.g0 2)
    | ((with_reducible refine zg 15 rfl ?_); refine zl 1 27 (.tmp 2) HL hu27 ?_)
    | ((with_reducible refine zg 20 rfl ?_); refine zl 1 27 (.tmp 2) HL hu27 ?_)
    | ((with_reducible refine zg 25 rfl ?_); refine zl 1 27 (.tmp 2) HL hu27 ?_)
    | (go_at_call 92; (with_reducible refine (KA.out _ HL.out.below).mono ?_); rintro e w4_ ⟨r, he, hr, hb⟩; rw [hr] at he; subst he; clear hr hk2; replace HL := am (HL.out.step hb); clear hb; have hk3 : w4_.cell? ⟨g5, 3, none⟩ = some (.int .i64 fb) := blk_cell HL.out.g0 3)
    | (go_at_call 92; (with_reducible refine (KB_.out _ HL.out.below).mono ?_); rintro e w5_ ⟨r, he, hr, hb⟩; rw [hr] at he; subst he; clear hr hk3; replace HL := am (HL.out.step hb); clear hb; have hk4 : w5_.cell? ⟨g5, 4, none⟩ = some (.int .i64 fc) := blk_cell HL.out.g0 4)
    | (go_at_call 92; (with_reducible refine (KC_.out _ HL.out.below).mono ?_); rintro e w6_ ⟨r, he, hr, hb⟩; rw [hr] at he; subst he; clear hr hk4; replace HL := am (HL.out.step hb); clear hb; have hk5 : w6_.cell? ⟨g5, 5, none⟩ = some (.int .i64 fn) := blk_cell HL.out.g0 5; have hk6 : w6_.cell? ⟨g5, 6, none⟩ = some (.int .i64 fl) := blk_cell HL.out.g0 6))
  go_cut [9] (fun v9 wx => ∃ z : Bool, v9 = .bool z ∧ Aside0 (Led [(g5, [.int .i64 o, .int .i64 m, .int .i64 fa, .int .i64 fb, .int .i64 fc, .int .i64 fn, .int .i64 fl], 77), (g2, [.slice (some ad) n.f0.length c0, .slice A1 n.f1.length c1, .slice A2 n.f2.length c2, .slice A3 n.f3.length c3, .slice A4 n.f4.length c4], 27)] w wx))
  case first =>
    cases e5 : (fn == 0) <;> cases e6 : (fl == 0)
    all_goals go_wp2
    all_goals go_meet
    all_goals exact ⟨_, rfl, HL⟩
  case rest =>
    clear hk5 hk6 HL KA KB_ KC_ HCX
    obtain ⟨z, rfl, HL⟩ := hcut
    have hk0 : wc.cell? ⟨g5, 0, none⟩ = some (.int .i64 o) := blk_cell HL.out.g0 0
    have hk1 : wc.cell? ⟨g5, 1, none⟩ = some (.int .i64 m) := blk_cell HL.out.g0 1
    have hk5 : wc.cell? ⟨g5, 5, none⟩ = some (.int .i64 fn) := blk_cell HL.out.g0 5
    have hk6 : wc.cell? ⟨g5, 6, none⟩ = some (.int .i64 fl) := blk_cell HL.out.g0 6
    by_cases k : o ∈ [1]
    · simp only [List.mem_cons, List.not_mem_nil, or_false] at k
      subst k
      have HR : Aside0 (FitsOk 1 m fn fl na nb nc) := ⟨by constructor <;> intros <;> omega⟩
      cases e0 : decide (0 ≤ fn) <;> cases e1 : decide (fn ≤ M) <;> cases e2 : (fl == 0)
      all_goals go_wp2_with (fail)
      all_goals go_quiet ((go_at_call 72; exact Calls.quiet_of_same (HM.out _)))
      all_goals go_wp2
      all_goals go_ret
      all_goals first | exact ⟨_, rfl, (fun _ => HR.out), HL.out.below⟩ | exact ⟨_, rfl, (fun _ => HR.out), below_drewN' HL.out.below _⟩
    simp only [List.mem_cons, List.not_mem_nil, or_false, not_or] at k
    have k1 := k
    clear k
    have d1 : (o == 1) = false := beq_eq_false_iff_ne.mpr k1
    have K1 : Aside0 (o ≠ 1) := ⟨k1⟩
    clear k1
    by_cases k : o ∈ [21, 22]
    · simp only [List.mem_cons, List.not_mem_nil, or_false] at k
      rcases k with rfl | rfl
      · have HR : Aside0 (FitsOk 21 m fn fl na nb nc) := ⟨by constructor <;> intros <;> omega⟩
        go_wp2
        go_ret
        exact ⟨_, rfl, (fun _ => HR.out), HL.out.below⟩
      · have HR : Aside0 (FitsOk 22 m fn fl na nb nc) := ⟨by constructor <;> intros <;> omega⟩
        go_wp2
        go_ret
        exact ⟨_, rfl, (fun _ => HR.out), HL.out.below⟩
    simp only [List.mem_cons, List.not_mem_nil, or_false, not_or] at k
    obtain ⟨k21, k22⟩ := k
    have d21 : (o == 21) = false := beq_eq_false_iff_ne.mpr k21
    have K21 : Aside0 (o ≠ 21) := ⟨k21⟩
    clear k21
    have d22 : (o == 22) = false := beq_eq_false_iff_ne.mpr k22
    have K22 : Aside0 (o ≠ 22) := ⟨k22⟩
    clear k22
    by_cases k : o ∈ [3]
    · simp only [List.mem_cons, List.not_mem_nil, or_false] at k
      subst k
      cases z
      · go_wp2
        go_ret
        exact ⟨_, rfl, (fun h => by cases h), HL.out.below⟩
      · cases e1 : (na == m)
        · go_wp2
          go_ret
          exact ⟨_, rfl, (fun h => by cases h), HL.out.below⟩
        · have r1 := beq_iff_eq.1 e1
          have HR : Aside0 (FitsOk 3 m fn fl na nb nc) := ⟨by constructor <;> intros <;> omega⟩
          clear r1
          go_wp2
          go_ret
          exact ⟨_, rfl, (fun _ => HR.out), HL.out.below⟩
    simp only [List.mem_cons, List.not_mem_nil, or_false, not_or] at k
    have k3 := k
    clear k
    have d3 : (o == 3) = false := beq_eq_false_iff_ne.mpr k3
    have K3 : Aside0 (o ≠ 3) := ⟨k3⟩
    clear k3
    by_cases k : o ∈ [4, 5]
    · simp only [List.mem_cons, List.not_mem_nil, or_false] at k
      rcases k with rfl | rfl
      · cases e0 : (fn == 0)
        · go_wp2
          go_ret
          exact ⟨_, rfl, (fun h => by cases h), HL.out.below⟩
        · cases e1 : (m == 1)
          · go_wp2
            go_ret
            exact ⟨_, rfl, (fun h => by cases h), HL.out.below⟩
          · cases e2 : (na == fl)
            · go_wp2
              go_ret
              exact ⟨_, rfl, (fun h => by cases h), HL.out.below⟩
            · cases e3 : decide (0 < na)
              · go_wp2
                go_ret
                exact ⟨_, rfl, (fun h => by cases h), HL.out.below⟩
              · have r0 := beq_iff_eq.1 e0
                have r1 := beq_iff_eq.1 e1
                have r2 := beq_iff_eq.1 e2
                have r3 := of_decide_eq_true e3
                have HR : Aside0 (FitsOk 4 m fn fl na nb nc) := ⟨by constructor <;> intros <;> omega⟩
                clear r0 r1 r2 r3
                go_wp2
                go_ret
                exact ⟨_, rfl, (fun _ => HR.out), HL.out.below⟩
      · cases e0 : (fn == 0)
        · go_wp2
          go_ret
          exact ⟨_, rfl, (fun h => by cases h), HL.out.below⟩
        · cases e1 : (m == 1)
          · go_wp2
            go_ret
            exact ⟨_, rfl, (fun h => by cases h), HL.out.below⟩
          · cases e2 : (na == fl)
            · go_wp2
              go_ret
              exact ⟨_, rfl, (fun h => by cases h), HL.out.below⟩
            · cases e3 : decide (0 < na)
              · go_wp2
                go_ret
                exact ⟨_, rfl, (fun h => by cases h), HL.out.below⟩
              · have r0 := beq_iff_eq.1 e0
                have r1 := beq_iff_eq.1 e1
                have r2 := beq_iff_eq.1 e2
                have r3 := of_decide_eq_true e3
                have HR : Aside0 (FitsOk 5 m fn fl na nb nc) := ⟨by constructor <;> intros <;> omega⟩
                clear r0 r1 r2 r3
                go_wp2
                go_ret
                exact ⟨_, rfl, (fun _ => HR.out), HL.out.below⟩
    simp only [List.mem_cons, List.not_mem_nil, or_false, not_or] at k
    obtain ⟨k4, k5⟩ := k
    have d4 : (o == 4) = false := beq_eq_false_iff_ne.mpr k4
    have K4 : Aside0 (o ≠ 4) := ⟨k4⟩
    clear k4
    have d5 : (o == 5) = false := beq_eq_false_iff_ne.mpr k5
    have K5 : Aside0 (o ≠ 5) := ⟨k5⟩
    clear k5
    by_cases k : o ∈ [6, 7, 8, 9, 10, 11]
    · simp only [List.mem_cons, List.not_mem_nil, or_false] at k
      rcases k with rfl | rfl | rfl | rfl | rfl | rfl
      · cases z
        · go_wp2
          go_ret
          exact ⟨_, rfl, (fun h => by cases h), HL.out.below⟩
        · cases e1 : (na == m)
          · go_wp2
            go_ret
            exact ⟨_, rfl, (fun h => by cases h), HL.out.below⟩
          · cases e2 : (nb == m)
            · go_wp2
              go_ret
              exact ⟨_, rfl, (fun h => by cases h), HL.out.below⟩
            · have r1 := beq_iff_eq.1 e1
              have r2 := beq_iff_eq.1 e2
              have HR : Aside0 (FitsOk 6 m fn fl na nb nc) := ⟨by constructor <;> intros <;> omega⟩
              clear r1 r2
              go_wp2
              go_ret
              exact ⟨_, rfl, (fun _ => HR.out), HL.out.below⟩
      · cases z
        · go_wp2
          go_ret
          exact ⟨_, rfl, (fun h => by cases h), HL.out.below⟩
        · cases e1 : (na == m)
          · go_wp2
            go_ret
            exact ⟨_, rfl, (fun h => by cases h), HL.out.below⟩
          · cases e2 : (nb == m)
            · go_wp2
              go_ret
              exact ⟨_, rfl, (fun h => by cases h), HL.out.below⟩
            · have r1 := beq_iff_eq.1 e1
              have r2 := beq_iff_eq.1 e2
              have HR : Aside0 (FitsOk 7 m fn fl na nb nc) := ⟨by constructor <;> intros <;> omega⟩
              clear r1 r2
              go_wp2
              go_ret
              exact ⟨_, rfl, (fun _ => HR.out), HL.out.below⟩
      · cases z
        · go_wp2
          go_ret
          exact ⟨_, rfl, (fun h => by cases h), HL.out.below⟩
        · cases e1 : (na == m)
          · go_wp2
            go_ret
            exact ⟨_, rfl, (fun h => by cases h), HL.out.below⟩
          · cases e2 : (nb == m)
            · go_wp2
              go_ret
              exact ⟨_, rfl, (fun h => by cases h), HL.out.below⟩
            · have r1 := beq_iff_eq.1 e1
              have r2 := beq_iff_eq.1 e2
              have HR : Aside0 (FitsOk 8 m fn fl na nb nc) := ⟨by constructor <;> intros <;> omega⟩
              clear r1 r2
              go_wp2
              go_ret
              exact ⟨_, rfl, (fun _ => HR.out), HL.out.below⟩
      · cases z
        · go_wp2
          go_ret
          exact ⟨_, rfl, (fun h => by cases h), HL.out.below⟩
        · cases e1 : (na == m)
          · go_wp2
            go_ret
            exact ⟨_, rfl, (fun h => by cases h), HL.out.below⟩
          · cases e2 : (nb == m)
            · go_wp2
              go_ret
              exact ⟨_, rfl, (fun h => by cases h), HL.out.below⟩
            · have r1 := beq_iff_eq.1 e1
              have r2 := beq_iff_eq.1 e2
              have HR : Aside0 (FitsOk 9 m fn fl na nb nc) := ⟨by constructor <;> intros <;> omega⟩
              clear r1 r2
              go_wp2
              go_ret
              exact ⟨_, rfl, (fun _ => HR.out), HL.out.below⟩
      · cases z
        · go_wp2
          go_ret
          exact ⟨_, rfl, (fun h => by cases h), HL.out.below⟩
        · cases e1 : (na == m)
          · go_wp2
            go_ret
            exact ⟨_, rfl, (fun h => by cases h), HL.out.below⟩
          · cases e2 : (nb == m)
            · go_wp2
              go_ret
              exact ⟨_, rfl, (fun h => by cases h), HL.out.below⟩
            · have r1 := beq_iff_eq.1 e1
              have r2 := beq_iff_eq.1 e2
              have HR : Aside0 (FitsOk 10 m fn fl na nb nc) := ⟨by constructor <;> intros <;> omega⟩
              clear r1 r2
              go_wp2
              go_ret
              exact ⟨_, rfl, (fun _ => HR.out), HL.out.below⟩
      · cases z
        · go_wp2
          go_ret
          exact ⟨_, rfl, (fun h => by cases h), HL.out.below⟩
        · cases e1 : (na == m)
          · go_wp2
            go_ret
            exact ⟨_, rfl, (fun h => by cases h), HL.out.below⟩
          · cases e2 : (nb == m)
            · go_wp2
              go_ret
              exact ⟨_, rfl, (fun h => by cases h), HL.out.below⟩
            · have r1 := beq_iff_eq.1 e1
              have r2 := beq_iff_eq.1 e2
              have HR : Aside0 (FitsOk 11 m fn fl na nb nc) := ⟨by constructor <;> intros <;> omega⟩
              clear r1 r2
              go_wp2
              go_ret
              exact ⟨_, rfl, (fun _ => HR.out), HL.out.below⟩
    simp only [List.mem_cons, List.not_mem_nil, or_false, not_or] at k
    obtain ⟨k6, k7, k8, k9, k10, k11⟩ := k
    have d6 : (o == 6) = false := beq_eq_false_iff_ne.mpr k6
    have K6 : Aside0 (o ≠ 6) := ⟨k6⟩
    clear k6
    have d7 : (o == 7) = false := beq_eq_false_iff_ne.mpr k7
    have K7 : Aside0 (o ≠ 7) := ⟨k7⟩
    clear k7
    have d8 : (o == 8) = false := beq_eq_false_iff_ne.mpr k8
    have K8 : Aside0 (o ≠ 8) := ⟨k8⟩
    clear k8
    have d9 : (o == 9) = false := beq_eq_false_iff_ne.mpr k9
    have K9 : Aside0 (o ≠ 9) := ⟨k9⟩
    clear k9
    have d10 : (o == 10) = false := beq_eq_false_iff_ne.mpr k10
    have K10 : Aside0 (o ≠ 10) := ⟨k10⟩
    clear k10
    have d11 : (o == 11) = false := beq_eq_false_iff_ne.mpr k11
    have K11 : Aside0 (o ≠ 11) := ⟨k11⟩
    clear k11
    by_cases k : o ∈ [12, 13, 14, 15]
    · simp only [List.mem_cons, List.not_mem_nil, or_false] at k
      rcases k with rfl | rfl | rfl | rfl
      · cases e0 : (fn == 0)
        · go_wp2
          go_ret
          exact ⟨_, rfl, (fun h => by cases h), HL.out.below⟩
        · cases e1 : (m == 1)
          · go_wp2
            go_ret
            exact ⟨_, rfl, (fun h => by cases h), HL.out.below⟩
          · cases e2 : (na == fl)
            · go_wp2
              go_ret
              exact ⟨_, rfl, (fun h => by cases h), HL.out.below⟩
            · cases e3 : (nb == fl)
              · go_wp2
                go_ret
                exact ⟨_, rfl, (fun h => by cases h), HL.out.below⟩
              · cases e4 : decide (0 < na)
                · go_wp2
                  go_ret
                  exact ⟨_, rfl, (fun h => by cases h), HL.out.below⟩
                · have r0 := beq_iff_eq.1 e0
                  have r1 := beq_iff_eq.1 e1
                  have r2 := beq_iff_eq.1 e2
                  have r3 := beq_iff_eq.1 e3
                  have r4 := of_decide_eq_true e4
                  have HR : Aside0 (FitsOk 12 m fn fl na nb nc) := ⟨by constructor <;> intros <;> omega⟩
                  clear r0 r1 r2 r3 r4
                  go_wp2
                  go_ret
                  exact ⟨_, rfl, (fun _ => HR.out), HL.out.below⟩
      · cases e0 : (fn == 0)
        · go_wp2
          go_ret
          exact ⟨_, rfl, (fun h => by cases h), HL.out.below⟩
        · cases e1 : (m == 1)
          · go_wp2
            go_ret
            exact ⟨_, rfl, (fun h => by cases h), HL.out.below⟩
          · cases e2 : (na == fl)
            · go_wp2
              go_ret
              exact ⟨_, rfl, (fun h => by cases h), HL.out.below⟩
            · cases e3 : (nb == fl)
              · go_wp2
                go_ret
                exact ⟨_, rfl, (fun h => by cases h), HL.out.below⟩
              · cases e4 : decide (0 < na)
                · go_wp2
                  go_ret
                  exact ⟨_, rfl, (fun h => by cases h), HL.out.below⟩
                · have r0 := beq_iff_eq.1 e0
                  have r1 := beq_iff_eq.1 e1
                  have r2 := beq_iff_eq.1 e2
                  have r3 := beq_iff_eq.1 e3
                  have r4 := of_decide_eq_true e4
                  have HR : Aside0 (FitsOk 13 m fn fl na nb nc) := ⟨by constructor <;> intros <;> omega⟩
                  clear r0 r1 r2 r3 r4
                  go_wp2
                  go_ret
                  exact ⟨_, rfl, (fun _ => HR.out), HL.out.below⟩
      · cases e0 : (fn == 0)
        · go_wp2
          go_ret
          exact ⟨_, rfl, (fun h => by cases h), HL.out.below⟩
        · cases e1 : (m == 1)
          · go_wp2
            go_ret
            exact ⟨_, rfl, (fun h => by cases h), HL.out.below⟩
          · cases e2 : (na == fl)
            · go_wp2
              go_ret
              exact ⟨_, rfl, (fun h => by cases h), HL.out.below⟩
            · cases e3 : (nb == fl)
              · go_wp2
                go_ret
                exact ⟨_, rfl, (fun h => by cases h), HL.out.below⟩
              · cases e4 : decide (0 < na)
                · go_wp2
                  go_ret
                  exact ⟨_, rfl, (fun h => by cases h), HL.out.below⟩
                · have r0 := beq_iff_eq.1 e0
                  have r1 := beq_iff_eq.1 e1
                  have r2 := beq_iff_eq.1 e2
                  have r3 := beq_iff_eq.1 e3
                  have r4 := of_decide_eq_true e4
                  have HR : Aside0 (FitsOk 14 m fn fl na nb nc) := ⟨by constructor <;> intros <;> omega⟩
                  clear r0 r1 r2 r3 r4
                  go_wp2
                  go_ret
                  exact ⟨_, rfl, (fun _ => HR.out), HL.out.below⟩
      · cases e0 : (fn == 0)
        · go_wp2
          go_ret
          exact ⟨_, rfl, (fun h => by cases h), HL.out.below⟩
        · cases e1 : (m == 1)
          · go_wp2
            go_ret
            exact ⟨_, rfl, (fun h => by cases h), HL.out.below⟩
          · cases e2 : (na == fl)
            · go_wp2
              go_ret
              exact ⟨_, rfl, (fun h => by cases h), HL.out.below⟩
            · cases e3 : (nb == fl)
              · go_wp2
                go_ret
                exact ⟨_, rfl, (fun h => by cases h), HL.out.below⟩
              · cases e4 : decide (0 < na)
                · go_wp2
                  go_ret
                  exact ⟨_, rfl, (fun h => by cases h), HL.out.below⟩
                · have r0 := beq_iff_eq.1 e0
                  have r1 := beq_iff_eq.1 e1
                  have r2 := beq_iff_eq.1 e2
                  have r3 := beq_iff_eq.1 e3
                  have r4 := of_decide_eq_true e4
                  have HR : Aside0 (FitsOk 15 m fn fl na nb nc) := ⟨by constructor <;> intros <;> omega⟩
                  clear r0 r1 r2 r3 r4
                  go_wp2
                  go_ret
                  exact ⟨_, rfl, (fun _ => HR.out), HL.out.below⟩
    simp only [List.mem_cons, List.not_mem_nil, or_false, not_or] at k
    obtain ⟨k12, k13, k14, k15⟩ := k
    have d12 : (o == 12) = false := beq_eq_false_iff_ne.mpr k12
    have K12 : Aside0 (o ≠ 12) := ⟨k12⟩
    clear k12
    have d13 : (o == 13) = false := beq_eq_false_iff_ne.mpr k13
    have K13 : Aside0 (o ≠ 13) := ⟨k13⟩
    clear k13
    have d14 : (o == 14) = false := beq_eq_false_iff_ne.mpr k14
    have K14 : Aside0 (o ≠ 14) := ⟨k14⟩
    clear k14
    have d15 : (o == 15) = false := beq_eq_false_iff_ne.mpr k15
    have K15 : Aside0 (o ≠ 15) := ⟨k15⟩
    clear k15
    by_cases k : o ∈ [16]
    · simp only [List.mem_cons, List.not_mem_nil, or_false] at k
      subst k
      cases z
      · go_wp2
        go_ret
        exact ⟨_, rfl, (fun h => by cases h), HL.out.below⟩
      · cases e1 : (na == 1)
        · go_wp2
          go_ret
          exact ⟨_, rfl, (fun h => by cases h), HL.out.below⟩
        · cases e2 : (nb == m)
          · go_wp2
            go_ret
            exact ⟨_, rfl, (fun h => by cases h), HL.out.below⟩
          · cases e3 : (nc == m)
            · go_wp2
              go_ret
              exact ⟨_, rfl, (fun h => by cases h), HL.out.below⟩
            · have r1 := beq_iff_eq.1 e1
              have r2 := beq_iff_eq.1 e2
              have r3 := beq_iff_eq.1 e3
              have HR : Aside0 (FitsOk 16 m fn fl na nb nc) := ⟨by constructor <;> intros <;> omega⟩
              clear r1 r2 r3
              go_wp2
              go_ret
              exact ⟨_, rfl, (fun _ => HR.out), HL.out.below⟩
    simp only [List.mem_cons, List.not_mem_nil, or_false, not_or] at k
    have k16 := k
    clear k
    have d16 : (o == 16) = false := beq_eq_false_iff_ne.mpr k16
    have K16 : Aside0 (o ≠ 16) := ⟨k16⟩
    clear k16
    by_cases k : o ∈ [17]
    · simp only [List.mem_cons, List.not_mem_nil, or_false] at k
      subst k
      cases z
      · go_wp2
        go_ret
        exact ⟨_, rfl, (fun h => by cases h), HL.out.below⟩
      · cases e1 : decide (0 < na)
        · go_wp2
          go_ret
          exact ⟨_, rfl, (fun h => by cases h), HL.out.below⟩
        · cases e2 : decide (0 < nb)
          · go_wp2
            go_ret
            exact ⟨_, rfl, (fun h => by cases h), HL.out.below⟩
          · cases e3 : (na + nb == m)
            · go_wp2
              go_ret
              exact ⟨_, rfl, (fun h => by cases h), HL.out.below⟩
            · have r1 := of_decide_eq_true e1
              have r2 := of_decide_eq_true e2
              have r3 := beq_iff_eq.1 e3
              have HR : Aside0 (FitsOk 17 m fn fl na nb nc) := ⟨by constructor <;> intros <;> omega⟩
              clear r1 r2 r3
              go_wp2
              go_ret
              exact ⟨_, rfl, (fun _ => HR.out), HL.out.below⟩
    simp only [List.mem_cons, List.not_mem_nil, or_false, not_or] at k
    have k17 := k
    clear k
    have d17 : (o == 17) = false := beq_eq_false_iff_ne.mpr k17
    have K17 : Aside0 (o ≠ 17) := ⟨k17⟩
    clear k17
    cases e0 : decide (0 ≤ fl)
    · go_wp2
      go_ret
      exact ⟨_, rfl, (fun h => by cases h), HL.out.below⟩
    · cases e1 : decide (fl ≤ fn)
      · go_wp2
        go_ret
        exact ⟨_, rfl, (fun h => by cases h), HL.out.below⟩
      · cases e2 : decide (fn < na)
        · go_wp2
          go_ret
          exact ⟨_, rfl, (fun h => by cases h), HL.out.below⟩
        · have t0 : (0 : Int) ≤ fl := of_decide_eq_true e0
          have t1 : fl ≤ fn := of_decide_eq_true e1
          have t2 : fn < na := of_decide_eq_true e2
          cases e3 : (m == fn - fl + 1)
          · go_wp2
            go_ret
            exact ⟨_, rfl, (fun h => by cases h), HL.out.below⟩
          · have r0 := of_decide_eq_true e0
            have r1 := of_decide_eq_true e1
            have r2 := of_decide_eq_true e2
            have r3 := beq_iff_eq.1 e3
            have HR : Aside0 (FitsOk o m fn fl na nb nc) := ⟨by have := K1.out; have := K21.out; have := K22.out; have := K3.out; have := K4.out; have := K5.out; have := K6.out; have := K7.out; have := K8.out; have := K9.out; have := K10.out; have := K11.out; have := K12.out; have := K13.out; have := K14.out; have := K15.out; have := K16.out; have := K17.out; constructor <;> intros <;> omega⟩
            clear r0 r1 r2 r3
            go_wp2
            go_ret
            exact ⟨_, rfl, (fun _ => HR.out), HL.out.below⟩
end Go.Proofs.Yteilkojmefipcaa.U
