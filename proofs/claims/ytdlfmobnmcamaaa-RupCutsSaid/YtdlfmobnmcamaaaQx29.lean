/- Written by hyb.py, a program of this session that drives the kit's printer over this seat's translation: each function as a plain Lean function, and a proof that the Go code does what it says. Lean checks it. -/
import Derived.Test.YtdlfmobnmcamaaaQx0
import Derived.Test.YtdlfmobnmcamaaaQx15
import Derived.Test.YtdlfmobnmcamaaaQx22
import Derived.Test.YtdlfmobnmcamaaaQx23
import Derived.Test.YtdlfmobnmcamaaaQx24
namespace Go.Proofs.Ytdlfmobnmcamaaa.Q
open Go.RowKit Go.Proofs.YtdlfmobnmcamaaaW.PrintWords Go.Proofs.YtdlfmobnmcamaaaW.PrintLast Go.Proofs.YtdlfmobnmcamaaaW.PrintMore
attribute [local go_sem] max2_int min2_int max_two min_two max_three min_three max_four min_four   -- for this text's walks alone
set_option linter.unusedVariables false
set_option linter.unusedSimpArgs false

noncomputable section
/-! ### proofmarklaw20_RupCuts: function 6 -/
mutual
def proofmarklaw20_RupCuts.j0 : Nat → Int → Bool → List (List Int) → List (List Int) → Bool → Option (Bool)
  | 0, _, _, _, _, _ => none
  | k + 1, x2, x7, x8, x9, x30 => if x30 = true then (some x7) else ((some (([] : List (List Int)) : List (List Int))).bind fun y641 => (if y641.length + x8.length < 5864062014805 then (proofmarklaw20_RupCuts.l0 k x2 x7 x9 (y641 ++ x8) 0) else (none)))
def proofmarklaw20_RupCuts.l0 : Nat → Int → Bool → List (List Int) → List (List Int) → Int → Option (Bool)
  | 0, _, _, _, _, _ => none
  | k + 1, x2, x7, x9, x10, x11 => if x11 < x2 then (if 0 ≤ x11 then (if x11 < (x9.length : Int) then ((rup_Step.f x10 8 (rd_L1 x9 x11)).bind fun t648 => (if t648 = true then (if x10.length < 5864062014805 then (proofmarklaw20_RupCuts.l0 k x2 x7 x9 (x10 ++ [rd_L1 x9 x11]) (wrap64 (x11 + 1))) else (none)) else (some false))) else (none)) else (none)) else (if x7 = true then (if 0 ≤ x2 then (if x2 ≤ (x9.length : Int) then ((rup_Check.f x10 8 (x9.drop (x2 : Int).toNat) ([] : List Int)).bind fun t658 => (some t658)) else (none)) else (none)) else (some false))
end
def proofmarklaw20_RupCuts.f (k : Nat) (l0 : List (List Int)) (l1 : List (List Int)) (a2 : Int) : Option (Bool) := (proofmarklaw20_head.f).bind fun t633 => ((proofmarkref18_Smalls.f k l0).bind fun t634 => ((proofmarkref18_Smalls.f k l1).bind fun t637 => ((rup_Check.f t634 8 t637 ([] : List Int)).bind fun t640 => (if t640 = true then (if a2 < 0 then (proofmarklaw20_RupCuts.j0 k a2 t633 t634 t637 true) else (proofmarklaw20_RupCuts.j0 k a2 t633 t634 t637 (decide (a2 > (t637.length : Int))))) else (proofmarklaw20_RupCuts.j0 k a2 t633 t634 t637 true)))))
theorem proofmarklaw20_RupCuts.mono_l : ∀ k, (∀ y0 y1 y2 y3 y4, LeO (proofmarklaw20_RupCuts.j0 k y0 y1 y2 y3 y4) (proofmarklaw20_RupCuts.j0 (k + 1) y0 y1 y2 y3 y4)) ∧ (∀ y0 y1 y2 y3 y4, LeO (proofmarklaw20_RupCuts.l0 k y0 y1 y2 y3 y4) (proofmarklaw20_RupCuts.l0 (k + 1) y0 y1 y2 y3 y4))
  | 0 => ⟨fun _ _ _ _ _ r h => by simp [proofmarklaw20_RupCuts.j0] at h, fun _ _ _ _ _ r h => by simp [proofmarklaw20_RupCuts.l0] at h⟩
  | k + 1 => by
    obtain ⟨ih0, ih1⟩ := proofmarklaw20_RupCuts.mono_l k
    refine ⟨?_, ?_⟩
    · intro y0 y1 y2 y3 y4
      unfold proofmarklaw20_RupCuts.j0
      repeat' first
      | (with_reducible exact ih0 _ _ _ _ _)
      | (with_reducible exact ih1 _ _ _ _ _)
      | (with_reducible exact proofmarkref18_Smalls.mono _ _)
      | (with_reducible exact LeO.refl _)
      | (with_reducible exact LeO.none _)
      | (with_reducible refine LeO.ite ?_ ?_)
      | (with_reducible refine LeO.bind ?_ (fun _ => ?_))
      | exact ih0 _ _ _ _ _
      | exact ih1 _ _ _ _ _
      | exact proofmarkref18_Smalls.mono _ _
      | exact LeO.none _
      | refine LeO.ite ?_ ?_
      | refine LeO.bind ?_ (fun _ => ?_)
    · intro y0 y1 y2 y3 y4
      unfold proofmarklaw20_RupCuts.l0
      repeat' first
      | (with_reducible exact ih0 _ _ _ _ _)
      | (with_reducible exact ih1 _ _ _ _ _)
      | (with_reducible exact proofmarkref18_Smalls.mono _ _)
      | (with_reducible exact LeO.refl _)
      | (with_reducible exact LeO.none _)
      | (with_reducible refine LeO.ite ?_ ?_)
      | (with_reducible refine LeO.bind ?_ (fun _ => ?_))
      | exact ih0 _ _ _ _ _
      | exact ih1 _ _ _ _ _
      | exact proofmarkref18_Smalls.mono _ _
      | exact LeO.none _
      | refine LeO.ite ?_ ?_
      | refine LeO.bind ?_ (fun _ => ?_)
theorem proofmarklaw20_RupCuts.mono : ∀ a0 a1 a2 k, LeO (proofmarklaw20_RupCuts.f k a0 a1 a2) (proofmarklaw20_RupCuts.f (k + 1) a0 a1 a2) := by
  intro a0 a1 a2 k
  obtain ⟨ih0, ih1⟩ := proofmarklaw20_RupCuts.mono_l k
  unfold proofmarklaw20_RupCuts.f
  repeat' first
      | (with_reducible exact ih0 _ _ _ _ _)
      | (with_reducible exact ih1 _ _ _ _ _)
      | (with_reducible exact proofmarkref18_Smalls.mono _ _)
      | (with_reducible exact LeO.refl _)
      | (with_reducible exact LeO.none _)
      | (with_reducible refine LeO.ite ?_ ?_)
      | (with_reducible refine LeO.bind ?_ (fun _ => ?_))
      | exact ih0 _ _ _ _ _
      | exact ih1 _ _ _ _ _
      | exact proofmarkref18_Smalls.mono _ _
      | exact LeO.none _
      | refine LeO.ite ?_ ?_
      | refine LeO.bind ?_ (fun _ => ?_)
set_option maxHeartbeats 8000000 in
set_option maxRecDepth 100000 in
theorem proofmarklaw20_RupCuts.calls (k : Nat) (A0 : Option Addr) (c0 : Nat) (l0 : List (List Int)) (A1 : Option Addr) (c1 : Nat) (l1 : List (List Int)) (a2 : Int) (r : Bool) (w : World) (hr0 : Kd.C (Kd.slice 3 (Kd.int .i64)) w A0 l0.length l0) (hc0 : l0.length ≤ c0) (hr1 : Kd.C (Kd.slice 3 (Kd.int .i64)) w A1 l1.length l1) (hc1 : l1.length ≤ c1) (h : proofmarklaw20_RupCuts.f k l0 l1 a2 = some r) :
    Calls Try.prog 6 #[.slice A0 l0.length c0, .slice A1 l1.length c1, .int .i64 a2] w fun e w' => e = .returned (.bool r) ∧ Below w.heap.size w w' := by
  have HR0 := Aside0.mk hr0
  have HC0 := Aside0.mk hc0
  clear hr0 hc0
  have HR1 := Aside0.mk hr1
  have HC1 := Aside0.mk hc1
  clear hr1 hc1
  have HB := Aside0.mk (Below.refl w.heap.size w)
  have H : ((proofmarklaw20_head.f).bind fun t633 => ((proofmarkref18_Smalls.f k l0).bind fun t634 => ((proofmarkref18_Smalls.f k l1).bind fun t637 => ((rup_Check.f t634 8 t637 ([] : List Int)).bind fun t640 => (if t640 = true then (if a2 < 0 then (proofmarklaw20_RupCuts.j0 k a2 t633 t634 t637 true) else (proofmarklaw20_RupCuts.j0 k a2 t633 t634 t637 (decide (a2 > (t637.length : Int))))) else (proofmarklaw20_RupCuts.j0 k a2 t633 t634 t637 true)))))) = some r := h
  clear h
  replace H := Option.bind_eq_some_iff.mp H
  obtain ⟨t633, A40, H⟩ := H
  replace H : ((proofmarkref18_Smalls.f k l0).bind fun t634 => ((proofmarkref18_Smalls.f k l1).bind fun t637 => ((rup_Check.f t634 8 t637 ([] : List Int)).bind fun t640 => (if t640 = true then (if a2 < 0 then (proofmarklaw20_RupCuts.j0 k a2 t633 t634 t637 true) else (proofmarklaw20_RupCuts.j0 k a2 t633 t634 t637 (decide (a2 > (t637.length : Int))))) else (proofmarklaw20_RupCuts.j0 k a2 t633 t634 t637 true))))) = some r := H
  have A4 := Aside0.mk A40
  clear A40
  replace H := Option.bind_eq_some_iff.mp H
  obtain ⟨t634, A50, H⟩ := H
  replace H : ((proofmarkref18_Smalls.f k l1).bind fun t637 => ((rup_Check.f t634 8 t637 ([] : List Int)).bind fun t640 => (if t640 = true then (if a2 < 0 then (proofmarklaw20_RupCuts.j0 k a2 t633 t634 t637 true) else (proofmarklaw20_RupCuts.j0 k a2 t633 t634 t637 (decide (a2 > (t637.length : Int))))) else (proofmarklaw20_RupCuts.j0 k a2 t633 t634 t637 true)))) = some r := H
  have A5 := Aside0.mk A50
  clear A50
  replace H := Option.bind_eq_some_iff.mp H
  obtain ⟨t637, A60, H⟩ := H
  replace H : ((rup_Check.f t634 8 t637 ([] : List Int)).bind fun t640 => (if t640 = true then (if a2 < 0 then (proofmarklaw20_RupCuts.j0 k a2 t633 t634 t637 true) else (proofmarklaw20_RupCuts.j0 k a2 t633 t634 t637 (decide (a2 > (t637.length : Int))))) else (proofmarklaw20_RupCuts.j0 k a2 t633 t634 t637 true))) = some r := H
  have A6 := Aside0.mk A60
  clear A60
  have HC7 := Aside0.mk H
  clear H
  go_enter Try.func6, Try.ntmps6
  go_upto_region 4 with (first | ((with_reducible refine gate_callee (f := 17) rfl ?_); refine goesL_ (some 12) rfl rfl Try.func17 (by kernel_rfl) rfl #[] rfl (by (try simp only [List.map_toArray, List.map_cons, List.map_nil]); first | done | rfl | (simp only [List.length_drop, List.length_take]; rfl)) ?_; (with_reducible refine (proofmarklaw20_head.calls  t633 _ A4.out).mono ?_); rintro e w8 ⟨rfl, hb⟩; refine ⟨_, rfl, ?_⟩; have n0_ := Aside0.mk (below_step (by repeat (first | (with_reducible first | exact HB.out | apply below_alloc | apply pw_below_drewN | apply below_drew1) | exact HB.out)) hb); clear HB; have HB := n0_; clear n0_; (try clear hb); (try clear hb2); (try clear hk); (try clear hi)) | ((with_reducible refine gate_callee (f := 24) rfl ?_); refine goesL_ (some 14) rfl rfl Try.func24 (by kernel_rfl) rfl #[.slice A0 l0.length c0] rfl (by (try simp only [List.map_toArray, List.map_cons, List.map_nil]); first | done | rfl | (simp only [List.length_drop, List.length_take]; rfl)) ?_; (with_reducible refine (proofmarkref18_Smalls.calls k _ _ l0 t634 _ ?side1 ?side2 A5.out).mono ?_); (case side1 => repeat (first | exact (Kd.C_below HR0.out HB.out) | (with_reducible refine Kd.C_alloc ?_ _) | (with_reducible refine Kd.C_drewN ?_ _) | (with_reducible refine Kd.C_drew ?_))); (case side2 => exact HC0.out); rintro e w9 ⟨v635, rfl, ho0, hb⟩; refine ⟨_, rfl, ?_⟩; have n0_ := Aside0.mk (Kd.N_lower (Kd.N_mono (ok' := fun k_ => True) (Kd.S_N (Kd.S_bound ho0)) (fun k_ hk_ => trivial)) (below_size (by repeat (first | (with_reducible first | exact HB.out | apply below_alloc | apply pw_below_drewN | apply below_drew1) | exact HB.out)))); have n1_ := Aside0.mk (below_step (by repeat (first | (with_reducible first | exact HB.out | apply below_alloc | apply pw_below_drewN | apply below_drew1) | exact HB.out)) hb); clear HB; have HO636 := n0_; have HB := n1_; clear n0_ n1_; (try clear hb); (try clear hb2); (try clear hk); (try clear hi); (try clear ho0)) | ((with_reducible refine gate_callee (f := 24) rfl ?_); refine goesL_ (some 16) rfl rfl Try.func24 (by kernel_rfl) rfl #[.slice A1 l1.length c1] rfl (by (try simp only [List.map_toArray, List.map_cons, List.map_nil]); first | done | rfl | (simp only [List.length_drop, List.length_take]; rfl)) ?_; (with_reducible refine (proofmarkref18_Smalls.calls k _ _ l1 t637 _ ?side1 ?side2 A6.out).mono ?_); (case side1 => repeat (first | exact (Kd.C_below HR1.out HB.out) | (with_reducible refine Kd.C_alloc ?_ _) | (with_reducible refine Kd.C_drewN ?_ _) | (with_reducible refine Kd.C_drew ?_))); (case side2 => exact HC1.out); rintro e w10 ⟨v638, rfl, ho0, hb⟩; refine ⟨_, rfl, ?_⟩; have n0_ := Aside0.mk (Kd.N_elder' (by (with_reducible repeat (first | apply Kd.N_alloc | apply Kd.N_drewN | apply Kd.N_drew)); exact HO636.out) (Kd.N_base (Kd.S_N ho0)) hb); have n1_ := Aside0.mk (Kd.N_lower (Kd.N_mono (ok' := fun k_ => some k_ ≠ (v635 : Value).ownBlock) (Kd.S_N (Kd.S_bound ho0)) (fun k_ hk_ => (Kd.fresh' (Kd.N_lt (by (with_reducible repeat (first | apply Kd.N_alloc | apply Kd.N_drewN | apply Kd.N_drew)); exact HO636.out)) k_ hk_.2.1))) (below_size (by repeat (first | (with_reducible first | exact HB.out | apply below_alloc | apply pw_below_drewN | apply below_drew1) | exact HB.out)))); have n2_ := Aside0.mk (below_step (by repeat (first | (with_reducible first | exact HB.out | apply below_alloc | apply pw_below_drewN | apply below_drew1) | exact HB.out)) hb); clear HO636; clear HB; have HO636 := n0_; have HO639 := n1_; have HB := n2_; clear n0_ n1_ n2_; (try clear hb); (try clear hb2); (try clear hk); (try clear hi); (try clear ho0)))
  (try simp only [Act.put, List.setIfInBounds_toArray, List.set_cons_zero, List.set_cons_succ])
  go_cut [30] (fun v30 wc => ∃ (kq : Nat) (x30_6 : Bool), v30 = .bool x30_6 ∧ Aside0 (proofmarklaw20_RupCuts.j0 kq a2 t633 t634 t637 x30_6 = some r) ∧ Aside0 (kq ≤ k) ∧ Aside0 (Kd.N (Kd.slice 3 (Kd.int .i64)) 23 wc w.heap.size (fun k_ => some k_ ≠ (v638 : Value).ownBlock) v635 t634) ∧ Aside0 (Kd.N (Kd.slice 3 (Kd.int .i64)) 23 wc w.heap.size (fun k_ => some k_ ≠ (v635 : Value).ownBlock) v638 t637) ∧ Aside0 (Below w.heap.size w wc))
  case first =>
    have H := HC7.out
    clear HC7
    replace H := Option.bind_eq_some_iff.mp H
    obtain ⟨t640, A110, H⟩ := H
    replace H : (if t640 = true then (if a2 < 0 then (proofmarklaw20_RupCuts.j0 k a2 t633 t634 t637 true) else (proofmarklaw20_RupCuts.j0 k a2 t633 t634 t637 (decide (a2 > (t637.length : Int))))) else (proofmarklaw20_RupCuts.j0 k a2 t633 t634 t637 true)) = some r := H
    have A11 := Aside0.mk A110
    clear A110
    by_cases c12 : t640 = true
    · subst c12
      have H1 : (if a2 < 0 then (proofmarklaw20_RupCuts.j0 k a2 t633 t634 t637 true) else (proofmarklaw20_RupCuts.j0 k a2 t633 t634 t637 (decide (a2 > (t637.length : Int))))) = some r := by rw [if_pos rfl] at H; exact H
      clear H
      have H := H1
      clear H1
      by_cases c13 : a2 < 0
      · rw [if_pos c13] at H
        have c13b0 : decide (a2 < 0) = true := decide_eq_true c13
        clear c13
        (first | rw [c13b0] | (simp only [i64_w, i32_w]; rw [c13b0]) | skip)
        have H' := Aside0.mk H
        clear H
        obtain ⟨Ao14, co14, eo14⟩ := Kd.N_slice HO636.out
        subst eo14
        obtain ⟨Ao15, co15, eo15⟩ := Kd.N_slice HO639.out
        subst eo15
        go_wp2_with (first | ((with_reducible refine gate_callee (f := 22) rfl ?_); refine goesL_ (some 19) rfl rfl Try.func22 (by kernel_rfl) rfl #[.slice Ao14 t634.length co14, .int .i64 8, .slice Ao15 t637.length co15, .slice none 0 0] rfl (by (try simp only [List.map_toArray, List.map_cons, List.map_nil]); first | done | rfl | (simp only [List.length_drop, List.length_take]; rfl)) ?_; (refine (rup_Check.calls _ _ t634 8 _ _ t637 _ _ ([] : List Int) true _ ?side1 ?side2 ?side3 ?side4 ?side5 ?side6 A11.out).mono ?_); (case side1 => repeat (first | exact (Kd.N_reads' HO636.out).2.2 | (with_reducible refine Kd.C_alloc ?_ _) | (with_reducible refine Kd.C_drewN ?_ _) | (with_reducible refine Kd.C_drew ?_))); (case side2 => exact (Kd.N_reads' HO636.out).2.1); (case side3 => repeat (first | exact (Kd.N_reads' HO639.out).2.2 | (with_reducible refine Kd.C_alloc ?_ _) | (with_reducible refine Kd.C_drewN ?_ _) | (with_reducible refine Kd.C_drew ?_))); (case side4 => exact (Kd.N_reads' HO639.out).2.1); (case side5 => exact Kd.C_nil _ _); (case side6 => exact Nat.le_refl _); rintro e w16 ⟨rfl, hb⟩; refine ⟨_, rfl, ?_⟩; have n0_ := Aside0.mk (Kd.N_below (by (with_reducible repeat (first | apply Kd.N_alloc | apply Kd.N_drewN | apply Kd.N_drew)); exact HO636.out) hb); have n1_ := Aside0.mk (Kd.N_below (by (with_reducible repeat (first | apply Kd.N_alloc | apply Kd.N_drewN | apply Kd.N_drew)); exact HO639.out) hb); have n2_ := Aside0.mk (below_step (by repeat (first | (with_reducible first | exact HB.out | apply below_alloc | apply pw_below_drewN | apply below_drew1) | exact HB.out)) hb); clear HO636; clear HO639; clear HB; have HO636 := n0_; have HO639 := n1_; have HB := n2_; clear n0_ n1_ n2_; (try clear hb); (try clear hb2); (try clear hk); (try clear hi)))
        go_meet
        case rel => exact ⟨_, (true), (by first | rfl | (simp; done) | (simp [*]; done) | (simp [bne_nil_]; done)), H', ⟨by first | omega | exact Nat.le_refl _⟩, ⟨by (with_reducible repeat (first | apply Kd.N_alloc | apply Kd.N_drewN | apply Kd.N_drew)); exact Kd.N_mono HO636.out (fun _ hk => hk.2)⟩, ⟨by (with_reducible repeat (first | apply Kd.N_alloc | apply Kd.N_drewN | apply Kd.N_drew)); exact HO639.out⟩, ⟨by repeat (first | (with_reducible first | exact HB.out | apply below_alloc | apply pw_below_drewN | apply below_drew1) | exact HB.out)⟩⟩
      · rw [if_neg c13] at H
        have c13b0 : decide (a2 < 0) = false := decide_eq_false c13
        clear c13
        (first | rw [c13b0] | (simp only [i64_w, i32_w]; rw [c13b0]) | skip)
        have H' := Aside0.mk H
        clear H
        obtain ⟨Ao17, co17, eo17⟩ := Kd.N_slice HO636.out
        subst eo17
        obtain ⟨Ao18, co18, eo18⟩ := Kd.N_slice HO639.out
        subst eo18
        go_wp2_with (first | ((with_reducible refine gate_callee (f := 22) rfl ?_); refine goesL_ (some 19) rfl rfl Try.func22 (by kernel_rfl) rfl #[.slice Ao17 t634.length co17, .int .i64 8, .slice Ao18 t637.length co18, .slice none 0 0] rfl (by (try simp only [List.map_toArray, List.map_cons, List.map_nil]); first | done | rfl | (simp only [List.length_drop, List.length_take]; rfl)) ?_; (refine (rup_Check.calls _ _ t634 8 _ _ t637 _ _ ([] : List Int) true _ ?side1 ?side2 ?side3 ?side4 ?side5 ?side6 A11.out).mono ?_); (case side1 => repeat (first | exact (Kd.N_reads' HO636.out).2.2 | (with_reducible refine Kd.C_alloc ?_ _) | (with_reducible refine Kd.C_drewN ?_ _) | (with_reducible refine Kd.C_drew ?_))); (case side2 => exact (Kd.N_reads' HO636.out).2.1); (case side3 => repeat (first | exact (Kd.N_reads' HO639.out).2.2 | (with_reducible refine Kd.C_alloc ?_ _) | (with_reducible refine Kd.C_drewN ?_ _) | (with_reducible refine Kd.C_drew ?_))); (case side4 => exact (Kd.N_reads' HO639.out).2.1); (case side5 => exact Kd.C_nil _ _); (case side6 => exact Nat.le_refl _); rintro e w19 ⟨rfl, hb⟩; refine ⟨_, rfl, ?_⟩; have n0_ := Aside0.mk (Kd.N_below (by (with_reducible repeat (first | apply Kd.N_alloc | apply Kd.N_drewN | apply Kd.N_drew)); exact HO636.out) hb); have n1_ := Aside0.mk (Kd.N_below (by (with_reducible repeat (first | apply Kd.N_alloc | apply Kd.N_drewN | apply Kd.N_drew)); exact HO639.out) hb); have n2_ := Aside0.mk (below_step (by repeat (first | (with_reducible first | exact HB.out | apply below_alloc | apply pw_below_drewN | apply below_drew1) | exact HB.out)) hb); clear HO636; clear HO639; clear HB; have HO636 := n0_; have HO639 := n1_; have HB := n2_; clear n0_ n1_ n2_; (try clear hb); (try clear hb2); (try clear hk); (try clear hi)))
        go_meet
        case rel => exact ⟨_, (decide (a2 > (t637.length : Int))), (by first | rfl | (simp; done) | (simp [*]; done) | (simp [bne_nil_]; done)), H', ⟨by first | omega | exact Nat.le_refl _⟩, ⟨by (with_reducible repeat (first | apply Kd.N_alloc | apply Kd.N_drewN | apply Kd.N_drew)); exact Kd.N_mono HO636.out (fun _ hk => hk.2)⟩, ⟨by (with_reducible repeat (first | apply Kd.N_alloc | apply Kd.N_drewN | apply Kd.N_drew)); exact HO639.out⟩, ⟨by repeat (first | (with_reducible first | exact HB.out | apply below_alloc | apply pw_below_drewN | apply below_drew1) | exact HB.out)⟩⟩
    · replace c12 := Bool.eq_false_iff.mpr c12
      subst c12
      have H1 : (proofmarklaw20_RupCuts.j0 k a2 t633 t634 t637 true) = some r := by rw [if_neg (show ¬ (false = true) by decide)] at H; exact H
      clear H
      have H := H1
      clear H1
      have H' := Aside0.mk H
      clear H
      obtain ⟨Ao20, co20, eo20⟩ := Kd.N_slice HO636.out
      subst eo20
      obtain ⟨Ao21, co21, eo21⟩ := Kd.N_slice HO639.out
      subst eo21
      go_wp2_with (first | ((with_reducible refine gate_callee (f := 22) rfl ?_); refine goesL_ (some 19) rfl rfl Try.func22 (by kernel_rfl) rfl #[.slice Ao20 t634.length co20, .int .i64 8, .slice Ao21 t637.length co21, .slice none 0 0] rfl (by (try simp only [List.map_toArray, List.map_cons, List.map_nil]); first | done | rfl | (simp only [List.length_drop, List.length_take]; rfl)) ?_; (refine (rup_Check.calls _ _ t634 8 _ _ t637 _ _ ([] : List Int) false _ ?side1 ?side2 ?side3 ?side4 ?side5 ?side6 A11.out).mono ?_); (case side1 => repeat (first | exact (Kd.N_reads' HO636.out).2.2 | (with_reducible refine Kd.C_alloc ?_ _) | (with_reducible refine Kd.C_drewN ?_ _) | (with_reducible refine Kd.C_drew ?_))); (case side2 => exact (Kd.N_reads' HO636.out).2.1); (case side3 => repeat (first | exact (Kd.N_reads' HO639.out).2.2 | (with_reducible refine Kd.C_alloc ?_ _) | (with_reducible refine Kd.C_drewN ?_ _) | (with_reducible refine Kd.C_drew ?_))); (case side4 => exact (Kd.N_reads' HO639.out).2.1); (case side5 => exact Kd.C_nil _ _); (case side6 => exact Nat.le_refl _); rintro e w22 ⟨rfl, hb⟩; refine ⟨_, rfl, ?_⟩; have n0_ := Aside0.mk (Kd.N_below (by (with_reducible repeat (first | apply Kd.N_alloc | apply Kd.N_drewN | apply Kd.N_drew)); exact HO636.out) hb); have n1_ := Aside0.mk (Kd.N_below (by (with_reducible repeat (first | apply Kd.N_alloc | apply Kd.N_drewN | apply Kd.N_drew)); exact HO639.out) hb); have n2_ := Aside0.mk (below_step (by repeat (first | (with_reducible first | exact HB.out | apply below_alloc | apply pw_below_drewN | apply below_drew1) | exact HB.out)) hb); clear HO636; clear HO639; clear HB; have HO636 := n0_; have HO639 := n1_; have HB := n2_; clear n0_ n1_ n2_; (try clear hb); (try clear hb2); (try clear hk); (try clear hi)))
      go_meet
      case rel => exact ⟨_, (true), (by first | rfl | (simp; done) | (simp [*]; done) | (simp [bne_nil_]; done)), H', ⟨by first | omega | exact Nat.le_refl _⟩, ⟨by (with_reducible repeat (first | apply Kd.N_alloc | apply Kd.N_drewN | apply Kd.N_drew)); exact Kd.N_mono HO636.out (fun _ hk => hk.2)⟩, ⟨by (with_reducible repeat (first | apply Kd.N_alloc | apply Kd.N_drewN | apply Kd.N_drew)); exact HO639.out⟩, ⟨by repeat (first | (with_reducible first | exact HB.out | apply below_alloc | apply pw_below_drewN | apply below_drew1) | exact HB.out)⟩⟩
  case rest =>
    clear HC7
    try clear c1
    try clear c2
    try clear p2
    try clear c6
    try clear c12
    try clear c13
    try clear c13b0
    try clear c17
    try clear c22
    obtain ⟨kq, x30_6, rfl, HA, HJ6, HO_8, HO_9, HB⟩ := hcut
    cases kq with
    | zero => exact absurd HA.out (by simp [proofmarklaw20_RupCuts.j0])
    | succ kj6 =>
      have H := HA.out
      clear HA
      simp only [proofmarklaw20_RupCuts.j0] at H
      by_cases c23 : x30_6 = true
      · subst c23
        have H1 : (some t633) = some r := by rw [if_pos rfl] at H; exact H
        clear H
        have H := H1
        clear H1
        obtain rfl := Option.some.inj H
        go_wp2
        go_ret
        exact ⟨by first | rfl | (simp [errW_none, errW_some] <;> rfl) | (simp [*, errW_none, errW_some] <;> rfl), by repeat (first | (with_reducible first | exact HB.out | apply below_alloc | apply pw_below_drewN | apply below_drew1) | exact HB.out)⟩
      · replace c23 := Bool.eq_false_iff.mpr c23
        subst c23
        have H1 : ((some (([] : List (List Int)) : List (List Int))).bind fun y641 => (if y641.length + t634.length < 5864062014805 then (proofmarklaw20_RupCuts.l0 kj6 a2 t633 t637 (y641 ++ t634) 0) else (none))) = some r := by rw [if_neg (show ¬ (false = true) by decide)] at H; exact H
        clear H
        have H := H1
        clear H1
        obtain ⟨y641, hy641⟩ : ∃ y_ : List (List Int), y_ = (([] : List (List Int))) := ⟨_, rfl⟩
        replace H : (if y641.length + t634.length < 5864062014805 then (proofmarklaw20_RupCuts.l0 kj6 a2 t633 t637 (y641 ++ t634) 0) else (none)) = some r := by first | (rw [hy641]; with_reducible exact H) | (have H2_ := (Option.bind_some _ _).symm.trans H; rw [hy641]; with_reducible exact H2_) | (have H2_ := (Option.bind_some _ _).symm.trans H; with_reducible exact H2_) | with_reducible exact H | (rw [hy641]; exact H) | exact H
        have Ny641 := Aside0.mk hy641
        clear hy641
        by_cases c24 : y641.length + t634.length < 5864062014805
        · rw [if_pos c24] at H
          have LMc24 := Aside0.mk c24
          clear c24
          obtain ⟨y644, hy644⟩ : ∃ y_ : List (List Int), y_ = (y641 ++ t634) := ⟨_, rfl⟩
          replace H : (proofmarklaw20_RupCuts.l0 kj6 a2 t633 t637 y644 0) = some r := by first | (rw [hy644]; with_reducible exact H) | (have H2_ := (Option.bind_some _ _).symm.trans H; rw [hy644]; with_reducible exact H2_) | (have H2_ := (Option.bind_some _ _).symm.trans H; with_reducible exact H2_) | with_reducible exact H | (rw [hy644]; exact H) | exact H
          have Ny644 := Aside0.mk hy644
          clear hy644
          have H' := Aside0.mk H
          clear H
          go_wp2_with (first | ((with_reducible refine gate_dst (N := 32) rfl ?_); (try (refine gate_guard (by rfl) ?_; dsimp only)); refine Kd.N_lit (Kd.slice 3 (Kd.int .i64)) _ 23 ?hg (N' := 32) ?hd (xs := ([] : List (List Int))) (inner := []) (ok := (fun k_ => some k_ ≠ (v635 : Value).ownBlock ∧ some k_ ≠ (v638 : Value).ownBlock)) (okp := (fun k_ => some k_ ≠ (v635 : Value).ownBlock ∧ some k_ ≠ (v638 : Value).ownBlock)) ?hr ?hp (fun _ hk => hk) ((show ∀ k_, wc.heap.size ≤ k_ → (fun k_ => some k_ ≠ (v635 : Value).ownBlock ∧ some k_ ≠ (v638 : Value).ownBlock) k_ from fun k_ hk => ⟨Kd.fresh' (Kd.N_lt (by (with_reducible repeat (first | apply Kd.N_alloc | apply Kd.N_drewN | apply Kd.N_drew)); exact HO_8.out)) k_ hk, Kd.fresh' (Kd.N_lt (by (with_reducible repeat (first | apply Kd.N_alloc | apply Kd.N_drewN | apply Kd.N_drew)); exact HO_9.out)) k_ hk⟩) _ (Nat.le_refl _)) (Below.refl _ _) (Nat.le_refl _) (by simp) ?_; (case hd => rfl); (case hg => rfl); (case hr => first | (go_simp; done) | (go_simp; rfl)); (case hp => exact (Reps.none _ _)); intro v642 w25 ho26 hb hg_ hnew_; clear hg_ hnew_; (first | rw [← Ny641.out] at ho26 | (simp only [Int.reduceToNat] at ho26; rw [← Ny641.out] at ho26)); have n0_ := Aside0.mk (Kd.N_elder' (by (with_reducible repeat (first | apply Kd.N_alloc | apply Kd.N_drewN | apply Kd.N_drew)); exact HO_8.out) (Kd.N_base ho26) hb); have n1_ := Aside0.mk (Kd.N_elder' (by (with_reducible repeat (first | apply Kd.N_alloc | apply Kd.N_drewN | apply Kd.N_drew)); exact HO_9.out) (Kd.N_base ho26) hb); have n2_ := Aside0.mk (Kd.N_lower ho26 (below_size (by repeat (first | (with_reducible first | exact HB.out | apply below_alloc | apply pw_below_drewN | apply below_drew1) | exact HB.out)))); have n3_ := Aside0.mk (below_step (by repeat (first | (with_reducible first | exact HB.out | apply below_alloc | apply pw_below_drewN | apply below_drew1) | exact HB.out)) hb); clear HO_8; clear HO_9; clear HB; have HO_8 := n0_; have HO_9 := n1_; have HO643 := n2_; have HB := n3_; clear n0_ n1_ n2_ n3_; clear hb ho26; obtain ⟨Ao28, co28, eo28⟩ := Kd.N_slice HO_8.out; subst eo28) | ((with_reducible refine gate_builtin (b := .append) (xs := #[.tmp 32, .tmp 33]) rfl ?_); (try (refine gate_guard (by rfl) ?_; dsimp only)); at_builtin; refine Kd.N_append_rows (Kd.slice 3 (Kd.int .i64)) (w0 := w) w.heap.size rfl (.tmp 32) (.tmp 33) 22 23 (.slice none 0 0) 24 rfl Try.underlying22 info23 rfl (by decide) (by omega) v642 y641 t634 _ _ _ (fun k_ => some k_ ≠ (v638 : Value).ownBlock) (fun k_ => ((fun k_ => some k_ ≠ (v638 : Value).ownBlock)) k_ ∧ some k_ ≠ (v642 : Value).ownBlock) rfl rfl ?aO ?aR (fun _ hk => hk) ?aF ?aB ?aS ?aL ?_; (case aR => exact (by skip; exact Kd.N_F (Kd.N_mono (ok' := (fun k_ => ((fun k_ => some k_ ≠ (v638 : Value).ownBlock)) k_ ∧ some k_ ≠ (v642 : Value).ownBlock)) (HO_8.out) (fun k_ hk => ⟨hk.1, hk.2⟩)))); (case aB => exact (by repeat (first | (with_reducible first | exact HB.out | apply below_alloc | apply pw_below_drewN | apply below_drew1) | exact HB.out))); (case aF => exact (fun k_ hk => Kd.fresh' (Kd.N_lt (by (with_reducible repeat (first | apply Kd.N_alloc | apply Kd.N_drewN | apply Kd.N_drew)); exact HO_9.out)) k_ hk)); (case aO => exact (by (with_reducible repeat (first | apply Kd.N_alloc | apply Kd.N_drewN | apply Kd.N_drew)); exact Kd.N_mono HO643.out (fun _ hk => hk.2))); (case aS => exact (below_size (by repeat (first | (with_reducible first | exact HB.out | apply below_alloc | apply pw_below_drewN | apply below_drew1) | exact HB.out)))); (case aL => have := LMc24.out; omega); intro v645 w27 ho hb hg hat; rw [← Ny644.out] at ho; have n0_ := Aside0.mk (Kd.N_afterv (ok := (fun k_ => some k_ ≠ (v638 : Value).ownBlock)) (by (with_reducible repeat (first | apply Kd.N_alloc | apply Kd.N_drewN | apply Kd.N_drew)); exact HO_8.out) hg hat); have n1_ := Aside0.mk (Kd.N_afterv (ok := (fun k_ => some k_ ≠ (.slice Ao28 t634.length co28 : Value).ownBlock)) (by (with_reducible repeat (first | apply Kd.N_alloc | apply Kd.N_drewN | apply Kd.N_drew)); exact HO_9.out) hg hat); have n2_ := Aside0.mk (hb); have n3_ := Aside0.mk (ho); clear HO_8; clear HO_9; clear HB; clear HO643; have HO_8 := n0_; have HO_9 := n1_; have HB := n2_; have HO646 := n3_; clear n0_ n1_ n2_ n3_; clear ho hb hg hat))
          go_loopg [10, 11] kj6 (fun kq v10 v11 w' => ∃ (x10_2 : List (List Int)) (x11_2 : Int), v11 = .int .i64 x11_2 ∧ Aside0 (proofmarklaw20_RupCuts.l0 kq a2 t633 t637 x10_2 x11_2 = some r) ∧ Aside0 (kq ≤ kj6) ∧ Aside0 (Kd.N (Kd.slice 3 (Kd.int .i64)) 23 w' w.heap.size (fun k_ => some k_ ≠ (v10 : Value).ownBlock) v638 t637) ∧ Aside0 (Kd.N (Kd.slice 3 (Kd.int .i64)) 23 w' w.heap.size (fun k_ => some k_ ≠ (v638 : Value).ownBlock) v10 x10_2) ∧ Aside0 (Below w.heap.size w w'))
          case atStart => exact ⟨(y644), (0), (by first | rfl | (simp; done) | (simp [*]; done) | (simp [bne_nil_]; done)), H', ⟨Nat.le_refl _⟩, ⟨by (with_reducible repeat (first | apply Kd.N_alloc | apply Kd.N_drewN | apply Kd.N_drew)); exact Kd.N_mono HO_9.out (fun _ hk => hk.2)⟩, ⟨by (with_reducible repeat (first | apply Kd.N_alloc | apply Kd.N_drewN | apply Kd.N_drew)); exact HO646.out⟩, ⟨by repeat (first | (with_reducible first | exact HB.out | apply below_alloc | apply pw_below_drewN | apply below_drew1) | exact HB.out)⟩⟩
          case round =>
            clear H'
            try clear c1
            try clear c2
            try clear p2
            try clear c6
            try clear c12
            try clear c13
            try clear c13b0
            try clear c17
            try clear c22
            try clear c23
            try clear c24
            try clear p2
            obtain ⟨x10_2, x11_2, rfl, HA, HK2, HO_9, HO_10, HB⟩ := hrel
            cases gk with
            | zero => exact absurd HA.out (by simp [proofmarklaw20_RupCuts.l0])
            | succ k2 =>
              have H := HA.out
              clear HA
              simp only [proofmarklaw20_RupCuts.l0] at H
              by_cases c29 : x11_2 < a2
              · rw [if_pos c29] at H
                have c29b0 : decide (x11_2 < a2) = true := decide_eq_true c29
                clear c29
                by_cases c30 : 0 ≤ x11_2
                · rw [if_pos c30] at H
                  have c30b0 : decide (0 ≤ x11_2) = true := decide_eq_true c30
                  clear c30
                  by_cases c31 : x11_2 < (t637.length : Int)
                  · rw [if_pos c31] at H
                    have c31b0 : decide (x11_2 < (t637.length : Int)) = true := decide_eq_true c31
                    clear c31
                    replace H := Option.bind_eq_some_iff.mp H
                    obtain ⟨t648, A320, H⟩ := H
                    replace H : (if t648 = true then (if x10_2.length < 5864062014805 then (proofmarklaw20_RupCuts.l0 k2 a2 t633 t637 (x10_2 ++ [rd_L1 t637 x11_2]) (wrap64 (x11_2 + 1))) else (none)) else (some false)) = some r := H
                    have A32 := Aside0.mk A320
                    clear A320
                    by_cases c33 : t648 = true
                    · subst c33
                      have H1 : (if x10_2.length < 5864062014805 then (proofmarklaw20_RupCuts.l0 k2 a2 t633 t637 (x10_2 ++ [rd_L1 t637 x11_2]) (wrap64 (x11_2 + 1))) else (none)) = some r := by rw [if_pos rfl] at H; exact H
                      clear H
                      have H := H1
                      clear H1
                      by_cases c34 : x10_2.length < 5864062014805
                      · rw [if_pos c34] at H
                        have LMc34 := Aside0.mk c34
                        clear c34
                        obtain ⟨y650, hy650⟩ : ∃ y_ : List (List Int), y_ = (x10_2 ++ [rd_L1 t637 x11_2]) := ⟨_, rfl⟩
                        replace H : (proofmarklaw20_RupCuts.l0 k2 a2 t633 t637 y650 (wrap64 (x11_2 + 1))) = some r := by first | (rw [hy650]; with_reducible exact H) | (have H2_ := (Option.bind_some _ _).symm.trans H; rw [hy650]; with_reducible exact H2_) | (have H2_ := (Option.bind_some _ _).symm.trans H; with_reducible exact H2_) | with_reducible exact H | (rw [hy650]; exact H) | exact H
                        have Ny650 := Aside0.mk hy650
                        clear hy650
                        have H' := Aside0.mk H
                        clear H
                        obtain ⟨Ao35, co35, eo35⟩ := Kd.N_slice HO_9.out
                        subst eo35
                        have p647 : 0 ≤ (x11_2 : Int) := of_decide_eq_true (by first | (with_reducible assumption) | assumption)
                        have q647 : x11_2 < (t637.length : Int) := of_decide_eq_true (by first | (with_reducible assumption) | assumption)
                        obtain ⟨ad647, A647_0, c647_0, e647, hx647_0, hl647_0, hi647_0⟩ := at_L1 (Kd.N_reads' HO_9.out).2.2 x11_2 p647 q647
                        cases e647
                        obtain ⟨ce647, hce647, hMe647, hcc647⟩ := Kd.N_get HO_9.out [] x11_2 p647 (by first | exact q647 | exact of_decide_eq_true (by first | (with_reducible assumption) | assumption) | (have e_ := (Kd.N_reads' HO_9.out).1; omega))
                        obtain ⟨ua647_0, uc647_0, rfl, ul647_0, ge647_0⟩ := Kd.FK_slice_open hMe647
                        have hv647_0 := hcc647 0 _ rfl
                        rw [Nat.add_zero, show ((Kd.slice 3 (Kd.int .i64))).sz = 1 from rfl, Nat.mul_one] at hv647_0
                        replace hv647_0 := Option.some.inj (hv647_0.symm.trans hx647_0)
                        injection hv647_0 with hva_ hvn_ hvc_
                        rw [hva_] at ge647_0
                        rw [hvc_] at ul647_0
                        have HL647_0 := Aside0.mk (show Kd.V (Kd.int .i64) 3 _ w.heap.size _ _ (rd_L1 t637 x11_2) from Kd.V_mk ul647_0 ge647_0)
                        clear hva_ hvn_ hvc_ ge647_0 ul647_0
                        clear hcc647 hce647
                        have HR647_0 := Aside0.mk hi647_0
                        have HC647_0 := Aside0.mk hl647_0
                        clear hi647_0 hl647_0
                        replace p647 := eq_true p647
                        replace q647 := eq_true q647
                        obtain ⟨Ao36, co36, eo36⟩ := Kd.N_slice HO_10.out
                        subst eo36
                        go_wp2_with (first | ((with_reducible refine gate_callee (f := 20) rfl ?_); refine goesL_ (some 45) rfl rfl Try.func20 (by kernel_rfl) rfl #[.slice Ao36 x10_2.length co36, .int .i64 8, .slice A647_0 (rd_L1 t637 x11_2).length c647_0] rfl (by (try simp only [List.map_toArray, List.map_cons, List.map_nil]); first | done | rfl | (simp only [List.length_drop, List.length_take]; rfl)) ?_; (with_reducible refine (rup_Step.calls _ _ x10_2 8 _ _ (rd_L1 t637 x11_2) true _ ?side1 ?side2 ?side3 ?side4 A32.out).mono ?_); (case side1 => repeat (first | exact (Kd.N_reads' HO_10.out).2.2 | (with_reducible refine Kd.C_alloc ?_ _) | (with_reducible refine Kd.C_drewN ?_ _) | (with_reducible refine Kd.C_drew ?_))); (case side2 => exact (Kd.N_reads' HO_10.out).2.1); (case side3 => repeat (first | exact (by repeat (first | (with_reducible exact HR647_0.out) | (with_reducible refine Kd.C_alloc ?_ _) | (with_reducible refine Kd.C_drewN ?_ _) | (with_reducible refine Kd.C_drew ?_) | exact HR647_0.out)) | (with_reducible refine Kd.C_alloc ?_ _) | (with_reducible refine Kd.C_drewN ?_ _) | (with_reducible refine Kd.C_drew ?_))); (case side4 => exact HC647_0.out); rintro e w37 ⟨rfl, hb⟩; refine ⟨_, rfl, ?_⟩; have n0_ := Aside0.mk (Kd.N_below (by (with_reducible repeat (first | apply Kd.N_alloc | apply Kd.N_drewN | apply Kd.N_drew)); exact HO_9.out) hb); have n1_ := Aside0.mk (Kd.N_below (by (with_reducible repeat (first | apply Kd.N_alloc | apply Kd.N_drewN | apply Kd.N_drew)); exact HO_10.out) hb); have n2_ := Aside0.mk (Kd.V_below (by (with_reducible repeat (first | apply Kd.V_alloc | apply Kd.V_drewN | apply Kd.V_drew)); exact HL647_0.out) hb); have n3_ := Aside0.mk (Kd.C_below (by repeat (first | (with_reducible exact HR647_0.out) | (with_reducible refine Kd.C_alloc ?_ _) | (with_reducible refine Kd.C_drewN ?_ _) | (with_reducible refine Kd.C_drew ?_) | exact HR647_0.out)) hb); have n4_ := Aside0.mk (below_step (by repeat (first | (with_reducible first | exact HB.out | apply below_alloc | apply pw_below_drewN | apply below_drew1) | exact HB.out)) hb); clear HO_9; clear HO_10; clear HL647_0; clear HR647_0; clear HB; have HO_9 := n0_; have HO_10 := n1_; have HL647_0 := n2_; have HR647_0 := n3_; have HB := n4_; clear n0_ n1_ n2_ n3_ n4_; (try clear hb); (try clear hb2); (try clear hk); (try clear hi); have p649 : 0 ≤ (x11_2 : Int) := of_decide_eq_true (by first | (with_reducible assumption) | assumption); have q649 : x11_2 < (t637.length : Int) := of_decide_eq_true (by first | (with_reducible assumption) | assumption); obtain ⟨ad649, A649_0, c649_0, e649, hx649_0, hl649_0, hi649_0⟩ := at_L1 (Kd.N_reads' HO_9.out).2.2 x11_2 p649 q649; obtain rfl : ad647 = ad649 := (by injection e649); obtain ⟨ce649, hce649, hMe649, hcc649⟩ := Kd.N_get HO_9.out [] x11_2 p649 (by first | exact q649 | exact of_decide_eq_true (by first | (with_reducible assumption) | assumption) | (have e_ := (Kd.N_reads' HO_9.out).1; omega)); obtain ⟨ua649_0, uc649_0, rfl, ul649_0, ge649_0⟩ := Kd.FK_slice_open hMe649; have hv649_0 := hcc649 0 _ rfl; rw [Nat.add_zero, show ((Kd.slice 3 (Kd.int .i64))).sz = 1 from rfl, Nat.mul_one] at hv649_0; replace hv649_0 := Option.some.inj (hv649_0.symm.trans hx649_0); injection hv649_0 with hva_ hvn_ hvc_; rw [hva_] at ge649_0; rw [hvc_] at ul649_0; have HL649_0 := Aside0.mk (show Kd.V (Kd.int .i64) 3 _ w.heap.size _ _ (rd_L1 t637 x11_2) from Kd.V_mk ul649_0 ge649_0); clear hva_ hvn_ hvc_ ge649_0 ul649_0; clear hcc649 hce649; have HR649_0 := Aside0.mk hi649_0; have HC649_0 := Aside0.mk hl649_0; clear hi649_0 hl649_0; replace p649 := eq_true p649; replace q649 := eq_true q649) | ((with_reducible refine gate_builtin (b := .append) (xs := #[.tmp 47, .tmp 52]) rfl ?_); (try (refine gate_guard (by rfl) ?_; dsimp only)); at_builtin; refine Kd.N_append (Kd.slice 3 (Kd.int .i64)) (w0 := w) w.heap.size rfl (.tmp 47) (.tmp 52) 22 23 (.slice none 0 0) 24 rfl Try.underlying22 info23 rfl (by decide) (by omega) (.slice Ao36 x10_2.length co36) x10_2 (rd_L1 t637 x11_2) [.slice A649_0 (rd_L1 t637 x11_2).length c649_0] (fun k_ => some k_ ≠ (.slice (some ad647) t637.length co35 : Value).ownBlock) (fun k_ => ((fun k_ => some k_ ≠ (.slice (some ad647) t637.length co35 : Value).ownBlock)) k_ ∧ some k_ ≠ (.slice Ao36 x10_2.length co36 : Value).ownBlock) rfl rfl ?aP (fun _ hk => hk) ?aF ?aO ?aB ?aS ?aL ?_; (case aP => exact (Kd.FK_slice_mk (Kd.V_reads' (Kd.V_mono (ok' := (fun k_ => ((fun k_ => some k_ ≠ (.slice (some ad647) t637.length co35 : Value).ownBlock)) k_ ∧ some k_ ≠ (.slice Ao36 x10_2.length co36 : Value).ownBlock)) (HL649_0.out) (fun k_ hk => ⟨hk.2, hk.1⟩))).2.1 (Kd.V_F (Kd.V_mono (ok' := (fun k_ => ((fun k_ => some k_ ≠ (.slice (some ad647) t637.length co35 : Value).ownBlock)) k_ ∧ some k_ ≠ (.slice Ao36 x10_2.length co36 : Value).ownBlock)) (HL649_0.out) (fun k_ hk => ⟨hk.2, hk.1⟩))))); (case aB => exact (by repeat (first | (with_reducible first | exact HB.out | apply below_alloc | apply pw_below_drewN | apply below_drew1) | exact HB.out))); (case aF => exact (fun k_ hk => Kd.fresh' (Kd.N_lt (by (with_reducible repeat (first | apply Kd.N_alloc | apply Kd.N_drewN | apply Kd.N_drew)); exact HO_9.out)) k_ hk)); (case aO => exact (by (with_reducible repeat (first | apply Kd.N_alloc | apply Kd.N_drewN | apply Kd.N_drew)); exact HO_10.out)); (case aS => exact (below_size (by repeat (first | (with_reducible first | exact HB.out | apply below_alloc | apply pw_below_drewN | apply below_drew1) | exact HB.out)))); (case aL => have := LMc34.out; omega); intro v651 w38 ho hb hg hat; rw [← Ny650.out] at ho; have n0_ := Aside0.mk (Kd.N_afterv (ok := (fun _ => True)) (by (with_reducible repeat (first | apply Kd.N_alloc | apply Kd.N_drewN | apply Kd.N_drew)); exact Kd.N_mono HO_9.out (fun _ hk => ⟨trivial, hk⟩)) hg hat); have n1_ := Aside0.mk (Kd.V_afterv (ok := (fun k_ => some k_ ≠ (.slice (some ad647) t637.length co35 : Value).ownBlock)) (by (with_reducible repeat (first | apply Kd.V_alloc | apply Kd.V_drewN | apply Kd.V_drew)); exact Kd.V_mono HL647_0.out (fun _ hk => ⟨hk.2, hk.1⟩)) hg hat); have n2_ := Aside0.mk (Kd.V_afterv (ok := (fun k_ => some k_ ≠ (.slice (some ad647) t637.length co35 : Value).ownBlock)) (by (with_reducible repeat (first | apply Kd.V_alloc | apply Kd.V_drewN | apply Kd.V_drew)); exact Kd.V_mono HL649_0.out (fun _ hk => ⟨hk.2, hk.1⟩)) hg hat); have n3_ := Aside0.mk (hb); have n4_ := Aside0.mk (ho); clear HO_9; clear HL647_0; clear HL649_0; clear HB; clear HO_10; have HO_9 := n0_; have HL647_0 := n1_; have HL649_0 := n2_; have HB := n3_; have HO652 := n4_; clear n0_ n1_ n2_ n3_ n4_; clear ho hb hg hat))
                        go_roundg k2
                        case measure => have := HJ6.out; have := HK2.out; omega
                        case rel => exact ⟨(y650), (wrap64 (x11_2 + 1)), (by first | rfl | (simp; done) | (simp [*]; done) | (simp [bne_nil_]; done)), H', ⟨by have := HJ6.out; have := HK2.out; omega⟩, ⟨by (with_reducible repeat (first | apply Kd.N_alloc | apply Kd.N_drewN | apply Kd.N_drew)); exact Kd.N_mono HO_9.out (fun _ hk => hk.2)⟩, ⟨by (with_reducible repeat (first | apply Kd.N_alloc | apply Kd.N_drewN | apply Kd.N_drew)); exact HO652.out⟩, ⟨by repeat (first | (with_reducible first | exact HB.out | apply below_alloc | apply pw_below_drewN | apply below_drew1) | exact HB.out)⟩⟩
                      · rw [if_neg c34] at H
                        exact absurd H (by simp)
                    · replace c33 := Bool.eq_false_iff.mpr c33
                      subst c33
                      have H1 : (some false) = some r := by rw [if_neg (show ¬ (false = true) by decide)] at H; exact H
                      clear H
                      have H := H1
                      clear H1
                      obtain rfl := Option.some.inj H
                      obtain ⟨Ao39, co39, eo39⟩ := Kd.N_slice HO_9.out
                      subst eo39
                      have p647 : 0 ≤ (x11_2 : Int) := of_decide_eq_true (by first | (with_reducible assumption) | assumption)
                      have q647 : x11_2 < (t637.length : Int) := of_decide_eq_true (by first | (with_reducible assumption) | assumption)
                      obtain ⟨ad647, A647_0, c647_0, e647, hx647_0, hl647_0, hi647_0⟩ := at_L1 (Kd.N_reads' HO_9.out).2.2 x11_2 p647 q647
                      cases e647
                      obtain ⟨ce647, hce647, hMe647, hcc647⟩ := Kd.N_get HO_9.out [] x11_2 p647 (by first | exact q647 | exact of_decide_eq_true (by first | (with_reducible assumption) | assumption) | (have e_ := (Kd.N_reads' HO_9.out).1; omega))
                      obtain ⟨ua647_0, uc647_0, rfl, ul647_0, ge647_0⟩ := Kd.FK_slice_open hMe647
                      have hv647_0 := hcc647 0 _ rfl
                      rw [Nat.add_zero, show ((Kd.slice 3 (Kd.int .i64))).sz = 1 from rfl, Nat.mul_one] at hv647_0
                      replace hv647_0 := Option.some.inj (hv647_0.symm.trans hx647_0)
                      injection hv647_0 with hva_ hvn_ hvc_
                      rw [hva_] at ge647_0
                      rw [hvc_] at ul647_0
                      have HL647_0 := Aside0.mk (show Kd.V (Kd.int .i64) 3 _ w.heap.size _ _ (rd_L1 t637 x11_2) from Kd.V_mk ul647_0 ge647_0)
                      clear hva_ hvn_ hvc_ ge647_0 ul647_0
                      clear hcc647 hce647
                      have HR647_0 := Aside0.mk hi647_0
                      have HC647_0 := Aside0.mk hl647_0
                      clear hi647_0 hl647_0
                      replace p647 := eq_true p647
                      replace q647 := eq_true q647
                      obtain ⟨Ao40, co40, eo40⟩ := Kd.N_slice HO_10.out
                      subst eo40
                      go_wp2_with (first | ((with_reducible refine gate_callee (f := 20) rfl ?_); refine goesL_ (some 45) rfl rfl Try.func20 (by kernel_rfl) rfl #[.slice Ao40 x10_2.length co40, .int .i64 8, .slice A647_0 (rd_L1 t637 x11_2).length c647_0] rfl (by (try simp only [List.map_toArray, List.map_cons, List.map_nil]); first | done | rfl | (simp only [List.length_drop, List.length_take]; rfl)) ?_; (with_reducible refine (rup_Step.calls _ _ x10_2 8 _ _ (rd_L1 t637 x11_2) false _ ?side1 ?side2 ?side3 ?side4 A32.out).mono ?_); (case side1 => repeat (first | exact (Kd.N_reads' HO_10.out).2.2 | (with_reducible refine Kd.C_alloc ?_ _) | (with_reducible refine Kd.C_drewN ?_ _) | (with_reducible refine Kd.C_drew ?_))); (case side2 => exact (Kd.N_reads' HO_10.out).2.1); (case side3 => repeat (first | exact (by repeat (first | (with_reducible exact HR647_0.out) | (with_reducible refine Kd.C_alloc ?_ _) | (with_reducible refine Kd.C_drewN ?_ _) | (with_reducible refine Kd.C_drew ?_) | exact HR647_0.out)) | (with_reducible refine Kd.C_alloc ?_ _) | (with_reducible refine Kd.C_drewN ?_ _) | (with_reducible refine Kd.C_drew ?_))); (case side4 => exact HC647_0.out); rintro e w41 ⟨rfl, hb⟩; refine ⟨_, rfl, ?_⟩; have n0_ := Aside0.mk (Kd.N_below (by (with_reducible repeat (first | apply Kd.N_alloc | apply Kd.N_drewN | apply Kd.N_drew)); exact HO_9.out) hb); have n1_ := Aside0.mk (Kd.N_below (by (with_reducible repeat (first | apply Kd.N_alloc | apply Kd.N_drewN | apply Kd.N_drew)); exact HO_10.out) hb); have n2_ := Aside0.mk (Kd.V_below (by (with_reducible repeat (first | apply Kd.V_alloc | apply Kd.V_drewN | apply Kd.V_drew)); exact HL647_0.out) hb); have n3_ := Aside0.mk (Kd.C_below (by repeat (first | (with_reducible exact HR647_0.out) | (with_reducible refine Kd.C_alloc ?_ _) | (with_reducible refine Kd.C_drewN ?_ _) | (with_reducible refine Kd.C_drew ?_) | exact HR647_0.out)) hb); have n4_ := Aside0.mk (below_step (by repeat (first | (with_reducible first | exact HB.out | apply below_alloc | apply pw_below_drewN | apply below_drew1) | exact HB.out)) hb); clear HO_9; clear HO_10; clear HL647_0; clear HR647_0; clear HB; have HO_9 := n0_; have HO_10 := n1_; have HL647_0 := n2_; have HR647_0 := n3_; have HB := n4_; clear n0_ n1_ n2_ n3_ n4_; (try clear hb); (try clear hb2); (try clear hk); (try clear hi)))
                      go_ret
                      exact ⟨by first | rfl | (simp [errW_none, errW_some] <;> rfl) | (simp [*, errW_none, errW_some] <;> rfl), by repeat (first | (with_reducible first | exact HB.out | apply below_alloc | apply pw_below_drewN | apply below_drew1) | exact HB.out)⟩
                  · rw [if_neg c31] at H
                    exact absurd H (by simp)
                · rw [if_neg c30] at H
                  exact absurd H (by simp)
              · rw [if_neg c29] at H
                have c29b0 : decide (x11_2 < a2) = false := decide_eq_false c29
                clear c29
                by_cases c42 : t633 = true
                · subst c42
                  have H1 : (if 0 ≤ a2 then (if a2 ≤ (t637.length : Int) then ((rup_Check.f x10_2 8 (t637.drop (a2 : Int).toNat) ([] : List Int)).bind fun t658 => (some t658)) else (none)) else (none)) = some r := by rw [if_pos rfl] at H; exact H
                  clear H
                  have H := H1
                  clear H1
                  by_cases c43 : 0 ≤ a2
                  · rw [if_pos c43] at H
                    have c43b0 := eq_true c43
                    have c43b1 : decide (0 ≤ a2) = true := decide_eq_true c43
                    clear c43
                    by_cases c44 : a2 ≤ (t637.length : Int)
                    · rw [if_pos c44] at H
                      have c44b0 := eq_true c44
                      have c44b1 : decide (a2 ≤ (t637.length : Int)) = true := decide_eq_true c44
                      clear c44
                      obtain ⟨y653, hy653⟩ : ∃ y_ : List (List Int), y_ = (t637.drop (a2 : Int).toNat) := ⟨_, rfl⟩
                      replace H : ((rup_Check.f x10_2 8 y653 ([] : List Int)).bind fun t658 => (some t658)) = some r := by first | (rw [hy653]; with_reducible exact H) | (have H2_ := (Option.bind_some _ _).symm.trans H; rw [hy653]; with_reducible exact H2_) | (have H2_ := (Option.bind_some _ _).symm.trans H; with_reducible exact H2_) | with_reducible exact H | (rw [hy653]; exact H) | exact H
                      have Ny653 := Aside0.mk hy653
                      clear hy653
                      replace H := Option.bind_eq_some_iff.mp H
                      obtain ⟨t658, A450, H⟩ := H
                      replace H : (some t658) = some r := H
                      have A45 := Aside0.mk A450
                      clear A450
                      obtain rfl := Option.some.inj H
                      obtain ⟨Ao47, co47, eo47⟩ := Kd.N_slice HO_9.out
                      subst eo47
                      have q46 : (a2 : Int) ≤ ((t637.length : Int) : Int) := of_decide_eq_true (by first | (with_reducible assumption) | assumption)
                      obtain ⟨i046, hi046, _, hsz46, _⟩ := info_parts info23
                      have hroom46 : t637.length ≤ co47 := (Kd.N_reads' HO_9.out).2.1
                      have hC46 : Kd.F (Kd.slice 3 (Kd.int .i64)) _ _ Ao47 t637.length t637 := (Kd.V_at (base := w.heap.size) (Kd.N_V HO_9.out)).2.2
                      have q046 : (0 : Int) ≤ (a2 : Int) := of_decide_eq_true (by first | (with_reducible assumption) | assumption)
                      have hcut46 := cut_from (P := Try.prog) 22 23 .i64 Try.underlying22 hi046 1 hsz46 Ao47 t637.length co47 a2 q046 q46
                      have hr46 := Kd.F_cut (m := (a2 : Int).toNat) (c := co47) hC46 (by omega) hroom46
                      obtain ⟨A46, hA46⟩ : ∃ A1, A1 = (if co47 = (a2 : Int).toNat then Ao47 else (Ao47 : Option Addr).map (·.add ((a2 : Int).toNat * 1))) := ⟨_, rfl⟩
                      obtain ⟨c46, hc46⟩ : ∃ c1, c1 = co47 - (a2 : Int).toNat := ⟨_, rfl⟩
                      have hy46 : y653.length = t637.length - (a2 : Int).toNat := (by rw [Ny653.out, List.length_drop] <;> omega)
                      rw [show (t637).drop (a2 : Int).toNat = y653 from Ny653.out.symm] at hr46
                      replace hr46 : Kd.F (Kd.slice 3 (Kd.int .i64)) _ _ A46 y653.length y653 := (by rw [hA46]; exact hr46)
                      rw [← hy46, ← hA46, ← hc46] at hcut46
                      have HO657 := Aside0.mk (show Kd.V (Kd.slice 3 (Kd.int .i64)) 23 _ w.heap.size _ (.slice A46 y653.length c46) y653 from Kd.V_mk (by rw [hy46, hc46]; exact Nat.sub_le_sub_right hroom46 _) hr46)
                      have HC657 := Aside0.mk (show y653.length ≤ c46 from by rw [hy46, hc46]; exact Nat.sub_le_sub_right hroom46 _)
                      clear hr46 hC46 hroom46 hi046 hsz46 hc46
                      have KY46 := Aside0.mk hy46
                      have KA46 := Aside0.mk hA46
                      clear hy46 hA46
                      replace q46 := eq_true q46
                      obtain ⟨Ao48, co48, eo48⟩ := Kd.N_slice HO_10.out
                      subst eo48
                      go_wp2_with (first | (go_at_call 22; (refine (rup_Check.calls _ _ x10_2 8 _ _ y653 _ _ ([] : List Int) t658 _ ?side1 ?side2 ?side3 ?side4 ?side5 ?side6 A45.out).mono ?_); (case side1 => repeat (first | exact (Kd.N_reads' HO_10.out).2.2 | (with_reducible refine Kd.C_alloc ?_ _) | (with_reducible refine Kd.C_drewN ?_ _) | (with_reducible refine Kd.C_drew ?_))); (case side2 => exact (Kd.N_reads' HO_10.out).2.1); (case side3 => repeat (first | exact (Kd.V_reads' HO657.out).2.2 | (with_reducible refine Kd.C_alloc ?_ _) | (with_reducible refine Kd.C_drewN ?_ _) | (with_reducible refine Kd.C_drew ?_))); (case side4 => exact (Kd.V_reads' HO657.out).2.1); (case side5 => exact Kd.C_nil _ _); (case side6 => exact Nat.le_refl _); rintro e w49 ⟨rfl, hb⟩; have n0_ := Aside0.mk (Kd.N_below (by (with_reducible repeat (first | apply Kd.N_alloc | apply Kd.N_drewN | apply Kd.N_drew)); exact HO_9.out) hb); have n1_ := Aside0.mk (Kd.N_below (by (with_reducible repeat (first | apply Kd.N_alloc | apply Kd.N_drewN | apply Kd.N_drew)); exact HO_10.out) hb); have n2_ := Aside0.mk (Kd.V_below (by (with_reducible repeat (first | apply Kd.V_alloc | apply Kd.V_drewN | apply Kd.V_drew)); exact HO657.out) hb); have n3_ := Aside0.mk (below_step (by repeat (first | (with_reducible first | exact HB.out | apply below_alloc | apply pw_below_drewN | apply below_drew1) | exact HB.out)) hb); clear HO_9; clear HO_10; clear HO657; clear HB; have HO_9 := n0_; have HO_10 := n1_; have HO657 := n2_; have HB := n3_; clear n0_ n1_ n2_ n3_; (try clear hb); (try clear hb2); (try clear hk); (try clear hi)))
                      go_ret
                      exact ⟨by first | rfl | (simp [errW_none, errW_some] <;> rfl) | (simp [*, errW_none, errW_some] <;> rfl), by repeat (first | (with_reducible first | exact HB.out | apply below_alloc | apply pw_below_drewN | apply below_drew1) | exact HB.out)⟩
                    · rw [if_neg c44] at H
                      exact absurd H (by simp)
                  · rw [if_neg c43] at H
                    exact absurd H (by simp)
                · replace c42 := Bool.eq_false_iff.mpr c42
                  subst c42
                  have H1 : (some false) = some r := by rw [if_neg (show ¬ (false = true) by decide)] at H; exact H
                  clear H
                  have H := H1
                  clear H1
                  obtain rfl := Option.some.inj H
                  go_wp2
                  go_ret
                  exact ⟨by first | rfl | (simp [errW_none, errW_some] <;> rfl) | (simp [*, errW_none, errW_some] <;> rfl), by repeat (first | (with_reducible first | exact HB.out | apply below_alloc | apply pw_below_drewN | apply below_drew1) | exact HB.out)⟩
        · rw [if_neg c24] at H
          exact absurd H (by simp)

end
end Go.Proofs.Ytdlfmobnmcamaaa.Q
