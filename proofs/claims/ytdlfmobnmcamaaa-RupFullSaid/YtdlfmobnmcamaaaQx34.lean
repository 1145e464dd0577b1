/- Written by hyb.py, a program of this session that drives the kit's printer over this seat's translation: each function as a plain Lean function, and a proof that the Go code does what it says. Lean checks it. -/
import Derived.Test.YtdlfmobnmcamaaaQx0
import Derived.Test.YtdlfmobnmcamaaaQx3
import Derived.Test.YtdlfmobnmcamaaaQx9
import Derived.Test.YtdlfmobnmcamaaaQx15
import Derived.Test.YtdlfmobnmcamaaaQx23
import Derived.Test.YtdlfmobnmcamaaaQx24
import Derived.Test.YtdlfmobnmcamaaaQx33
namespace Go.Proofs.Ytdlfmobnmcamaaa.Q
open Go.RowKit Go.Proofs.YtdlfmobnmcamaaaW.PrintWords Go.Proofs.YtdlfmobnmcamaaaW.PrintLast Go.Proofs.YtdlfmobnmcamaaaW.PrintMore
attribute [local go_sem] max2_int min2_int max_two min_two max_three min_three max_four min_four   -- for this text's walks alone
set_option linter.unusedVariables false
set_option linter.unusedSimpArgs false

noncomputable section
/-! ### proofmarklaw20_RupFull: function 16 -/
mutual
def proofmarklaw20_RupFull.l0 : Nat → Int → Bool → List (List Int) → List (List Int) → Int → Option (Bool)
  | 0, _, _, _, _, _ => none
  | k + 1, x1, x5, x6, x7, x8 => if x8 < (x6.length : Int) then (proofmarklaw20_RupFull.l1 k x1 x5 x6 x7 x8 (([] : List Int)) 0) else (proofmarklaw20_RupFull.l2 k x1 x5 x7 false 0)
def proofmarklaw20_RupFull.l1 : Nat → Int → Bool → List (List Int) → List (List Int) → Int → List Int → Int → Option (Bool)
  | 0, _, _, _, _, _, _, _ => none
  | k + 1, x1, x5, x6, x7, x8, x9, x10 => if 0 ≤ x8 then (if x8 < (x6.length : Int) then (if x10 < ((rd_L1 x6 x8).length : Int) then (if 0 ≤ x10 then ((proofmarkref18_Of.f (rd (rd_L1 x6 x8) x10)).bind fun t737 => (if (rd (rd_L1 x6 x8) x10) < 0 then (if x9.length < 17592186044416 then (proofmarklaw20_RupFull.l1 k x1 x5 x6 x7 x8 (x9 ++ [wrap64 (-(wrap64 (1 + (Int.tmod t737 3))))]) (wrap64 (x10 + 1))) else (none)) else (if x9.length < 17592186044416 then (proofmarklaw20_RupFull.l1 k x1 x5 x6 x7 x8 (x9 ++ [wrap64 (1 + (Int.tmod t737 3))]) (wrap64 (x10 + 1))) else (none)))) else (none)) else (if x7.length < 5864062014805 then (proofmarklaw20_RupFull.l0 k x1 x5 x6 (x7 ++ [x9]) (wrap64 (x8 + 1))) else (none))) else (none)) else (none)
def proofmarklaw20_RupFull.l2 : Nat → Int → Bool → List (List Int) → Bool → Int → Option (Bool)
  | 0, _, _, _, _, _ => none
  | k + 1, x1, x5, x7, x12, x13 => if x13 < 8 then (if x12 = true then (proofmarklaw20_RupFull.l2 k x1 x5 x7 true (wrap64 (x13 + 1))) else ((proofmarkref18_Model.f k x13 3).bind fun t749 => ((prop_Met.f x7 t749).bind fun t752 => (proofmarklaw20_RupFull.l2 k x1 x5 x7 t752 (wrap64 (x13 + 1)))))) else (if x1 < 3 then (proofmarklaw20_RupFull.j3 k x5 x7 x12 x1 true) else (proofmarklaw20_RupFull.j3 k x5 x7 x12 x1 (decide (x1 > 1000))))
def proofmarklaw20_RupFull.j3 : Nat → Bool → List (List Int) → Bool → Int → Bool → Option (Bool)
  | 0, _, _, _, _, _ => none
  | k + 1, x5, x7, x12, x14, x80 => if x80 = true then (if x5 = true then ((proofmarkref20_Full.f k 3).bind fun t753 => ((rup_Check.f x7 3 t753 ([] : List Int)).bind fun t756 => (some (t756 == (!x12))))) else (some false)) else (if x5 = true then ((proofmarkref20_Full.f k 3).bind fun t757 => ((rup_Check.f x7 x14 t757 ([] : List Int)).bind fun t760 => (some (t760 == (!x12))))) else (some false))
end
def proofmarklaw20_RupFull.f (k : Nat) (l0 : List (List Int)) (a1 : Int) : Option (Bool) := (proofmarklaw20_head.f).bind fun t724 => ((proofmarkref18_Smalls.f k l0).bind fun t725 => (proofmarklaw20_RupFull.l0 k a1 t724 t725 (([] : List (List Int))) 0))
theorem proofmarklaw20_RupFull.mono_l : ∀ k, (∀ y0 y1 y2 y3 y4, LeO (proofmarklaw20_RupFull.l0 k y0 y1 y2 y3 y4) (proofmarklaw20_RupFull.l0 (k + 1) y0 y1 y2 y3 y4)) ∧ (∀ y0 y1 y2 y3 y4 y5 y6, LeO (proofmarklaw20_RupFull.l1 k y0 y1 y2 y3 y4 y5 y6) (proofmarklaw20_RupFull.l1 (k + 1) y0 y1 y2 y3 y4 y5 y6)) ∧ (∀ y0 y1 y2 y3 y4, LeO (proofmarklaw20_RupFull.l2 k y0 y1 y2 y3 y4) (proofmarklaw20_RupFull.l2 (k + 1) y0 y1 y2 y3 y4)) ∧ (∀ y0 y1 y2 y3 y4, LeO (proofmarklaw20_RupFull.j3 k y0 y1 y2 y3 y4) (proofmarklaw20_RupFull.j3 (k + 1) y0 y1 y2 y3 y4))
  | 0 => ⟨fun _ _ _ _ _ r h => by simp [proofmarklaw20_RupFull.l0] at h, fun _ _ _ _ _ _ _ r h => by simp [proofmarklaw20_RupFull.l1] at h, fun _ _ _ _ _ r h => by simp [proofmarklaw20_RupFull.l2] at h, fun _ _ _ _ _ r h => by simp [proofmarklaw20_RupFull.j3] at h⟩
  | k + 1 => by
    obtain ⟨ih0, ih1, ih2, ih3⟩ := proofmarklaw20_RupFull.mono_l k
    refine ⟨?_, ?_, ?_, ?_⟩
    · intro y0 y1 y2 y3 y4
      unfold proofmarklaw20_RupFull.l0
      repeat' first
      | (with_reducible exact ih0 _ _ _ _ _)
      | (with_reducible exact ih1 _ _ _ _ _ _ _)
      | (with_reducible exact ih2 _ _ _ _ _)
      | (with_reducible exact ih3 _ _ _ _ _)
      | (with_reducible exact proofmarkref18_Model.mono _ _ _)
      | (with_reducible exact proofmarkref18_Smalls.mono _ _)
      | (with_reducible exact proofmarkref20_Full.mono _ _)
      | (with_reducible exact LeO.refl _)
      | (with_reducible exact LeO.none _)
      | (with_reducible refine LeO.ite ?_ ?_)
      | (with_reducible refine LeO.bind ?_ (fun _ => ?_))
      | exact ih0 _ _ _ _ _
      | exact ih1 _ _ _ _ _ _ _
      | exact ih2 _ _ _ _ _
      | exact ih3 _ _ _ _ _
      | exact proofmarkref18_Model.mono _ _ _
      | exact proofmarkref18_Smalls.mono _ _
      | exact proofmarkref20_Full.mono _ _
      | exact LeO.none _
      | refine LeO.ite ?_ ?_
      | refine LeO.bind ?_ (fun _ => ?_)
    · intro y0 y1 y2 y3 y4 y5 y6
      unfold proofmarklaw20_RupFull.l1
      repeat' first
      | (with_reducible exact ih0 _ _ _ _ _)
      | (with_reducible exact ih1 _ _ _ _ _ _ _)
      | (with_reducible exact ih2 _ _ _ _ _)
      | (with_reducible exact ih3 _ _ _ _ _)
      | (with_reducible exact proofmarkref18_Model.mono _ _ _)
      | (with_reducible exact proofmarkref18_Smalls.mono _ _)
      | (with_reducible exact proofmarkref20_Full.mono _ _)
      | (with_reducible exact LeO.refl _)
      | (with_reducible exact LeO.none _)
      | (with_reducible refine LeO.ite ?_ ?_)
      | (with_reducible refine LeO.bind ?_ (fun _ => ?_))
      | exact ih0 _ _ _ _ _
      | exact ih1 _ _ _ _ _ _ _
      | exact ih2 _ _ _ _ _
      | exact ih3 _ _ _ _ _
      | exact proofmarkref18_Model.mono _ _ _
      | exact proofmarkref18_Smalls.mono _ _
      | exact proofmarkref20_Full.mono _ _
      | exact LeO.none _
      | refine LeO.ite ?_ ?_
      | refine LeO.bind ?_ (fun _ => ?_)
    · intro y0 y1 y2 y3 y4
      unfold proofmarklaw20_RupFull.l2
      repeat' first
      | (with_reducible exact ih0 _ _ _ _ _)
      | (with_reducible exact ih1 _ _ _ _ _ _ _)
      | (with_reducible exact ih2 _ _ _ _ _)
      | (with_reducible exact ih3 _ _ _ _ _)
      | (with_reducible exact proofmarkref18_Model.mono _ _ _)
      | (with_reducible exact proofmarkref18_Smalls.mono _ _)
      | (with_reducible exact proofmarkref20_Full.mono _ _)
      | (with_reducible exact LeO.refl _)
      | (with_reducible exact LeO.none _)
      | (with_reducible refine LeO.ite ?_ ?_)
      | (with_reducible refine LeO.bind ?_ (fun _ => ?_))
      | exact ih0 _ _ _ _ _
      | exact ih1 _ _ _ _ _ _ _
      | exact ih2 _ _ _ _ _
      | exact ih3 _ _ _ _ _
      | exact proofmarkref18_Model.mono _ _ _
      | exact proofmarkref18_Smalls.mono _ _
      | exact proofmarkref20_Full.mono _ _
      | exact LeO.none _
      | refine LeO.ite ?_ ?_
      | refine LeO.bind ?_ (fun _ => ?_)
    · intro y0 y1 y2 y3 y4
      unfold proofmarklaw20_RupFull.j3
      repeat' first
      | (with_reducible exact ih0 _ _ _ _ _)
      | (with_reducible exact ih1 _ _ _ _ _ _ _)
      | (with_reducible exact ih2 _ _ _ _ _)
      | (with_reducible exact ih3 _ _ _ _ _)
      | (with_reducible exact proofmarkref18_Model.mono _ _ _)
      | (with_reducible exact proofmarkref18_Smalls.mono _ _)
      | (with_reducible exact proofmarkref20_Full.mono _ _)
      | (with_reducible exact LeO.refl _)
      | (with_reducible exact LeO.none _)
      | (with_reducible refine LeO.ite ?_ ?_)
      | (with_reducible refine LeO.bind ?_ (fun _ => ?_))
      | exact ih0 _ _ _ _ _
      | exact ih1 _ _ _ _ _ _ _
      | exact ih2 _ _ _ _ _
      | exact ih3 _ _ _ _ _
      | exact proofmarkref18_Model.mono _ _ _
      | exact proofmarkref18_Smalls.mono _ _
      | exact proofmarkref20_Full.mono _ _
      | exact LeO.none _
      | refine LeO.ite ?_ ?_
      | refine LeO.bind ?_ (fun _ => ?_)
theorem proofmarklaw20_RupFull.mono : ∀ a0 a1 k, LeO (proofmarklaw20_RupFull.f k a0 a1) (proofmarklaw20_RupFull.f (k + 1) a0 a1) := by
  intro a0 a1 k
  obtain ⟨ih0, ih1, ih2, ih3⟩ := proofmarklaw20_RupFull.mono_l k
  unfold proofmarklaw20_RupFull.f
  repeat' first
      | (with_reducible exact ih0 _ _ _ _ _)
      | (with_reducible exact ih1 _ _ _ _ _ _ _)
      | (with_reducible exact ih2 _ _ _ _ _)
      | (with_reducible exact ih3 _ _ _ _ _)
      | (with_reducible exact proofmarkref18_Model.mono _ _ _)
      | (with_reducible exact proofmarkref18_Smalls.mono _ _)
      | (with_reducible exact proofmarkref20_Full.mono _ _)
      | (with_reducible exact LeO.refl _)
      | (with_reducible exact LeO.none _)
      | (with_reducible refine LeO.ite ?_ ?_)
      | (with_reducible refine LeO.bind ?_ (fun _ => ?_))
      | exact ih0 _ _ _ _ _
      | exact ih1 _ _ _ _ _ _ _
      | exact ih2 _ _ _ _ _
      | exact ih3 _ _ _ _ _
      | exact proofmarkref18_Model.mono _ _ _
      | exact proofmarkref18_Smalls.mono _ _
      | exact proofmarkref20_Full.mono _ _
      | exact LeO.none _
      | refine LeO.ite ?_ ?_
      | refine LeO.bind ?_ (fun _ => ?_)
set_option maxHeartbeats 8000000 in
set_option maxRecDepth 100000 in
theorem proofmarklaw20_RupFull.calls (k : Nat) (A0 : Option Addr) (c0 : Nat) (l0 : List (List Int)) (a1 : Int) (r : Bool) (w : World) (hr0 : Kd.C (Kd.slice 3 (Kd.int .i64)) w A0 l0.length l0) (hc0 : l0.length ≤ c0) (h : proofmarklaw20_RupFull.f k l0 a1 = some r) :
    Calls Try.prog 16 #[.slice A0 l0.length c0, .int .i64 a1] w fun e w' => e = .returned (.bool r) ∧ Below w.heap.size w w' := by
  have HR0 := Aside0.mk hr0
  have HC0 := Aside0.mk hc0
  clear hr0 hc0
  have HB := Aside0.mk (Below.refl w.heap.size w)
  have H : ((proofmarklaw20_head.f).bind fun t724 => ((proofmarkref18_Smalls.f k l0).bind fun t725 => (proofmarklaw20_RupFull.l0 k a1 t724 t725 (([] : List (List Int))) 0))) = some r := h
  clear h
  replace H := Option.bind_eq_some_iff.mp H
  obtain ⟨t724, A30, H⟩ := H
  replace H : ((proofmarkref18_Smalls.f k l0).bind fun t725 => (proofmarklaw20_RupFull.l0 k a1 t724 t725 (([] : List (List Int))) 0)) = some r := H
  have A3 := Aside0.mk A30
  clear A30
  replace H := Option.bind_eq_some_iff.mp H
  obtain ⟨t725, A40, H⟩ := H
  replace H : (proofmarklaw20_RupFull.l0 k a1 t724 t725 (([] : List (List Int))) 0) = some r := H
  have A4 := Aside0.mk A40
  clear A40
  obtain ⟨y728, hy728⟩ : ∃ y_ : List (List Int), y_ = (([] : List (List Int))) := ⟨_, rfl⟩
  replace H : (proofmarklaw20_RupFull.l0 k a1 t724 t725 y728 0) = some r := by first | (rw [hy728]; with_reducible exact H) | (have H2_ := (Option.bind_some _ _).symm.trans H; rw [hy728]; with_reducible exact H2_) | (have H2_ := (Option.bind_some _ _).symm.trans H; with_reducible exact H2_) | with_reducible exact H | (rw [hy728]; exact H) | exact H
  have Ny728 := Aside0.mk hy728
  clear hy728
  have H' := Aside0.mk H
  clear H
  go_enter Try.func16, Try.ntmps16
  go_wp2_with (first | ((with_reducible refine gate_callee (f := 17) rfl ?_); refine goesL_ (some 15) rfl rfl Try.func17 (by kernel_rfl) rfl #[] rfl (by (try simp only [List.map_toArray, List.map_cons, List.map_nil]); first | done | rfl | (simp only [List.length_drop, List.length_take]; rfl)) ?_; (with_reducible refine (proofmarklaw20_head.calls  t724 _ A3.out).mono ?_); rintro e w5 ⟨rfl, hb⟩; refine ⟨_, rfl, ?_⟩; have n0_ := Aside0.mk (below_step (by repeat (first | (with_reducible first | exact HB.out | apply below_alloc | apply pw_below_drewN | apply below_drew1) | exact HB.out)) hb); clear HB; have HB := n0_; clear n0_; (try clear hb); (try clear hb2); (try clear hk); (try clear hi)) | ((with_reducible refine gate_callee (f := 24) rfl ?_); refine goesL_ (some 17) rfl rfl Try.func24 (by kernel_rfl) rfl #[.slice A0 l0.length c0] rfl (by (try simp only [List.map_toArray, List.map_cons, List.map_nil]); first | done | rfl | (simp only [List.length_drop, List.length_take]; rfl)) ?_; (with_reducible refine (proofmarkref18_Smalls.calls k _ _ l0 t725 _ ?side1 ?side2 A4.out).mono ?_); (case side1 => repeat (first | exact (Kd.C_below HR0.out HB.out) | (with_reducible refine Kd.C_alloc ?_ _) | (with_reducible refine Kd.C_drewN ?_ _) | (with_reducible refine Kd.C_drew ?_))); (case side2 => exact HC0.out); rintro e w6 ⟨v726, rfl, ho0, hb⟩; refine ⟨_, rfl, ?_⟩; have n0_ := Aside0.mk (Kd.S_lower ho0 (below_size (by repeat (first | (with_reducible first | exact HB.out | apply below_alloc | apply pw_below_drewN | apply below_drew1) | exact HB.out)))); have n1_ := Aside0.mk (below_step (by repeat (first | (with_reducible first | exact HB.out | apply below_alloc | apply pw_below_drewN | apply below_drew1) | exact HB.out)) hb); clear HB; have HO727 := n0_; have HB := n1_; clear n0_ n1_; (try clear hb); (try clear hb2); (try clear hk); (try clear hi); (try clear ho0)) | ((with_reducible refine gate_dst (N := 18) rfl ?_); refine Kd.S_lit (Kd.slice 3 (Kd.int .i64)) _ 23 ?hg (N := 18) ?hd (xs := ([] : List (List Int))) (inner := []) (ok := fun _ => True) (okp := fun _ => True) ?hr ?hp (fun _ hk => hk) trivial (Below.refl _ _) (Nat.le_refl _) (by simp) ?_; (case hd => rfl); (case hg => rfl); (case hr => first | (go_simp; done) | (go_simp; rfl)); (case hp => exact (Reps.none _ _)); intro v729 w7 ho8 hb hg_ hnew_; clear hg_ hnew_; (first | rw [← Ny728.out] at ho8 | (simp only [Int.reduceToNat] at ho8; rw [← Ny728.out] at ho8)); have n0_ := Aside0.mk (Kd.S_elder' (by (with_reducible repeat (first | apply Kd.S_alloc | apply Kd.S_drewN | apply Kd.S_drew)); exact HO727.out) (Kd.S_base ho8) hb); have n1_ := Aside0.mk (Kd.S_lower (Kd.S_new' ho8 (Kd.S_lt (by (with_reducible repeat (first | apply Kd.S_alloc | apply Kd.S_drewN | apply Kd.S_drew)); exact HO727.out))) (below_size (by repeat (first | (with_reducible first | exact HB.out | apply below_alloc | apply pw_below_drewN | apply below_drew1) | exact HB.out)))); have n2_ := Aside0.mk (below_step (by repeat (first | (with_reducible first | exact HB.out | apply below_alloc | apply pw_below_drewN | apply below_drew1) | exact HB.out)) hb); clear HO727; clear HB; have HO727 := n0_; have HO730 := n1_; have HB := n2_; clear n0_ n1_ n2_; clear hb ho8))
  go_loopg [7, 8] k (fun kq v7 v8 w' => ∃ (x7_1 : List (List Int)) (x8_1 : Int), v8 = .int .i64 x8_1 ∧ Aside0 (proofmarklaw20_RupFull.l0 kq a1 t724 t725 x7_1 x8_1 = some r) ∧ Aside0 (kq ≤ k) ∧ Aside0 (Kd.S (Kd.slice 3 (Kd.int .i64)) 23 w' w.heap.size (fun k_ => some k_ ≠ (v7 : Value).ownBlock) v726 t725) ∧ Aside0 (Kd.S (Kd.slice 3 (Kd.int .i64)) 23 w' w.heap.size (fun k_ => some k_ ≠ (v726 : Value).ownBlock) v7 x7_1) ∧ Aside0 (Below w.heap.size w w'))
  case atStart => exact ⟨(y728), (0), (by first | rfl | (simp; done) | (simp [*]; done) | (simp [bne_nil_]; done)), H', ⟨Nat.le_refl _⟩, ⟨by (with_reducible repeat (first | apply Kd.S_alloc | apply Kd.S_drewN | apply Kd.S_drew)); exact Kd.S_mono HO727.out (fun _ hk => hk.2)⟩, ⟨by (with_reducible repeat (first | apply Kd.S_alloc | apply Kd.S_drewN | apply Kd.S_drew)); exact Kd.S_mono HO730.out (fun _ hk => hk.2)⟩, ⟨by repeat (first | (with_reducible first | exact HB.out | apply below_alloc | apply pw_below_drewN | apply below_drew1) | exact HB.out)⟩⟩
  case round =>
    clear H'
    try clear c1
    try clear c2
    try clear p2
    obtain ⟨x7_1, x8_1, rfl, HA, HK1, HO_6, HO_7, HB⟩ := hrel
    cases gk with
    | zero => exact absurd HA.out (by simp [proofmarklaw20_RupFull.l0])
    | succ k1 =>
      have H := HA.out
      clear HA
      simp only [proofmarklaw20_RupFull.l0] at H
      by_cases c9 : x8_1 < (t725.length : Int)
      · rw [if_pos c9] at H
        have c9b0 : decide (x8_1 < (t725.length : Int)) = true := decide_eq_true c9
        clear c9
        obtain ⟨y731, hy731⟩ : ∃ y_ : List Int, y_ = (([] : List Int)) := ⟨_, rfl⟩
        replace H : (proofmarklaw20_RupFull.l1 k1 a1 t724 t725 x7_1 x8_1 y731 0) = some r := by first | (rw [hy731]; with_reducible exact H) | (have H2_ := (Option.bind_some _ _).symm.trans H; rw [hy731]; with_reducible exact H2_) | (have H2_ := (Option.bind_some _ _).symm.trans H; with_reducible exact H2_) | with_reducible exact H | (rw [hy731]; exact H) | exact H
        have Ny731 := Aside0.mk hy731
        clear hy731
        have H' := Aside0.mk H
        clear H
        obtain ⟨Ao10, co10, eo10⟩ := Kd.S_slice HO_6.out
        subst eo10
        go_wp2_with (first | ((with_reducible refine gate_dst (N := 25) rfl ?_); refine Kd.R_lit (Kd.int .i64) _ 3 ?hg (N := 25) ?hd (xs := ([] : List Int)) (inner := []) (ok := fun _ => True) (okp := fun _ => True) ?hr ?hp (fun _ hk => hk) trivial (Below.refl _ _) (Nat.le_refl _) (by simp) ?_; (case hd => rfl); (case hg => rfl); (case hr => first | (go_simp; done) | (go_simp; rfl)); (case hp => exact (Reps.none _ _)); intro v732 w11 ho12 hb hg_ hnew_; clear hg_ hnew_; (first | rw [← Ny731.out] at ho12 | (simp only [Int.reduceToNat] at ho12; rw [← Ny731.out] at ho12)); have n0_ := Aside0.mk (Kd.S_elder' (by (with_reducible repeat (first | apply Kd.S_alloc | apply Kd.S_drewN | apply Kd.S_drew)); exact HO_6.out) (Kd.R_base ho12) hb); have n1_ := Aside0.mk (Kd.S_elder' (by (with_reducible repeat (first | apply Kd.S_alloc | apply Kd.S_drewN | apply Kd.S_drew)); exact HO_7.out) (Kd.R_base ho12) hb); have n2_ := Aside0.mk (Kd.R_lower ho12 (below_size (by repeat (first | (with_reducible first | exact HB.out | apply below_alloc | apply pw_below_drewN | apply below_drew1) | exact HB.out)))); have n3_ := Aside0.mk (below_step (by repeat (first | (with_reducible first | exact HB.out | apply below_alloc | apply pw_below_drewN | apply below_drew1) | exact HB.out)) hb); clear HO_6; clear HO_7; clear HB; have HO_6 := n0_; have HO_7 := n1_; have HO733 := n2_; have HB := n3_; clear n0_ n1_ n2_ n3_; clear hb ho12))
        go_loopg [9, 10] k1 (fun kq v9 v10 w' => ∃ (x9_2 : List Int) (x10_2 : Int), v10 = .int .i64 x10_2 ∧ Aside0 (proofmarklaw20_RupFull.l1 kq a1 t724 t725 x7_1 x8_1 x9_2 x10_2 = some r) ∧ Aside0 (kq ≤ k1) ∧ Aside0 (Kd.S (Kd.slice 3 (Kd.int .i64)) 23 w' w.heap.size (fun k_ => some k_ ≠ (u7 : Value).ownBlock ∧ some k_ ≠ (v9 : Value).ownBlock) (.slice Ao10 t725.length co10) t725) ∧ Aside0 (Kd.S (Kd.slice 3 (Kd.int .i64)) 23 w' w.heap.size (fun k_ => some k_ ≠ ((.slice Ao10 t725.length co10) : Value).ownBlock ∧ some k_ ≠ (v9 : Value).ownBlock) u7 x7_1) ∧ Aside0 (Kd.R (Kd.int .i64) 3 w' w.heap.size (fun _ => True) v9 x9_2) ∧ Aside0 (Below w.heap.size w w'))
        case atStart => exact ⟨(y731), (0), (by first | rfl | (simp; done) | (simp [*]; done) | (simp [bne_nil_]; done)), H', ⟨Nat.le_refl _⟩, ⟨by (with_reducible repeat (first | apply Kd.S_alloc | apply Kd.S_drewN | apply Kd.S_drew)); exact HO_6.out⟩, ⟨by (with_reducible repeat (first | apply Kd.S_alloc | apply Kd.S_drewN | apply Kd.S_drew)); exact HO_7.out⟩, ⟨by (with_reducible repeat (first | apply Kd.R_alloc | apply Kd.R_drewN | apply Kd.R_drew)); exact HO733.out⟩, ⟨by repeat (first | (with_reducible first | exact HB.out | apply below_alloc | apply pw_below_drewN | apply below_drew1) | exact HB.out)⟩⟩
        case round =>
          clear H'
          try clear c1
          try clear c2
          try clear p2
          try clear c9
          try clear c9b0
          try clear p2
          obtain ⟨x9_2, x10_2, rfl, HA, HK2, HO_6, HO_7, HO_9, HB⟩ := hrel
          cases gk with
          | zero => exact absurd HA.out (by simp [proofmarklaw20_RupFull.l1])
          | succ k2 =>
            have H := HA.out
            clear HA
            simp only [proofmarklaw20_RupFull.l1] at H
            by_cases c13 : 0 ≤ x8_1
            · rw [if_pos c13] at H
              have c13b0 : decide (0 ≤ x8_1) = true := decide_eq_true c13
              clear c13
              by_cases c14 : x8_1 < (t725.length : Int)
              · rw [if_pos c14] at H
                have c14b0 : decide (x8_1 < (t725.length : Int)) = true := decide_eq_true c14
                clear c14
                by_cases c15 : x10_2 < ((rd_L1 t725 x8_1).length : Int)
                · rw [if_pos c15] at H
                  have c15b0 : decide (x10_2 < ((rd_L1 t725 x8_1).length : Int)) = true := decide_eq_true c15
                  clear c15
                  by_cases c16 : 0 ≤ x10_2
                  · rw [if_pos c16] at H
                    have c16b0 : decide (0 ≤ x10_2) = true := decide_eq_true c16
                    clear c16
                    replace H := Option.bind_eq_some_iff.mp H
                    obtain ⟨t737, A170, H⟩ := H
                    replace H : (if (rd (rd_L1 t725 x8_1) x10_2) < 0 then (if x9_2.length < 17592186044416 then (proofmarklaw20_RupFull.l1 k2 a1 t724 t725 x7_1 x8_1 (x9_2 ++ [wrap64 (-(wrap64 (1 + (Int.tmod t737 3))))]) (wrap64 (x10_2 + 1))) else (none)) else (if x9_2.length < 17592186044416 then (proofmarklaw20_RupFull.l1 k2 a1 t724 t725 x7_1 x8_1 (x9_2 ++ [wrap64 (1 + (Int.tmod t737 3))]) (wrap64 (x10_2 + 1))) else (none))) = some r := H
                    have A17 := Aside0.mk A170
                    clear A170
                    by_cases c18 : (rd (rd_L1 t725 x8_1) x10_2) < 0
                    · rw [if_pos c18] at H
                      have c18b0 : decide ((rd (rd_L1 t725 x8_1) x10_2) < 0) = true := decide_eq_true c18
                      clear c18
                      by_cases c19 : x9_2.length < 17592186044416
                      · rw [if_pos c19] at H
                        have LMc19 := Aside0.mk c19
                        clear c19
                        obtain ⟨y740, hy740⟩ : ∃ y_ : List Int, y_ = (x9_2 ++ [wrap64 (-(wrap64 (1 + (Int.tmod t737 3))))]) := ⟨_, rfl⟩
                        replace H : (proofmarklaw20_RupFull.l1 k2 a1 t724 t725 x7_1 x8_1 y740 (wrap64 (x10_2 + 1))) = some r := by first | (rw [hy740]; with_reducible exact H) | (have H2_ := (Option.bind_some _ _).symm.trans H; rw [hy740]; with_reducible exact H2_) | (have H2_ := (Option.bind_some _ _).symm.trans H; with_reducible exact H2_) | with_reducible exact H | (rw [hy740]; exact H) | exact H
                        have Ny740 := Aside0.mk hy740
                        clear hy740
                        have H' := Aside0.mk H
                        clear H
                        have p734 : 0 ≤ (x8_1 : Int) := of_decide_eq_true (by first | (with_reducible assumption) | assumption)
                        have q734 : x8_1 < (t725.length : Int) := of_decide_eq_true (by first | (with_reducible assumption) | assumption)
                        obtain ⟨ad734, A734_0, c734_0, e734, hx734_0, hl734_0, hi734_0⟩ := at_L1 (Kd.S_reads' HO_6.out).2.2 x8_1 p734 q734
                        cases e734
                        obtain ⟨ce734, hce734, hMe734, hcc734⟩ := Kd.S_get HO_6.out [] x8_1 p734 (by first | exact q734 | exact of_decide_eq_true (by first | (with_reducible assumption) | assumption) | (have e_ := (Kd.S_reads' HO_6.out).1; omega))
                        obtain ⟨ve734_0, rfl, ge734_0⟩ := hMe734
                        have hv734_0 := hcc734 0 _ rfl
                        rw [Nat.add_zero, show ((Kd.slice 3 (Kd.int .i64))).sz = 1 from rfl, Nat.mul_one] at hv734_0
                        replace hv734_0 := Option.some.inj (hv734_0.symm.trans hx734_0)
                        rw [hv734_0] at ge734_0
                        have HL734_0 := Aside0.mk (show Kd.R (Kd.int .i64) 3 _ _ _ _ (rd_L1 t725 x8_1) from ge734_0)
                        clear hv734_0 ge734_0
                        clear hcc734 hce734
                        have HR734_0 := Aside0.mk hi734_0
                        have HC734_0 := Aside0.mk hl734_0
                        clear hi734_0 hl734_0
                        replace p734 := eq_true p734
                        replace q734 := eq_true q734
                        have p735 : 0 ≤ (x8_1 : Int) := of_decide_eq_true (by first | (with_reducible assumption) | assumption)
                        have q735 : x8_1 < (t725.length : Int) := of_decide_eq_true (by first | (with_reducible assumption) | assumption)
                        obtain ⟨ad735, A735_0, c735_0, e735, hx735_0, hl735_0, hi735_0⟩ := at_L1 (Kd.S_reads' HO_6.out).2.2 x8_1 p735 q735
                        obtain rfl : ad734 = ad735 := (by injection e735)
                        obtain ⟨ce735, hce735, hMe735, hcc735⟩ := Kd.S_get HO_6.out [] x8_1 p735 (by first | exact q735 | exact of_decide_eq_true (by first | (with_reducible assumption) | assumption) | (have e_ := (Kd.S_reads' HO_6.out).1; omega))
                        obtain ⟨ve735_0, rfl, ge735_0⟩ := hMe735
                        have hv735_0 := hcc735 0 _ rfl
                        rw [Nat.add_zero, show ((Kd.slice 3 (Kd.int .i64))).sz = 1 from rfl, Nat.mul_one] at hv735_0
                        replace hv735_0 := Option.some.inj (hv735_0.symm.trans hx735_0)
                        rw [hv735_0] at ge735_0
                        have HL735_0 := Aside0.mk (show Kd.R (Kd.int .i64) 3 _ _ _ _ (rd_L1 t725 x8_1) from ge735_0)
                        clear hv735_0 ge735_0
                        clear hcc735 hce735
                        have HR735_0 := Aside0.mk hi735_0
                        have HC735_0 := Aside0.mk hl735_0
                        clear hi735_0 hl735_0
                        replace p735 := eq_true p735
                        replace q735 := eq_true q735
                        have ea_ := Option.some.inj (hx734_0.symm.trans hx735_0)
                        injection ea_ with ea_ en_ ec_
                        subst ea_
                        subst ec_
                        clear en_
                        have p736 : 0 ≤ (x10_2 : Int) := of_decide_eq_true (by first | (with_reducible assumption) | assumption)
                        have q736 : x10_2 < ((rd_L1 t725 x8_1).length : Int) := of_decide_eq_true (by first | (with_reducible assumption) | assumption)
                        obtain ⟨ad736, e736, hx736_0⟩ := Kd.at_int (by repeat (first | (with_reducible exact HR735_0.out) | (with_reducible refine Kd.C_alloc ?_ _) | (with_reducible refine Kd.C_drewN ?_ _) | (with_reducible refine Kd.C_drew ?_) | exact HR735_0.out)) x10_2 p736 q736
                        cases e736
                        replace p736 := eq_true p736
                        replace q736 := eq_true q736
                        go_wp2_with (first | ((with_reducible refine gate_callee (f := 41) rfl ?_); refine goesL_ (some 42) rfl rfl Try.func41 (by kernel_rfl) rfl #[.int .i64 (rd (rd_L1 t725 x8_1) x10_2)] rfl (by (try simp only [List.map_toArray, List.map_cons, List.map_nil]); first | done | rfl | (simp only [List.length_drop, List.length_take]; rfl)) ?_; (with_reducible refine (proofmarkref18_Of.calls (rd (rd_L1 t725 x8_1) x10_2) t737 _ A17.out).mono ?_); rintro e w' ⟨rfl, ⟨nd, rfl⟩⟩; refine ⟨_, rfl, ?_⟩; have p738 : 0 ≤ (x8_1 : Int) := of_decide_eq_true (by first | (with_reducible assumption) | assumption); have q738 : x8_1 < (t725.length : Int) := of_decide_eq_true (by first | (with_reducible assumption) | assumption); obtain ⟨ad738, A738_0, c738_0, e738, hx738_0, hl738_0, hi738_0⟩ := at_L1 (Kd.S_reads' HO_6.out).2.2 x8_1 p738 q738; obtain rfl : ad734 = ad738 := (by injection e738); obtain ⟨ce738, hce738, hMe738, hcc738⟩ := Kd.S_get HO_6.out [] x8_1 p738 (by first | exact q738 | exact of_decide_eq_true (by first | (with_reducible assumption) | assumption) | (have e_ := (Kd.S_reads' HO_6.out).1; omega)); obtain ⟨ve738_0, rfl, ge738_0⟩ := hMe738; have hv738_0 := hcc738 0 _ rfl; rw [Nat.add_zero, show ((Kd.slice 3 (Kd.int .i64))).sz = 1 from rfl, Nat.mul_one] at hv738_0; replace hv738_0 := Option.some.inj (hv738_0.symm.trans hx738_0); rw [hv738_0] at ge738_0; have HL738_0 := Aside0.mk (show Kd.R (Kd.int .i64) 3 _ _ _ _ (rd_L1 t725 x8_1) from ge738_0); clear hv738_0 ge738_0; clear hcc738 hce738; have HR738_0 := Aside0.mk hi738_0; have HC738_0 := Aside0.mk hl738_0; clear hi738_0 hl738_0; replace p738 := eq_true p738; replace q738 := eq_true q738; have ea_ := Option.some.inj (hx734_0.symm.trans hx738_0); injection ea_ with ea_ en_ ec_; subst ea_; subst ec_; clear en_; have p739 : 0 ≤ (x10_2 : Int) := of_decide_eq_true (by first | (with_reducible assumption) | assumption); have q739 : x10_2 < ((rd_L1 t725 x8_1).length : Int) := of_decide_eq_true (by first | (with_reducible assumption) | assumption); obtain ⟨ad739, e739, hx739_0⟩ := Kd.at_int (by repeat (first | (with_reducible exact HR738_0.out) | (with_reducible refine Kd.C_alloc ?_ _) | (with_reducible refine Kd.C_drewN ?_ _) | (with_reducible refine Kd.C_drew ?_) | exact HR738_0.out)) x10_2 p739 q739; cases e739; replace p739 := eq_true p739; replace q739 := eq_true q739) | ((with_reducible refine gate_builtin (b := .append) (xs := #[.tmp 55, .tmp 57]) rfl ?_); at_builtin; refine Kd.R_append (Kd.int .i64) (w0 := w) w.heap.size rfl (.tmp 55) (.tmp 57) 23 3 (.int .i64 0) 8 rfl Try.underlying23 info3 rfl (by decide) (by omega) u9 x9_2 (wrap64 (-(wrap64 (1 + (Int.tmod t737 3))))) [.int .i64 (wrap64 (-(wrap64 (1 + (Int.tmod t737 3)))))] (fun _ => True) (fun _ => False) rfl rfl ?aP (fun _ hk => hk.elim) ?aF ?aO ?aB ?aS ?aL ?_; (case aP => exact rfl); (case aB => exact (by repeat (first | (with_reducible first | exact HB.out | apply below_alloc | apply pw_below_drewN | apply below_drew1) | exact HB.out))); (case aF => exact (fun _ _ => trivial)); (case aO => exact (by (with_reducible repeat (first | apply Kd.R_alloc | apply Kd.R_drewN | apply Kd.R_drew)); exact HO_9.out)); (case aS => exact (below_size (by repeat (first | (with_reducible first | exact HB.out | apply below_alloc | apply pw_below_drewN | apply below_drew1) | exact HB.out)))); (case aL => have := LMc19.out; omega); intro v741 w20 ho hb hg hat; rw [← Ny740.out] at ho; have n0_ := Aside0.mk (Kd.S_after (ok := (fun k_ => some k_ ≠ (u7 : Value).ownBlock)) (by (with_reducible repeat (first | apply Kd.S_alloc | apply Kd.S_drewN | apply Kd.S_drew)); exact HO_6.out) hg hat); have n1_ := Aside0.mk (Kd.S_after (ok := (fun k_ => some k_ ≠ (.slice (some ad734) t725.length co10 : Value).ownBlock)) (by (with_reducible repeat (first | apply Kd.S_alloc | apply Kd.S_drewN | apply Kd.S_drew)); exact HO_7.out) hg hat); have n2_ := Aside0.mk (Kd.R_after (ok := (fun k_ => some k_ ≠ (.slice (some ad734) t725.length co10 : Value).ownBlock ∧ some k_ ≠ (u7 : Value).ownBlock)) (by (with_reducible repeat (first | apply Kd.R_alloc | apply Kd.R_drewN | apply Kd.R_drew)); exact Kd.R_mono HL734_0.out (fun _ hk => ⟨⟨hk.2, hk.1.1⟩, hk.1.2⟩)) hg hat); have n3_ := Aside0.mk (Kd.R_after (ok := (fun k_ => some k_ ≠ (.slice (some ad734) t725.length co10 : Value).ownBlock ∧ some k_ ≠ (u7 : Value).ownBlock)) (by (with_reducible repeat (first | apply Kd.R_alloc | apply Kd.R_drewN | apply Kd.R_drew)); exact Kd.R_mono HL735_0.out (fun _ hk => ⟨⟨hk.2, hk.1.1⟩, hk.1.2⟩)) hg hat); have n4_ := Aside0.mk (Kd.R_after (ok := (fun k_ => some k_ ≠ (.slice (some ad734) t725.length co10 : Value).ownBlock ∧ some k_ ≠ (u7 : Value).ownBlock)) (by (with_reducible repeat (first | apply Kd.R_alloc | apply Kd.R_drewN | apply Kd.R_drew)); exact Kd.R_mono HL738_0.out (fun _ hk => ⟨⟨hk.2, hk.1.1⟩, hk.1.2⟩)) hg hat); have n5_ := Aside0.mk (hb); have n6_ := Aside0.mk (ho); clear HO_6; clear HO_7; clear HL734_0; clear HL735_0; clear HL738_0; clear HB; clear HO_9; have HO_6 := n0_; have HO_7 := n1_; have HL734_0 := n2_; have HL735_0 := n3_; have HL738_0 := n4_; have HB := n5_; have HO742 := n6_; clear n0_ n1_ n2_ n3_ n4_ n5_ n6_; clear ho hb hg hat))
                        go_roundg k2
                        case measure => have := HK1.out; have := HK2.out; omega
                        case rel => exact ⟨(y740), (wrap64 (x10_2 + 1)), (by first | rfl | (simp; done) | (simp [*]; done) | (simp [bne_nil_]; done)), H', ⟨by have := HK1.out; have := HK2.out; omega⟩, ⟨by (with_reducible repeat (first | apply Kd.S_alloc | apply Kd.S_drewN | apply Kd.S_drew)); exact HO_6.out⟩, ⟨by (with_reducible repeat (first | apply Kd.S_alloc | apply Kd.S_drewN | apply Kd.S_drew)); exact HO_7.out⟩, ⟨by (with_reducible repeat (first | apply Kd.R_alloc | apply Kd.R_drewN | apply Kd.R_drew)); exact HO742.out⟩, ⟨by repeat (first | (with_reducible first | exact HB.out | apply below_alloc | apply pw_below_drewN | apply below_drew1) | exact HB.out)⟩⟩
                      · rw [if_neg c19] at H
                        exact absurd H (by simp)
                    · rw [if_neg c18] at H
                      have c18b0 : decide ((rd (rd_L1 t725 x8_1) x10_2) < 0) = false := decide_eq_false c18
                      clear c18
                      by_cases c21 : x9_2.length < 17592186044416
                      · rw [if_pos c21] at H
                        have LMc21 := Aside0.mk c21
                        clear c21
                        obtain ⟨y743, hy743⟩ : ∃ y_ : List Int, y_ = (x9_2 ++ [wrap64 (1 + (Int.tmod t737 3))]) := ⟨_, rfl⟩
                        replace H : (proofmarklaw20_RupFull.l1 k2 a1 t724 t725 x7_1 x8_1 y743 (wrap64 (x10_2 + 1))) = some r := by first | (rw [hy743]; with_reducible exact H) | (have H2_ := (Option.bind_some _ _).symm.trans H; rw [hy743]; with_reducible exact H2_) | (have H2_ := (Option.bind_some _ _).symm.trans H; with_reducible exact H2_) | with_reducible exact H | (rw [hy743]; exact H) | exact H
                        have Ny743 := Aside0.mk hy743
                        clear hy743
                        have H' := Aside0.mk H
                        clear H
                        have p734 : 0 ≤ (x8_1 : Int) := of_decide_eq_true (by first | (with_reducible assumption) | assumption)
                        have q734 : x8_1 < (t725.length : Int) := of_decide_eq_true (by first | (with_reducible assumption) | assumption)
                        obtain ⟨ad734, A734_0, c734_0, e734, hx734_0, hl734_0, hi734_0⟩ := at_L1 (Kd.S_reads' HO_6.out).2.2 x8_1 p734 q734
                        cases e734
                        obtain ⟨ce734, hce734, hMe734, hcc734⟩ := Kd.S_get HO_6.out [] x8_1 p734 (by first | exact q734 | exact of_decide_eq_true (by first | (with_reducible assumption) | assumption) | (have e_ := (Kd.S_reads' HO_6.out).1; omega))
                        obtain ⟨ve734_0, rfl, ge734_0⟩ := hMe734
                        have hv734_0 := hcc734 0 _ rfl
                        rw [Nat.add_zero, show ((Kd.slice 3 (Kd.int .i64))).sz = 1 from rfl, Nat.mul_one] at hv734_0
                        replace hv734_0 := Option.some.inj (hv734_0.symm.trans hx734_0)
                        rw [hv734_0] at ge734_0
                        have HL734_0 := Aside0.mk (show Kd.R (Kd.int .i64) 3 _ _ _ _ (rd_L1 t725 x8_1) from ge734_0)
                        clear hv734_0 ge734_0
                        clear hcc734 hce734
                        have HR734_0 := Aside0.mk hi734_0
                        have HC734_0 := Aside0.mk hl734_0
                        clear hi734_0 hl734_0
                        replace p734 := eq_true p734
                        replace q734 := eq_true q734
                        have p735 : 0 ≤ (x8_1 : Int) := of_decide_eq_true (by first | (with_reducible assumption) | assumption)
                        have q735 : x8_1 < (t725.length : Int) := of_decide_eq_true (by first | (with_reducible assumption) | assumption)
                        obtain ⟨ad735, A735_0, c735_0, e735, hx735_0, hl735_0, hi735_0⟩ := at_L1 (Kd.S_reads' HO_6.out).2.2 x8_1 p735 q735
                        obtain rfl : ad734 = ad735 := (by injection e735)
                        obtain ⟨ce735, hce735, hMe735, hcc735⟩ := Kd.S_get HO_6.out [] x8_1 p735 (by first | exact q735 | exact of_decide_eq_true (by first | (with_reducible assumption) | assumption) | (have e_ := (Kd.S_reads' HO_6.out).1; omega))
                        obtain ⟨ve735_0, rfl, ge735_0⟩ := hMe735
                        have hv735_0 := hcc735 0 _ rfl
                        rw [Nat.add_zero, show ((Kd.slice 3 (Kd.int .i64))).sz = 1 from rfl, Nat.mul_one] at hv735_0
                        replace hv735_0 := Option.some.inj (hv735_0.symm.trans hx735_0)
                        rw [hv735_0] at ge735_0
                        have HL735_0 := Aside0.mk (show Kd.R (Kd.int .i64) 3 _ _ _ _ (rd_L1 t725 x8_1) from ge735_0)
                        clear hv735_0 ge735_0
                        clear hcc735 hce735
                        have HR735_0 := Aside0.mk hi735_0
                        have HC735_0 := Aside0.mk hl735_0
                        clear hi735_0 hl735_0
                        replace p735 := eq_true p735
                        replace q735 := eq_true q735
                        have ea_ := Option.some.inj (hx734_0.symm.trans hx735_0)
                        injection ea_ with ea_ en_ ec_
                        subst ea_
                        subst ec_
                        clear en_
                        have p736 : 0 ≤ (x10_2 : Int) := of_decide_eq_true (by first | (with_reducible assumption) | assumption)
                        have q736 : x10_2 < ((rd_L1 t725 x8_1).length : Int) := of_decide_eq_true (by first | (with_reducible assumption) | assumption)
                        obtain ⟨ad736, e736, hx736_0⟩ := Kd.at_int (by repeat (first | (with_reducible exact HR735_0.out) | (with_reducible refine Kd.C_alloc ?_ _) | (with_reducible refine Kd.C_drewN ?_ _) | (with_reducible refine Kd.C_drew ?_) | exact HR735_0.out)) x10_2 p736 q736
                        cases e736
                        replace p736 := eq_true p736
                        replace q736 := eq_true q736
                        go_wp2_with (first | ((with_reducible refine gate_callee (f := 41) rfl ?_); refine goesL_ (some 42) rfl rfl Try.func41 (by kernel_rfl) rfl #[.int .i64 (rd (rd_L1 t725 x8_1) x10_2)] rfl (by (try simp only [List.map_toArray, List.map_cons, List.map_nil]); first | done | rfl | (simp only [List.length_drop, List.length_take]; rfl)) ?_; (with_reducible refine (proofmarkref18_Of.calls (rd (rd_L1 t725 x8_1) x10_2) t737 _ A17.out).mono ?_); rintro e w' ⟨rfl, ⟨nd, rfl⟩⟩; refine ⟨_, rfl, ?_⟩; have p738 : 0 ≤ (x8_1 : Int) := of_decide_eq_true (by first | (with_reducible assumption) | assumption); have q738 : x8_1 < (t725.length : Int) := of_decide_eq_true (by first | (with_reducible assumption) | assumption); obtain ⟨ad738, A738_0, c738_0, e738, hx738_0, hl738_0, hi738_0⟩ := at_L1 (Kd.S_reads' HO_6.out).2.2 x8_1 p738 q738; obtain rfl : ad734 = ad738 := (by injection e738); obtain ⟨ce738, hce738, hMe738, hcc738⟩ := Kd.S_get HO_6.out [] x8_1 p738 (by first | exact q738 | exact of_decide_eq_true (by first | (with_reducible assumption) | assumption) | (have e_ := (Kd.S_reads' HO_6.out).1; omega)); obtain ⟨ve738_0, rfl, ge738_0⟩ := hMe738; have hv738_0 := hcc738 0 _ rfl; rw [Nat.add_zero, show ((Kd.slice 3 (Kd.int .i64))).sz = 1 from rfl, Nat.mul_one] at hv738_0; replace hv738_0 := Option.some.inj (hv738_0.symm.trans hx738_0); rw [hv738_0] at ge738_0; have HL738_0 := Aside0.mk (show Kd.R (Kd.int .i64) 3 _ _ _ _ (rd_L1 t725 x8_1) from ge738_0); clear hv738_0 ge738_0; clear hcc738 hce738; have HR738_0 := Aside0.mk hi738_0; have HC738_0 := Aside0.mk hl738_0; clear hi738_0 hl738_0; replace p738 := eq_true p738; replace q738 := eq_true q738; have ea_ := Option.some.inj (hx734_0.symm.trans hx738_0); injection ea_ with ea_ en_ ec_; subst ea_; subst ec_; clear en_; have p739 : 0 ≤ (x10_2 : Int) := of_decide_eq_true (by first | (with_reducible assumption) | assumption); have q739 : x10_2 < ((rd_L1 t725 x8_1).length : Int) := of_decide_eq_true (by first | (with_reducible assumption) | assumption); obtain ⟨ad739, e739, hx739_0⟩ := Kd.at_int (by repeat (first | (with_reducible exact HR738_0.out) | (with_reducible refine Kd.C_alloc ?_ _) | (with_reducible refine Kd.C_drewN ?_ _) | (with_reducible refine Kd.C_drew ?_) | exact HR738_0.out)) x10_2 p739 q739; cases e739; replace p739 := eq_true p739; replace q739 := eq_true q739) | ((with_reducible refine gate_builtin (b := .append) (xs := #[.tmp 55, .tmp 57]) rfl ?_); at_builtin; refine Kd.R_append (Kd.int .i64) (w0 := w) w.heap.size rfl (.tmp 55) (.tmp 57) 23 3 (.int .i64 0) 8 rfl Try.underlying23 info3 rfl (by decide) (by omega) u9 x9_2 (wrap64 (1 + (Int.tmod t737 3))) [.int .i64 (wrap64 (1 + (Int.tmod t737 3)))] (fun _ => True) (fun _ => False) rfl rfl ?aP (fun _ hk => hk.elim) ?aF ?aO ?aB ?aS ?aL ?_; (case aP => exact rfl); (case aB => exact (by repeat (first | (with_reducible first | exact HB.out | apply below_alloc | apply pw_below_drewN | apply below_drew1) | exact HB.out))); (case aF => exact (fun _ _ => trivial)); (case aO => exact (by (with_reducible repeat (first | apply Kd.R_alloc | apply Kd.R_drewN | apply Kd.R_drew)); exact HO_9.out)); (case aS => exact (below_size (by repeat (first | (with_reducible first | exact HB.out | apply below_alloc | apply pw_below_drewN | apply below_drew1) | exact HB.out)))); (case aL => have := LMc21.out; omega); intro v744 w22 ho hb hg hat; rw [← Ny743.out] at ho; have n0_ := Aside0.mk (Kd.S_after (ok := (fun k_ => some k_ ≠ (u7 : Value).ownBlock)) (by (with_reducible repeat (first | apply Kd.S_alloc | apply Kd.S_drewN | apply Kd.S_drew)); exact HO_6.out) hg hat); have n1_ := Aside0.mk (Kd.S_after (ok := (fun k_ => some k_ ≠ (.slice (some ad734) t725.length co10 : Value).ownBlock)) (by (with_reducible repeat (first | apply Kd.S_alloc | apply Kd.S_drewN | apply Kd.S_drew)); exact HO_7.out) hg hat); have n2_ := Aside0.mk (Kd.R_after (ok := (fun k_ => some k_ ≠ (.slice (some ad734) t725.length co10 : Value).ownBlock ∧ some k_ ≠ (u7 : Value).ownBlock)) (by (with_reducible repeat (first | apply Kd.R_alloc | apply Kd.R_drewN | apply Kd.R_drew)); exact Kd.R_mono HL734_0.out (fun _ hk => ⟨⟨hk.2, hk.1.1⟩, hk.1.2⟩)) hg hat); have n3_ := Aside0.mk (Kd.R_after (ok := (fun k_ => some k_ ≠ (.slice (some ad734) t725.length co10 : Value).ownBlock ∧ some k_ ≠ (u7 : Value).ownBlock)) (by (with_reducible repeat (first | apply Kd.R_alloc | apply Kd.R_drewN | apply Kd.R_drew)); exact Kd.R_mono HL735_0.out (fun _ hk => ⟨⟨hk.2, hk.1.1⟩, hk.1.2⟩)) hg hat); have n4_ := Aside0.mk (Kd.R_after (ok := (fun k_ => some k_ ≠ (.slice (some ad734) t725.length co10 : Value).ownBlock ∧ some k_ ≠ (u7 : Value).ownBlock)) (by (with_reducible repeat (first | apply Kd.R_alloc | apply Kd.R_drewN | apply Kd.R_drew)); exact Kd.R_mono HL738_0.out (fun _ hk => ⟨⟨hk.2, hk.1.1⟩, hk.1.2⟩)) hg hat); have n5_ := Aside0.mk (hb); have n6_ := Aside0.mk (ho); clear HO_6; clear HO_7; clear HL734_0; clear HL735_0; clear HL738_0; clear HB; clear HO_9; have HO_6 := n0_; have HO_7 := n1_; have HL734_0 := n2_; have HL735_0 := n3_; have HL738_0 := n4_; have HB := n5_; have HO745 := n6_; clear n0_ n1_ n2_ n3_ n4_ n5_ n6_; clear ho hb hg hat))
                        go_roundg k2
                        case measure => have := HK1.out; have := HK2.out; omega
                        case rel => exact ⟨(y743), (wrap64 (x10_2 + 1)), (by first | rfl | (simp; done) | (simp [*]; done) | (simp [bne_nil_]; done)), H', ⟨by have := HK1.out; have := HK2.out; omega⟩, ⟨by (with_reducible repeat (first | apply Kd.S_alloc | apply Kd.S_drewN | apply Kd.S_drew)); exact HO_6.out⟩, ⟨by (with_reducible repeat (first | apply Kd.S_alloc | apply Kd.S_drewN | apply Kd.S_drew)); exact HO_7.out⟩, ⟨by (with_reducible repeat (first | apply Kd.R_alloc | apply Kd.R_drewN | apply Kd.R_drew)); exact HO745.out⟩, ⟨by repeat (first | (with_reducible first | exact HB.out | apply below_alloc | apply pw_below_drewN | apply below_drew1) | exact HB.out)⟩⟩
                      · rw [if_neg c21] at H
                        exact absurd H (by simp)
                  · rw [if_neg c16] at H
                    exact absurd H (by simp)
                · rw [if_neg c15] at H
                  have c15b0 : decide (x10_2 < ((rd_L1 t725 x8_1).length : Int)) = false := decide_eq_false c15
                  clear c15
                  by_cases c23 : x7_1.length < 5864062014805
                  · rw [if_pos c23] at H
                    have LMc23 := Aside0.mk c23
                    clear c23
                    obtain ⟨y746, hy746⟩ : ∃ y_ : List (List Int), y_ = (x7_1 ++ [x9_2]) := ⟨_, rfl⟩
                    replace H : (proofmarklaw20_RupFull.l0 k2 a1 t724 t725 y746 (wrap64 (x8_1 + 1))) = some r := by first | (rw [hy746]; with_reducible exact H) | (have H2_ := (Option.bind_some _ _).symm.trans H; rw [hy746]; with_reducible exact H2_) | (have H2_ := (Option.bind_some _ _).symm.trans H; with_reducible exact H2_) | with_reducible exact H | (rw [hy746]; exact H) | exact H
                    have Ny746 := Aside0.mk hy746
                    clear hy746
                    have H' := Aside0.mk H
                    clear H
                    have p734 : 0 ≤ (x8_1 : Int) := of_decide_eq_true (by first | (with_reducible assumption) | assumption)
                    have q734 : x8_1 < (t725.length : Int) := of_decide_eq_true (by first | (with_reducible assumption) | assumption)
                    obtain ⟨ad734, A734_0, c734_0, e734, hx734_0, hl734_0, hi734_0⟩ := at_L1 (Kd.S_reads' HO_6.out).2.2 x8_1 p734 q734
                    cases e734
                    obtain ⟨ce734, hce734, hMe734, hcc734⟩ := Kd.S_get HO_6.out [] x8_1 p734 (by first | exact q734 | exact of_decide_eq_true (by first | (with_reducible assumption) | assumption) | (have e_ := (Kd.S_reads' HO_6.out).1; omega))
                    obtain ⟨ve734_0, rfl, ge734_0⟩ := hMe734
                    have hv734_0 := hcc734 0 _ rfl
                    rw [Nat.add_zero, show ((Kd.slice 3 (Kd.int .i64))).sz = 1 from rfl, Nat.mul_one] at hv734_0
                    replace hv734_0 := Option.some.inj (hv734_0.symm.trans hx734_0)
                    rw [hv734_0] at ge734_0
                    have HL734_0 := Aside0.mk (show Kd.R (Kd.int .i64) 3 _ _ _ _ (rd_L1 t725 x8_1) from ge734_0)
                    clear hv734_0 ge734_0
                    clear hcc734 hce734
                    have HR734_0 := Aside0.mk hi734_0
                    have HC734_0 := Aside0.mk hl734_0
                    clear hi734_0 hl734_0
                    replace p734 := eq_true p734
                    replace q734 := eq_true q734
                    obtain ⟨Ao25, co25, eo25⟩ := Kd.R_slice HO_9.out
                    subst eo25
                    go_wp2_with (first | ((with_reducible refine gate_builtin (b := .append) (xs := #[.tmp 59, .tmp 61]) rfl ?_); at_builtin; refine Kd.S_append (Kd.slice 3 (Kd.int .i64)) (w0 := w) w.heap.size rfl (.tmp 59) (.tmp 61) 22 23 (.slice none 0 0) 24 rfl Try.underlying22 info23 rfl (by decide) (by omega) u7 x7_1 x9_2 [.slice Ao25 x9_2.length co25] (fun k_ => some k_ ≠ (.slice (some ad734) t725.length co10 : Value).ownBlock) (fun k_ => some k_ = (.slice Ao25 x9_2.length co25 : Value).ownBlock) rfl rfl ?aP (fun k_ hk_ => ((Kd.R_mono (ok' := fun k_ => ((fun k_ => some k_ ≠ (.slice (some ad734) t725.length co10 : Value).ownBlock)) k_ ∧ some k_ ≠ (u7 : Value).ownBlock) (Kd.R_apart' (Kd.R_apart' (HO_9.out) (Kd.S_typed HO_6.out) (by decide)) (Kd.S_typed HO_7.out) (by decide)) (fun k_ hk => ⟨hk.1.2, hk.2⟩))).1 k_ hk_.symm) ?aF ?aO ?aB ?aS ?aL ?_; (case aP => exact Kd.M_row (Kd.R_mono (Kd.R_tight rfl (Kd.R_mono (ok' := fun k_ => ((fun k_ => some k_ ≠ (.slice (some ad734) t725.length co10 : Value).ownBlock)) k_ ∧ some k_ ≠ (u7 : Value).ownBlock) (Kd.R_apart' (Kd.R_apart' (HO_9.out) (Kd.S_typed HO_6.out) (by decide)) (Kd.S_typed HO_7.out) (by decide)) (fun k_ hk => ⟨hk.1.2, hk.2⟩))) (fun _ h_ => h_))); (case aB => exact (by repeat (first | (with_reducible first | exact HB.out | apply below_alloc | apply pw_below_drewN | apply below_drew1) | exact HB.out))); (case aF => exact (fun k_ hk => Kd.fresh' (Kd.S_lt (by (with_reducible repeat (first | apply Kd.S_alloc | apply Kd.S_drewN | apply Kd.S_drew)); exact HO_6.out)) k_ hk)); (case aO => exact (by (with_reducible repeat (first | apply Kd.S_alloc | apply Kd.S_drewN | apply Kd.S_drew)); exact Kd.S_mono HO_7.out (fun k_ hk => ⟨hk.1, fun e_ => hk.2 e_⟩))); (case aS => exact (below_size (by repeat (first | (with_reducible first | exact HB.out | apply below_alloc | apply pw_below_drewN | apply below_drew1) | exact HB.out)))); (case aL => have := LMc23.out; omega); intro v747 w24 ho hb hg hat; rw [← Ny746.out] at ho; have n0_ := Aside0.mk (Kd.S_after (ok := (fun k_ => some k_ ≠ (.slice Ao25 x9_2.length co25 : Value).ownBlock)) (by (with_reducible repeat (first | apply Kd.S_alloc | apply Kd.S_drewN | apply Kd.S_drew)); exact Kd.S_mono HO_6.out (fun _ hk => ⟨hk.2, hk.1⟩)) hg hat); have n1_ := Aside0.mk (Kd.R_after (ok := (fun k_ => some k_ ≠ (.slice (some ad734) t725.length co10 : Value).ownBlock ∧ some k_ ≠ (.slice Ao25 x9_2.length co25 : Value).ownBlock)) (by (with_reducible repeat (first | apply Kd.R_alloc | apply Kd.R_drewN | apply Kd.R_drew)); exact Kd.R_mono HL734_0.out (fun _ hk => ⟨⟨hk.2, hk.1.2⟩, hk.1.1⟩)) hg hat); have n2_ := Aside0.mk (hb); have n3_ := Aside0.mk (ho); clear HO_6; clear HL734_0; clear HB; clear HO_7; clear HO_9; have HO_6 := n0_; have HL734_0 := n1_; have HB := n2_; have HO748 := n3_; clear n0_ n1_ n2_ n3_; clear ho hb hg hat))
                    go_roundg k2
                    case measure => have := HK1.out; have := HK2.out; omega
                    case rel => exact ⟨(y746), (wrap64 (x8_1 + 1)), (by first | rfl | (simp; done) | (simp [*]; done) | (simp [bne_nil_]; done)), H', ⟨by have := HK1.out; have := HK2.out; omega⟩, ⟨by (with_reducible repeat (first | apply Kd.S_alloc | apply Kd.S_drewN | apply Kd.S_drew)); exact Kd.S_mono HO_6.out (fun _ hk => hk.2)⟩, ⟨by (with_reducible repeat (first | apply Kd.S_alloc | apply Kd.S_drewN | apply Kd.S_drew)); exact HO748.out⟩, ⟨by repeat (first | (with_reducible first | exact HB.out | apply below_alloc | apply pw_below_drewN | apply below_drew1) | exact HB.out)⟩⟩
                  · rw [if_neg c23] at H
                    exact absurd H (by simp)
              · rw [if_neg c14] at H
                exact absurd H (by simp)
            · rw [if_neg c13] at H
              exact absurd H (by simp)
      · rw [if_neg c9] at H
        have c9b0 : decide (x8_1 < (t725.length : Int)) = false := decide_eq_false c9
        clear c9
        have H' := Aside0.mk H
        clear H
        obtain ⟨Ao26, co26, eo26⟩ := Kd.S_slice HO_6.out
        subst eo26
        go_wp2
        go_loopg [12, 13] k1 (fun kq v12 v13 w' => ∃ (x12_2 : Bool) (x13_2 : Int), v12 = .bool x12_2 ∧ v13 = .int .i64 x13_2 ∧ Aside0 (proofmarklaw20_RupFull.l2 kq a1 t724 x7_1 x12_2 x13_2 = some r) ∧ Aside0 (kq ≤ k1) ∧ Aside0 (Kd.S (Kd.slice 3 (Kd.int .i64)) 23 w' w.heap.size (fun _ => True) u7 x7_1) ∧ Aside0 (Below w.heap.size w w'))
        case atStart => exact ⟨(false), (0), (by first | rfl | (simp; done) | (simp [*]; done) | (simp [bne_nil_]; done)), (by first | rfl | (simp; done) | (simp [*]; done) | (simp [bne_nil_]; done)), H', ⟨Nat.le_refl _⟩, ⟨by (with_reducible repeat (first | apply Kd.S_alloc | apply Kd.S_drewN | apply Kd.S_drew)); exact Kd.S_mono HO_7.out (fun _ hk => trivial)⟩, ⟨by repeat (first | (with_reducible first | exact HB.out | apply below_alloc | apply pw_below_drewN | apply below_drew1) | exact HB.out)⟩⟩
        case round =>
          clear H'
          try clear c1
          try clear c2
          try clear p2
          try clear c4
          try clear p6
          try clear c7
          try clear p7
          try clear q7
          try clear hx7
          try clear c9
          try clear c9b0
          try clear c13
          try clear c13b0
          try clear c14
          try clear c14b0
          try clear c15
          try clear c15b0
          try clear c16
          try clear c16b0
          try clear c17
          try clear c18
          try clear c18b0
          try clear c19
          try clear c21
          try clear c23
          try clear c24
          try clear hx734_0
          try clear hx735_0
          try clear hx736_0
          try clear hx738_0
          try clear hx739_0
          try clear p2
          try clear p734
          try clear p735
          try clear p736
          try clear p738
          try clear p739
          try clear q734
          try clear q735
          try clear q736
          try clear q738
          try clear q739
          obtain ⟨x12_2, x13_2, rfl, rfl, HA, HK2, HO_7, HB⟩ := hrel
          cases gk with
          | zero => exact absurd HA.out (by simp [proofmarklaw20_RupFull.l2])
          | succ k2 =>
            have H := HA.out
            clear HA
            simp only [proofmarklaw20_RupFull.l2] at H
            by_cases c27 : x13_2 < 8
            · rw [if_pos c27] at H
              have c27b0 : decide (x13_2 < 8) = true := decide_eq_true c27
              clear c27
              by_cases c28 : x12_2 = true
              · subst c28
                have H1 : (proofmarklaw20_RupFull.l2 k2 a1 t724 x7_1 true (wrap64 (x13_2 + 1))) = some r := by rw [if_pos rfl] at H; exact H
                clear H
                have H := H1
                clear H1
                have H' := Aside0.mk H
                clear H
                go_wp2
                go_roundg k2
                case measure => have := HK1.out; have := HK2.out; omega
                case rel => exact ⟨(true), (wrap64 (x13_2 + 1)), (by first | rfl | (simp; done) | (simp [*]; done) | (simp [bne_nil_]; done)), (by first | rfl | (simp; done) | (simp [*]; done) | (simp [bne_nil_]; done)), H', ⟨by have := HK1.out; have := HK2.out; omega⟩, ⟨by (with_reducible repeat (first | apply Kd.S_alloc | apply Kd.S_drewN | apply Kd.S_drew)); exact HO_7.out⟩, ⟨by repeat (first | (with_reducible first | exact HB.out | apply below_alloc | apply pw_below_drewN | apply below_drew1) | exact HB.out)⟩⟩
              · replace c28 := Bool.eq_false_iff.mpr c28
                subst c28
                have H1 : ((proofmarkref18_Model.f k2 x13_2 3).bind fun t749 => ((prop_Met.f x7_1 t749).bind fun t752 => (proofmarklaw20_RupFull.l2 k2 a1 t724 x7_1 t752 (wrap64 (x13_2 + 1))))) = some r := by rw [if_neg (show ¬ (false = true) by decide)] at H; exact H
                clear H
                have H := H1
                clear H1
                replace H := Option.bind_eq_some_iff.mp H
                obtain ⟨t749, A290, H⟩ := H
                replace H : ((prop_Met.f x7_1 t749).bind fun t752 => (proofmarklaw20_RupFull.l2 k2 a1 t724 x7_1 t752 (wrap64 (x13_2 + 1)))) = some r := H
                have A29 := Aside0.mk A290
                clear A290
                replace H := Option.bind_eq_some_iff.mp H
                obtain ⟨t752, A300, H⟩ := H
                replace H : (proofmarklaw20_RupFull.l2 k2 a1 t724 x7_1 t752 (wrap64 (x13_2 + 1))) = some r := H
                have A30 := Aside0.mk A300
                clear A300
                have H' := Aside0.mk H
                clear H
                go_wp2_with (first | (go_at_call 38; (with_reducible refine (proofmarkref18_Model.calls k2 x13_2 3 t749 _ A29.out).mono ?_); rintro e w31 ⟨v750, rfl, ho0, hb⟩; have n0_ := Aside0.mk (Kd.S_below (by (with_reducible repeat (first | apply Kd.S_alloc | apply Kd.S_drewN | apply Kd.S_drew)); exact HO_7.out) hb); have n1_ := Aside0.mk (Kd.R_lower ho0 (below_size (by repeat (first | (with_reducible first | exact HB.out | apply below_alloc | apply pw_below_drewN | apply below_drew1) | exact HB.out)))); have n2_ := Aside0.mk (below_step (by repeat (first | (with_reducible first | exact HB.out | apply below_alloc | apply pw_below_drewN | apply below_drew1) | exact HB.out)) hb); clear HO_7; clear HB; have HO_7 := n0_; have HO751 := n1_; have HB := n2_; clear n0_ n1_ n2_; (try clear hb); (try clear hb2); (try clear hk); (try clear hi); (try clear ho0); obtain ⟨Ao32, co32, eo32⟩ := Kd.S_slice HO_7.out; subst eo32; obtain ⟨Ao33, co33, eo33⟩ := Kd.R_slice HO751.out; subst eo33) | (go_at_call 31; (with_reducible refine (prop_Met.calls _ _ x7_1 _ _ t749 t752 _ ?side1 ?side2 ?side3 ?side4 A30.out).mono ?_); (case side1 => repeat (first | exact (Kd.S_reads' HO_7.out).2.2 | (with_reducible refine Kd.C_alloc ?_ _) | (with_reducible refine Kd.C_drewN ?_ _) | (with_reducible refine Kd.C_drew ?_))); (case side2 => exact (Kd.S_reads' HO_7.out).2.1); (case side3 => repeat (first | exact (Kd.R_reads' HO751.out).2.2 | (with_reducible refine Kd.C_alloc ?_ _) | (with_reducible refine Kd.C_drewN ?_ _) | (with_reducible refine Kd.C_drew ?_))); (case side4 => exact (Kd.R_reads' HO751.out).2.1); rintro e w34 ⟨rfl, hb⟩; have n0_ := Aside0.mk (Kd.S_below (by (with_reducible repeat (first | apply Kd.S_alloc | apply Kd.S_drewN | apply Kd.S_drew)); exact HO_7.out) hb); have n1_ := Aside0.mk (Kd.R_below (by (with_reducible repeat (first | apply Kd.R_alloc | apply Kd.R_drewN | apply Kd.R_drew)); exact HO751.out) hb); have n2_ := Aside0.mk (below_step (by repeat (first | (with_reducible first | exact HB.out | apply below_alloc | apply pw_below_drewN | apply below_drew1) | exact HB.out)) hb); clear HO_7; clear HO751; clear HB; have HO_7 := n0_; have HO751 := n1_; have HB := n2_; clear n0_ n1_ n2_; (try clear hb); (try clear hb2); (try clear hk); (try clear hi)))
                go_roundg k2
                case measure => have := HK1.out; have := HK2.out; omega
                case rel => exact ⟨(t752), (wrap64 (x13_2 + 1)), (by first | rfl | (simp; done) | (simp [*]; done) | (simp [bne_nil_]; done)), (by first | rfl | (simp; done) | (simp [*]; done) | (simp [bne_nil_]; done)), H', ⟨by have := HK1.out; have := HK2.out; omega⟩, ⟨by (with_reducible repeat (first | apply Kd.S_alloc | apply Kd.S_drewN | apply Kd.S_drew)); exact HO_7.out⟩, ⟨by repeat (first | (with_reducible first | exact HB.out | apply below_alloc | apply pw_below_drewN | apply below_drew1) | exact HB.out)⟩⟩
            · rw [if_neg c27] at H
              have c27b0 : decide (x13_2 < 8) = false := decide_eq_false c27
              clear c27
              have HC35 := Aside0.mk H
              clear H
              go_upto_region 22 with (fail)
              go_cut [80] (fun v80 wc => ∃ (kq : Nat) (x80_34 : Bool), v80 = .bool x80_34 ∧ Aside0 (proofmarklaw20_RupFull.j3 kq t724 x7_1 x12_2 a1 x80_34 = some r) ∧ Aside0 (kq ≤ k2) ∧ Aside0 (Kd.S (Kd.slice 3 (Kd.int .i64)) 23 wc w.heap.size (fun _ => True) u7 x7_1) ∧ Aside0 (Below w.heap.size w wc))
              case first =>
                have H := HC35.out
                clear HC35
                by_cases c36 : a1 < 3
                · rw [if_pos c36] at H
                  have c36b0 : decide (a1 < 3) = true := decide_eq_true c36
                  clear c36
                  (first | rw [c36b0] | (simp only [i64_w, i32_w]; rw [c36b0]) | skip)
                  have H' := Aside0.mk H
                  clear H
                  go_wp2
                  go_meet
                  case rel => exact ⟨_, (true), (by first | rfl | (simp; done) | (simp [*]; done) | (simp [bne_nil_]; done)), H', ⟨by have := HK1.out; have := HK2.out; first | omega | exact Nat.le_refl _⟩, ⟨by (with_reducible repeat (first | apply Kd.S_alloc | apply Kd.S_drewN | apply Kd.S_drew)); exact HO_7.out⟩, ⟨by repeat (first | (with_reducible first | exact HB.out | apply below_alloc | apply pw_below_drewN | apply below_drew1) | exact HB.out)⟩⟩
                · rw [if_neg c36] at H
                  have c36b0 : decide (a1 < 3) = false := decide_eq_false c36
                  clear c36
                  (first | rw [c36b0] | (simp only [i64_w, i32_w]; rw [c36b0]) | skip)
                  have H' := Aside0.mk H
                  clear H
                  go_wp2
                  go_meet
                  case rel => exact ⟨_, (decide (a1 > 1000)), (by first | rfl | (simp; done) | (simp [*]; done) | (simp [bne_nil_]; done)), H', ⟨by have := HK1.out; have := HK2.out; first | omega | exact Nat.le_refl _⟩, ⟨by (with_reducible repeat (first | apply Kd.S_alloc | apply Kd.S_drewN | apply Kd.S_drew)); exact HO_7.out⟩, ⟨by repeat (first | (with_reducible first | exact HB.out | apply below_alloc | apply pw_below_drewN | apply below_drew1) | exact HB.out)⟩⟩
              case rest =>
                clear HC35
                try clear c1
                try clear c2
                try clear p2
                try clear c3
                try clear c4
                try clear p6
                try clear c7
                try clear p7
                try clear q7
                try clear hx7
                try clear c9
                try clear c9b0
                try clear c13
                try clear c13b0
                try clear c14
                try clear c14b0
                try clear c15
                try clear c15b0
                try clear c16
                try clear c16b0
                try clear c17
                try clear c18
                try clear c18b0
                try clear c19
                try clear c21
                try clear c23
                try clear c24
                try clear c27
                try clear c27b0
                try clear c28
                try clear c36
                try clear c36b0
                try clear hx734_0
                try clear hx735_0
                try clear hx736_0
                try clear hx738_0
                try clear hx739_0
                try clear p2
                try clear p6
                try clear p7
                try clear p734
                try clear p735
                try clear p736
                try clear p738
                try clear p739
                try clear q7
                try clear q734
                try clear q735
                try clear q736
                try clear q738
                try clear q739
                obtain ⟨kq, x80_34, rfl, HA, HJ34, HO_7, HB⟩ := hcut
                cases kq with
                | zero => exact absurd HA.out (by simp [proofmarklaw20_RupFull.j3])
                | succ kj34 =>
                  have H := HA.out
                  clear HA
                  simp only [proofmarklaw20_RupFull.j3] at H
                  by_cases c37 : x80_34 = true
                  · subst c37
                    have H1 : (if t724 = true then ((proofmarkref20_Full.f kj34 3).bind fun t753 => ((rup_Check.f x7_1 3 t753 ([] : List Int)).bind fun t756 => (some (t756 == (!x12_2))))) else (some false)) = some r := by rw [if_pos rfl] at H; exact H
                    clear H
                    have H := H1
                    clear H1
                    by_cases c38 : t724 = true
                    · subst c38
                      have H1 : ((proofmarkref20_Full.f kj34 3).bind fun t753 => ((rup_Check.f x7_1 3 t753 ([] : List Int)).bind fun t756 => (some (t756 == (!x12_2))))) = some r := by rw [if_pos rfl] at H; exact H
                      clear H
                      have H := H1
                      clear H1
                      replace H := Option.bind_eq_some_iff.mp H
                      obtain ⟨t753, A390, H⟩ := H
                      replace H : ((rup_Check.f x7_1 3 t753 ([] : List Int)).bind fun t756 => (some (t756 == (!x12_2)))) = some r := H
                      have A39 := Aside0.mk A390
                      clear A390
                      replace H := Option.bind_eq_some_iff.mp H
                      obtain ⟨t756, A400, H⟩ := H
                      replace H : (some (t756 == (!x12_2))) = some r := H
                      have A40 := Aside0.mk A400
                      clear A400
                      obtain rfl := Option.some.inj H
                      go_wp2_with (first | (go_at_call 43; (with_reducible refine (proofmarkref20_Full.calls kj34 3 t753 _ A39.out).mono ?_); rintro e w41 ⟨v754, rfl, ho0, hb⟩; have n0_ := Aside0.mk (Kd.S_elder' (by (with_reducible repeat (first | apply Kd.S_alloc | apply Kd.S_drewN | apply Kd.S_drew)); exact HO_7.out) (Kd.S_base ho0) hb); have n1_ := Aside0.mk (Kd.S_lower (Kd.S_new' ho0 (Kd.S_lt (by (with_reducible repeat (first | apply Kd.S_alloc | apply Kd.S_drewN | apply Kd.S_drew)); exact HO_7.out))) (below_size (by repeat (first | (with_reducible first | exact HB.out | apply below_alloc | apply pw_below_drewN | apply below_drew1) | exact HB.out)))); have n2_ := Aside0.mk (below_step (by repeat (first | (with_reducible first | exact HB.out | apply below_alloc | apply pw_below_drewN | apply below_drew1) | exact HB.out)) hb); clear HO_7; clear HB; have HO_7 := n0_; have HO755 := n1_; have HB := n2_; clear n0_ n1_ n2_; (try clear hb); (try clear hb2); (try clear hk); (try clear hi); (try clear ho0); obtain ⟨Ao42, co42, eo42⟩ := Kd.S_slice HO_7.out; subst eo42; obtain ⟨Ao43, co43, eo43⟩ := Kd.S_slice HO755.out; subst eo43) | (go_at_call 22; (refine (rup_Check.calls _ _ x7_1 3 _ _ t753 _ _ ([] : List Int) t756 _ ?side1 ?side2 ?side3 ?side4 ?side5 ?side6 A40.out).mono ?_); (case side1 => repeat (first | exact (Kd.S_reads' HO_7.out).2.2 | (with_reducible refine Kd.C_alloc ?_ _) | (with_reducible refine Kd.C_drewN ?_ _) | (with_reducible refine Kd.C_drew ?_))); (case side2 => exact (Kd.S_reads' HO_7.out).2.1); (case side3 => repeat (first | exact (Kd.S_reads' HO755.out).2.2 | (with_reducible refine Kd.C_alloc ?_ _) | (with_reducible refine Kd.C_drewN ?_ _) | (with_reducible refine Kd.C_drew ?_))); (case side4 => exact (Kd.S_reads' HO755.out).2.1); (case side5 => exact Kd.C_nil _ _); (case side6 => exact Nat.le_refl _); rintro e w44 ⟨rfl, hb⟩; have n0_ := Aside0.mk (Kd.S_below (by (with_reducible repeat (first | apply Kd.S_alloc | apply Kd.S_drewN | apply Kd.S_drew)); exact HO_7.out) hb); have n1_ := Aside0.mk (Kd.S_below (by (with_reducible repeat (first | apply Kd.S_alloc | apply Kd.S_drewN | apply Kd.S_drew)); exact HO755.out) hb); have n2_ := Aside0.mk (below_step (by repeat (first | (with_reducible first | exact HB.out | apply below_alloc | apply pw_below_drewN | apply below_drew1) | exact HB.out)) hb); clear HO_7; clear HO755; clear HB; have HO_7 := n0_; have HO755 := n1_; have HB := n2_; clear n0_ n1_ n2_; (try clear hb); (try clear hb2); (try clear hk); (try clear hi)))
                      go_ret
                      exact ⟨by first | rfl | (simp [errW_none, errW_some] <;> rfl) | (simp [*, errW_none, errW_some] <;> rfl), by repeat (first | (with_reducible first | exact HB.out | apply below_alloc | apply pw_below_drewN | apply below_drew1) | exact HB.out)⟩
                    · replace c38 := Bool.eq_false_iff.mpr c38
                      subst c38
                      have H1 : (some false) = some r := by rw [if_neg (show ¬ (false = true) by decide)] at H; exact H
                      clear H
                      have H := H1
                      clear H1
                      obtain rfl := Option.some.inj H
                      go_wp2
                      go_ret
                      exact ⟨by first | rfl | (simp [errW_none, errW_some] <;> rfl) | (simp [*, errW_none, errW_some] <;> rfl), by repeat (first | (with_reducible first | exact HB.out | apply below_alloc | apply pw_below_drewN | apply below_drew1) | exact HB.out)⟩
                  · replace c37 := Bool.eq_false_iff.mpr c37
                    subst c37
                    have H1 : (if t724 = true then ((proofmarkref20_Full.f kj34 3).bind fun t757 => ((rup_Check.f x7_1 a1 t757 ([] : List Int)).bind fun t760 => (some (t760 == (!x12_2))))) else (some false)) = some r := by rw [if_neg (show ¬ (false = true) by decide)] at H; exact H
                    clear H
                    have H := H1
                    clear H1
                    by_cases c45 : t724 = true
                    · subst c45
                      have H1 : ((proofmarkref20_Full.f kj34 3).bind fun t757 => ((rup_Check.f x7_1 a1 t757 ([] : List Int)).bind fun t760 => (some (t760 == (!x12_2))))) = some r := by rw [if_pos rfl] at H; exact H
                      clear H
                      have H := H1
                      clear H1
                      replace H := Option.bind_eq_some_iff.mp H
                      obtain ⟨t757, A460, H⟩ := H
                      replace H : ((rup_Check.f x7_1 a1 t757 ([] : List Int)).bind fun t760 => (some (t760 == (!x12_2)))) = some r := H
                      have A46 := Aside0.mk A460
                      clear A460
                      replace H := Option.bind_eq_some_iff.mp H
                      obtain ⟨t760, A470, H⟩ := H
                      replace H : (some (t760 == (!x12_2))) = some r := H
                      have A47 := Aside0.mk A470
                      clear A470
                      obtain rfl := Option.some.inj H
                      go_wp2_with (first | (go_at_call 43; (with_reducible refine (proofmarkref20_Full.calls kj34 3 t757 _ A46.out).mono ?_); rintro e w48 ⟨v758, rfl, ho0, hb⟩; have n0_ := Aside0.mk (Kd.S_elder' (by (with_reducible repeat (first | apply Kd.S_alloc | apply Kd.S_drewN | apply Kd.S_drew)); exact HO_7.out) (Kd.S_base ho0) hb); have n1_ := Aside0.mk (Kd.S_lower (Kd.S_new' ho0 (Kd.S_lt (by (with_reducible repeat (first | apply Kd.S_alloc | apply Kd.S_drewN | apply Kd.S_drew)); exact HO_7.out))) (below_size (by repeat (first | (with_reducible first | exact HB.out | apply below_alloc | apply pw_below_drewN | apply below_drew1) | exact HB.out)))); have n2_ := Aside0.mk (below_step (by repeat (first | (with_reducible first | exact HB.out | apply below_alloc | apply pw_below_drewN | apply below_drew1) | exact HB.out)) hb); clear HO_7; clear HB; have HO_7 := n0_; have HO759 := n1_; have HB := n2_; clear n0_ n1_ n2_; (try clear hb); (try clear hb2); (try clear hk); (try clear hi); (try clear ho0); obtain ⟨Ao49, co49, eo49⟩ := Kd.S_slice HO_7.out; subst eo49; obtain ⟨Ao50, co50, eo50⟩ := Kd.S_slice HO759.out; subst eo50) | (go_at_call 22; (refine (rup_Check.calls _ _ x7_1 a1 _ _ t757 _ _ ([] : List Int) t760 _ ?side1 ?side2 ?side3 ?side4 ?side5 ?side6 A47.out).mono ?_); (case side1 => repeat (first | exact (Kd.S_reads' HO_7.out).2.2 | (with_reducible refine Kd.C_alloc ?_ _) | (with_reducible refine Kd.C_drewN ?_ _) | (with_reducible refine Kd.C_drew ?_))); (case side2 => exact (Kd.S_reads' HO_7.out).2.1); (case side3 => repeat (first | exact (Kd.S_reads' HO759.out).2.2 | (with_reducible refine Kd.C_alloc ?_ _) | (with_reducible refine Kd.C_drewN ?_ _) | (with_reducible refine Kd.C_drew ?_))); (case side4 => exact (Kd.S_reads' HO759.out).2.1); (case side5 => exact Kd.C_nil _ _); (case side6 => exact Nat.le_refl _); rintro e w51 ⟨rfl, hb⟩; have n0_ := Aside0.mk (Kd.S_below (by (with_reducible repeat (first | apply Kd.S_alloc | apply Kd.S_drewN | apply Kd.S_drew)); exact HO_7.out) hb); have n1_ := Aside0.mk (Kd.S_below (by (with_reducible repeat (first | apply Kd.S_alloc | apply Kd.S_drewN | apply Kd.S_drew)); exact HO759.out) hb); have n2_ := Aside0.mk (below_step (by repeat (first | (with_reducible first | exact HB.out | apply below_alloc | apply pw_below_drewN | apply below_drew1) | exact HB.out)) hb); clear HO_7; clear HO759; clear HB; have HO_7 := n0_; have HO759 := n1_; have HB := n2_; clear n0_ n1_ n2_; (try clear hb); (try clear hb2); (try clear hk); (try clear hi)))
                      go_ret
                      exact ⟨by first | rfl | (simp [errW_none, errW_some] <;> rfl) | (simp [*, errW_none, errW_some] <;> rfl), by repeat (first | (with_reducible first | exact HB.out | apply below_alloc | apply pw_below_drewN | apply below_drew1) | exact HB.out)⟩
                    · replace c45 := Bool.eq_false_iff.mpr c45
                      subst c45
                      have H1 : (some false) = some r := by rw [if_neg (show ¬ (false = true) by decide)] at H; exact H
                      clear H
                      have H := H1
                      clear H1
                      obtain rfl := Option.some.inj H
                      go_wp2
                      go_ret
                      exact ⟨by first | rfl | (simp [errW_none, errW_some] <;> rfl) | (simp [*, errW_none, errW_some] <;> rfl), by repeat (first | (with_reducible first | exact HB.out | apply below_alloc | apply pw_below_drewN | apply below_drew1) | exact HB.out)⟩

end
end Go.Proofs.Ytdlfmobnmcamaaa.Q
