/- Written by hyb.py, a program of this session that drives the kit's printer over this seat's translation: each function as a plain Lean function, and a proof that the Go code does what it says. Lean checks it. -/
import Derived.Test.YtdlfmobnmcamaaaQx0
import Derived.Test.YtdlfmobnmcamaaaQx1
import Derived.Test.YtdlfmobnmcamaaaQx2
import Derived.Test.YtdlfmobnmcamaaaQx3
import Derived.Test.YtdlfmobnmcamaaaQx4
import Derived.Test.YtdlfmobnmcamaaaQx5
import Derived.Test.YtdlfmobnmcamaaaQx6
import Derived.Test.YtdlfmobnmcamaaaQx7
import Derived.Test.YtdlfmobnmcamaaaQx8
import Derived.Test.YtdlfmobnmcamaaaQx9
import Derived.Test.YtdlfmobnmcamaaaQx10
import Derived.Test.YtdlfmobnmcamaaaQx11
import Derived.Test.YtdlfmobnmcamaaaQx12
import Derived.Test.YtdlfmobnmcamaaaQx13
namespace Go.Proofs.Ytdlfmobnmcamaaa.Q
open Go.RowKit Go.Proofs.YtdlfmobnmcamaaaW.PrintWords Go.Proofs.YtdlfmobnmcamaaaW.PrintLast Go.Proofs.YtdlfmobnmcamaaaW.PrintMore
attribute [local go_sem] max2_int min2_int max_two min_two max_three min_three max_four min_four   -- for this text's walks alone
set_option linter.unusedVariables false
set_option linter.unusedSimpArgs false

noncomputable section
/-! ### proofmarklaw18_PropTells: function 7 -/
abbrev T : Bool := true
abbrev F : Bool := false
theorem sb1 {α : Type} (l : List α) (i : Nat) (a : α) : l.toArray.setIfInBounds i a = (l.set i a).toArray := List.setIfInBounds_toArray ..
theorem sb2 {α : Type} (a b : α) (l : List α) : (a :: l).set 0 b = b :: l := rfl
theorem sb3 {α : Type} (a b : α) (l : List α) (i : Nat) : (a :: l).set (i + 1) b = a :: l.set i b := rfl
theorem am {p : Prop} (h : p) : Aside0 p := ⟨h⟩
abbrev ra_ := @Kd.R_alloc
abbrev rn_ := @Kd.R_drewN
abbrev rd_ := @Kd.R_drew
abbrev ca_ := @Kd.C_alloc
abbrev cn_ := @Kd.C_drewN
abbrev cd_ := @Kd.C_drew
abbrev sa_ := @Kd.S_alloc
abbrev sn_ := @Kd.S_drewN
abbrev sd_ := @Kd.S_drew
abbrev pn_ := @pw_below_drewN
abbrev b1_ := @below_drew1
abbrev ba_ := @below_alloc
abbrev re_ := @Kd.R_elder'
abbrev rw_ := @Kd.R_new'
abbrev ma_ := @List.map_toArray
abbrev mc_ := @List.map_cons
abbrev mn_ := @List.map_nil
abbrev ld_ := @List.length_drop
abbrev lt_ := @List.length_take
abbrev rb_ := @Kd.R_base
abbrev rl_ := @Kd.R_below
abbrev sr_ := @Kd.S_reads'
abbrev cb_ := @Kd.C_below
mutual
def proofmarklaw18_PropTells.j0 : Nat → Bool → List (List Int) → List Int → Bool → List (List Int) → Int → List Int → List Bool → Int → Option (Bool)
  | 0, _, _, _, _, _, _, _, _, _ => none
  | k + 1, x3, x4, x5, x72, x214000, x214001, x214002, x214003, x214004 => if x72 = true then (some false) else (proofmarklaw18_PropTells.l0 k x3 x4 x5 0 x214000 x214001 x214002 x214003 x214004)
def proofmarklaw18_PropTells.l0 : Nat → Bool → List (List Int) → List Int → Int → List (List Int) → Int → List Int → List Bool → Int → Option (Bool)
  | 0, _, _, _, _, _, _, _, _, _ => none
  | k + 1, x3, x4, x5, x10, x214000, x214001, x214002, x214003, x214004 => if x10 < (x4.length : Int) then (if 0 ≤ x10 then ((prop_Norm.f (rd_L1 x4 x10)).bind fun bt235 => ((proofmarkref18_Norm.f k (rd_L1 x4 x10)).bind fun bt240 => ((prop_Resolve.f (rd_L1 x4 x10) x5 x214004).bind fun bt245 => ((proofmarkref18_Resolve.f k (rd_L1 x4 x10) x5 x214004).bind fun bt250 => (if (bt235.2 != bt240.2) = true then (some false) else (if (bt245.2 != bt250.2) = true then (some false) else ((proofmarkref18_Same.f k bt235.1 bt240.1).bind fun t254 => (if t254 = true then ((proofmarkref18_Same.f k bt245.1 bt250.1).bind fun t255 => (if t255 = true then (proofmarklaw18_PropTells.l0 k x3 x4 x5 (wrap64 (x10 + 1)) x214000 x214001 x214002 x214003 x214004) else (some false))) else (some false))))))))) else (none)) else (some x3)
end
def proofmarklaw18_PropTells.f (k : Nat) (l0_0 : List (List Int)) (a0_1 : Int) (l0_2 : List Int) (l0_3 : List Bool) (a0_4 : Int) : Option (Bool) := (proofmarklaw18_head.f).bind fun t214 => ((proofmarkref18_Few.f k l0_0).bind fun t215 => ((proofmarkref18_Cut.f l0_2 12).bind fun t218 => ((prop_Unit.f t215 a0_1 t218).bind fun bt221 => ((proofmarkref18_Unit.f t215 a0_1 t218).bind fun bt225 => ((prop_Right.f k t215 a0_1).bind fun t229 => ((proofmarkref18_Right.f k t215 a0_1).bind fun t230 => (if (t229 != t230) = true then (proofmarklaw18_PropTells.j0 k t214 t215 t218 true l0_0 a0_1 l0_2 l0_3 a0_4) else ((prop_Met.f t215 l0_3).bind fun t231 => ((proofmarkref18_Met.f k t215 l0_3).bind fun t232 => (if (t231 != t232) = true then (proofmarklaw18_PropTells.j0 k t214 t215 t218 true l0_0 a0_1 l0_2 l0_3 a0_4) else (if (bt221.2 != bt225.2) = true then (proofmarklaw18_PropTells.j0 k t214 t215 t218 true l0_0 a0_1 l0_2 l0_3 a0_4) else ((proofmarkref18_Same.f k bt221.1 bt225.1).bind fun t233 => (proofmarklaw18_PropTells.j0 k t214 t215 t218 (!t233) l0_0 a0_1 l0_2 l0_3 a0_4)))))))))))))
theorem proofmarklaw18_PropTells.mono_l : ∀ k, (∀ y0 y1 y2 y3 y4 y5 y6 y7 y8, LeO (proofmarklaw18_PropTells.j0 k y0 y1 y2 y3 y4 y5 y6 y7 y8) (proofmarklaw18_PropTells.j0 (k + 1) y0 y1 y2 y3 y4 y5 y6 y7 y8)) ∧ (∀ y0 y1 y2 y3 y4 y5 y6 y7 y8, LeO (proofmarklaw18_PropTells.l0 k y0 y1 y2 y3 y4 y5 y6 y7 y8) (proofmarklaw18_PropTells.l0 (k + 1) y0 y1 y2 y3 y4 y5 y6 y7 y8))
  | 0 => ⟨fun _ _ _ _ _ _ _ _ _ r h => by simp [proofmarklaw18_PropTells.j0] at h, fun _ _ _ _ _ _ _ _ _ r h => by simp [proofmarklaw18_PropTells.l0] at h⟩
  | k + 1 => by
    obtain ⟨ih0, ih1⟩ := proofmarklaw18_PropTells.mono_l k
    refine ⟨?_, ?_⟩
    · intro y0 y1 y2 y3 y4 y5 y6 y7 y8
      unfold proofmarklaw18_PropTells.j0
      repeat' first
      | (with_reducible exact ih0 _ _ _ _ _ _ _ _ _)
      | (with_reducible exact ih1 _ _ _ _ _ _ _ _ _)
      | (with_reducible exact proofmarkref18_Few.mono _ _)
      | (with_reducible exact proofmarkref18_Met.mono _ _ _)
      | (with_reducible exact proofmarkref18_Norm.mono _ _)
      | (with_reducible exact proofmarkref18_Resolve.mono _ _ _ _)
      | (with_reducible exact proofmarkref18_Right.mono _ _ _)
      | (with_reducible exact proofmarkref18_Same.mono _ _ _)
      | (with_reducible exact prop_Right.mono _ _ _)
      | (with_reducible exact LeO.refl _)
      | (with_reducible exact LeO.none _)
      | (with_reducible refine LeO.ite ?_ ?_)
      | (with_reducible refine LeO.bind ?_ (fun _ => ?_))
      | exact ih0 _ _ _ _ _ _ _ _ _
      | exact ih1 _ _ _ _ _ _ _ _ _
      | exact proofmarkref18_Few.mono _ _
      | exact proofmarkref18_Met.mono _ _ _
      | exact proofmarkref18_Norm.mono _ _
      | exact proofmarkref18_Resolve.mono _ _ _ _
      | exact proofmarkref18_Right.mono _ _ _
      | exact proofmarkref18_Same.mono _ _ _
      | exact prop_Right.mono _ _ _
      | exact LeO.none _
      | refine LeO.ite ?_ ?_
      | refine LeO.bind ?_ (fun _ => ?_)
    · intro y0 y1 y2 y3 y4 y5 y6 y7 y8
      unfold proofmarklaw18_PropTells.l0
      repeat' first
      | (with_reducible exact ih0 _ _ _ _ _ _ _ _ _)
      | (with_reducible exact ih1 _ _ _ _ _ _ _ _ _)
      | (with_reducible exact proofmarkref18_Few.mono _ _)
      | (with_reducible exact proofmarkref18_Met.mono _ _ _)
      | (with_reducible exact proofmarkref18_Norm.mono _ _)
      | (with_reducible exact proofmarkref18_Resolve.mono _ _ _ _)
      | (with_reducible exact proofmarkref18_Right.mono _ _ _)
      | (with_reducible exact proofmarkref18_Same.mono _ _ _)
      | (with_reducible exact prop_Right.mono _ _ _)
      | (with_reducible exact LeO.refl _)
      | (with_reducible exact LeO.none _)
      | (with_reducible refine LeO.ite ?_ ?_)
      | (with_reducible refine LeO.bind ?_ (fun _ => ?_))
      | exact ih0 _ _ _ _ _ _ _ _ _
      | exact ih1 _ _ _ _ _ _ _ _ _
      | exact proofmarkref18_Few.mono _ _
      | exact proofmarkref18_Met.mono _ _ _
      | exact proofmarkref18_Norm.mono _ _
      | exact proofmarkref18_Resolve.mono _ _ _ _
      | exact proofmarkref18_Right.mono _ _ _
      | exact proofmarkref18_Same.mono _ _ _
      | exact prop_Right.mono _ _ _
      | exact LeO.none _
      | refine LeO.ite ?_ ?_
      | refine LeO.bind ?_ (fun _ => ?_)
theorem proofmarklaw18_PropTells.mono : ∀ a0 a1 a2 a3 a4 k, LeO (proofmarklaw18_PropTells.f k a0 a1 a2 a3 a4) (proofmarklaw18_PropTells.f (k + 1) a0 a1 a2 a3 a4) := by
  intro a0 a1 a2 a3 a4 k
  obtain ⟨ih0, ih1⟩ := proofmarklaw18_PropTells.mono_l k
  unfold proofmarklaw18_PropTells.f
  repeat' first
      | (with_reducible exact ih0 _ _ _ _ _ _ _ _ _)
      | (with_reducible exact ih1 _ _ _ _ _ _ _ _ _)
      | (with_reducible exact proofmarkref18_Few.mono _ _)
      | (with_reducible exact proofmarkref18_Met.mono _ _ _)
      | (with_reducible exact proofmarkref18_Norm.mono _ _)
      | (with_reducible exact proofmarkref18_Resolve.mono _ _ _ _)
      | (with_reducible exact proofmarkref18_Right.mono _ _ _)
      | (with_reducible exact proofmarkref18_Same.mono _ _ _)
      | (with_reducible exact prop_Right.mono _ _ _)
      | (with_reducible exact LeO.refl _)
      | (with_reducible exact LeO.none _)
      | (with_reducible refine LeO.ite ?_ ?_)
      | (with_reducible refine LeO.bind ?_ (fun _ => ?_))
      | exact ih0 _ _ _ _ _ _ _ _ _
      | exact ih1 _ _ _ _ _ _ _ _ _
      | exact proofmarkref18_Few.mono _ _
      | exact proofmarkref18_Met.mono _ _ _
      | exact proofmarkref18_Norm.mono _ _
      | exact proofmarkref18_Resolve.mono _ _ _ _
      | exact proofmarkref18_Right.mono _ _ _
      | exact proofmarkref18_Same.mono _ _ _
      | exact prop_Right.mono _ _ _
      | exact LeO.none _
      | refine LeO.ite ?_ ?_
      | refine LeO.bind ?_ (fun _ => ?_)
def proofmarklaw18_PropTells.T6 : Bool × List (List Nat × List Nat) := (true, [([], []), ([], []), ([1], [1]), ([0, 2], [0, 2]), ([], []), ([], []), ([5], [5]), ([4, 6, 3], [4, 6]), ([3, 7], [3, 7]), ([8, 7], [8]), ([9], [9]), ([9], [9]), ([11, 9], [9, 11]), ([10, 12, 9, 9], [9, 10, 12]), ([9], [9]), ([9], [9]), ([15, 9], [9, 15]), ([14, 16, 13, 9], [9, 14, 16]), ([13, 17, 9], [9, 13, 17]), ([9, 18], [9, 18]), ([19, 17], [19]), ([20], [20]), ([20], [20]), ([21, 22, 20], [20, 21, 22]), ([20, 23], [20, 23]), ([24, 20], [24]), ([25], [25]), ([25], [25]), ([26, 27, 25, 25], [25, 26, 27]), ([28, 25], [25, 28]), ([25, 29], [25, 29])])
def proofmarklaw18_PropTells.B6 : List Nat := [0, 0, 2, 7, 0, 0, 32, 127, 255, 511, 1023, 1023, 3071, 8191, 1023, 1023, 33791, 131071, 262143, 524287, 1048575, 2097151, 2097151, 8388607, 16777215, 33554431, 67108863, 67108863, 268435455, 536870911, 1073741823]
theorem proofmarklaw18_PropTells.tab6 : rtab .any (opsOf Try.f7 6) = proofmarklaw18_PropTells.T6 := by kernel_rfl
theorem proofmarklaw18_PropTells.bits6 : waitsOk proofmarklaw18_PropTells.T6.2 proofmarklaw18_PropTells.B6 = true := by kernel_rfl
def proofmarklaw18_PropTells.T13 : Bool × List (List Nat × List Nat) := (true, [([], []), ([], []), ([0, 1], [0, 1]), ([2], [2]), ([], []), ([], []), ([5], [5]), ([3, 4, 6], [3, 4, 6]), ([7], [7]), ([8], [8]), ([8], [8]), ([9, 7, 0, 1, 2, 3, 4, 5, 6, 7, 8, 9], [9]), ([10, 11, 0, 1, 2, 3, 4, 5, 6, 7, 8, 9, 10, 11], [10])])
def proofmarklaw18_PropTells.B13 : List Nat := [0, 0, 3, 7, 0, 0, 32, 127, 255, 511, 511, 1023, 4095]
theorem proofmarklaw18_PropTells.tab13 : rtab .any (opsOf Try.f7 13) = proofmarklaw18_PropTells.T13 := by kernel_rfl
theorem proofmarklaw18_PropTells.bits13 : waitsOk proofmarklaw18_PropTells.T13.2 proofmarklaw18_PropTells.B13 = true := by kernel_rfl
def proofmarklaw18_PropTells.T14 : Bool × List (List Nat × List Nat) := (true, [([], []), ([], []), ([0, 1], [0, 1]), ([2], [2]), ([], []), ([], []), ([5], [5]), ([3, 4, 6], [3, 4, 6]), ([7], [7]), ([8], [8]), ([8], [8]), ([9, 7, 0, 1, 2, 3, 4, 5, 6, 7, 8, 9], [9]), ([10, 11, 0, 1, 2, 3, 4, 5, 6, 7, 8, 9, 10, 11], [10])])
def proofmarklaw18_PropTells.B14 : List Nat := [0, 0, 3, 7, 0, 0, 32, 127, 255, 511, 511, 1023, 4095]
theorem proofmarklaw18_PropTells.tab14 : rtab .any (opsOf Try.f7 14) = proofmarklaw18_PropTells.T14 := by kernel_rfl
theorem proofmarklaw18_PropTells.bits14 : waitsOk proofmarklaw18_PropTells.T14.2 proofmarklaw18_PropTells.B14 = true := by kernel_rfl
set_option maxHeartbeats 8000000 in
set_option maxRecDepth 100000 in
theorem proofmarklaw18_PropTells.calls (k : Nat) (A0_0 : Option Addr) (c0_0 : Nat) (l0_0 : List (List Int)) (a0_1 : Int) (A0_2 : Option Addr) (c0_2 : Nat) (l0_2 : List Int) (A0_3 : Option Addr) (c0_3 : Nat) (l0_3 : List Bool) (a0_4 : Int) (r : Bool) (w : World) (hr0_0 : Kd.C (Kd.slice 3 (Kd.int .i64)) w A0_0 l0_0.length l0_0) (hc0_0 : l0_0.length ≤ c0_0) (hr0_2 : Kd.C (Kd.int .i64) w A0_2 l0_2.length l0_2) (hc0_2 : l0_2.length ≤ c0_2) (hr0_3 : Kd.C Kd.bool w A0_3 l0_3.length l0_3) (hc0_3 : l0_3.length ≤ c0_3) (h : proofmarklaw18_PropTells.f k l0_0 a0_1 l0_2 l0_3 a0_4 = some r) :
  Calls Try.prog 7 #[.agg #[.slice A0_0 l0_0.length c0_0, .int .i64 a0_1, .slice A0_2 l0_2.length c0_2, .slice A0_3 l0_3.length c0_3, .int .i64 a0_4]] w fun e w' => e = .returned (.bool r) ∧ Below w.heap.size w w' := by
 have hu37 := Try.underlying37; have HR0_0 := am hr0_0; have HC0_0 := am hc0_0; clear hr0_0 hc0_0; have HR0_2 := am hr0_2; have HC0_2 := am hc0_2; clear hr0_2 hc0_2; have HR0_3 := am hr0_3; have HC0_3 := am hc0_3; clear hr0_3 hc0_3; have HB := am (Below.refl w.heap.size w)
 have H : ((proofmarklaw18_head.f).bind fun t214 => ((proofmarkref18_Few.f k l0_0).bind fun t215 => ((proofmarkref18_Cut.f l0_2 12).bind fun t218 => ((prop_Unit.f t215 a0_1 t218).bind fun bt221 => ((proofmarkref18_Unit.f t215 a0_1 t218).bind fun bt225 => ((prop_Right.f k t215 a0_1).bind fun t229 => ((proofmarkref18_Right.f k t215 a0_1).bind fun t230 => (if (t229 != t230) = true then (proofmarklaw18_PropTells.j0 k t214 t215 t218 true l0_0 a0_1 l0_2 l0_3 a0_4) else ((prop_Met.f t215 l0_3).bind fun t231 => ((proofmarkref18_Met.f k t215 l0_3).bind fun t232 => (if (t231 != t232) = true then (proofmarklaw18_PropTells.j0 k t214 t215 t218 true l0_0 a0_1 l0_2 l0_3 a0_4) else (if (bt221.2 != bt225.2) = true then (proofmarklaw18_PropTells.j0 k t214 t215 t218 true l0_0 a0_1 l0_2 l0_3 a0_4) else ((proofmarkref18_Same.f k bt221.1 bt225.1).bind fun t233 => (proofmarklaw18_PropTells.j0 k t214 t215 t218 (!t233) l0_0 a0_1 l0_2 l0_3 a0_4)))))))))))))) = some r := h
 clear h; replace H := Option.bind_eq_some_iff.mp H
 obtain ⟨t214, A20, H⟩ := H
 replace H : ((proofmarkref18_Few.f k l0_0).bind fun t215 => ((proofmarkref18_Cut.f l0_2 12).bind fun t218 => ((prop_Unit.f t215 a0_1 t218).bind fun bt221 => ((proofmarkref18_Unit.f t215 a0_1 t218).bind fun bt225 => ((prop_Right.f k t215 a0_1).bind fun t229 => ((proofmarkref18_Right.f k t215 a0_1).bind fun t230 => (if (t229 != t230) = true then (proofmarklaw18_PropTells.j0 k t214 t215 t218 true l0_0 a0_1 l0_2 l0_3 a0_4) else ((prop_Met.f t215 l0_3).bind fun t231 => ((proofmarkref18_Met.f k t215 l0_3).bind fun t232 => (if (t231 != t232) = true then (proofmarklaw18_PropTells.j0 k t214 t215 t218 true l0_0 a0_1 l0_2 l0_3 a0_4) else (if (bt221.2 != bt225.2) = true then (proofmarklaw18_PropTells.j0 k t214 t215 t218 true l0_0 a0_1 l0_2 l0_3 a0_4) else ((proofmarkref18_Same.f k bt221.1 bt225.1).bind fun t233 => (proofmarklaw18_PropTells.j0 k t214 t215 t218 (!t233) l0_0 a0_1 l0_2 l0_3 a0_4))))))))))))) = some r := H
 have A2 := am A20; clear A20; replace H := Option.bind_eq_some_iff.mp H
 obtain ⟨t215, A30, H⟩ := H
 replace H : ((proofmarkref18_Cut.f l0_2 12).bind fun t218 => ((prop_Unit.f t215 a0_1 t218).bind fun bt221 => ((proofmarkref18_Unit.f t215 a0_1 t218).bind fun bt225 => ((prop_Right.f k t215 a0_1).bind fun t229 => ((proofmarkref18_Right.f k t215 a0_1).bind fun t230 => (if (t229 != t230) = true then (proofmarklaw18_PropTells.j0 k t214 t215 t218 true l0_0 a0_1 l0_2 l0_3 a0_4) else ((prop_Met.f t215 l0_3).bind fun t231 => ((proofmarkref18_Met.f k t215 l0_3).bind fun t232 => (if (t231 != t232) = true then (proofmarklaw18_PropTells.j0 k t214 t215 t218 true l0_0 a0_1 l0_2 l0_3 a0_4) else (if (bt221.2 != bt225.2) = true then (proofmarklaw18_PropTells.j0 k t214 t215 t218 true l0_0 a0_1 l0_2 l0_3 a0_4) else ((proofmarkref18_Same.f k bt221.1 bt225.1).bind fun t233 => (proofmarklaw18_PropTells.j0 k t214 t215 t218 (!t233) l0_0 a0_1 l0_2 l0_3 a0_4)))))))))))) = some r := H
 have A3 := am A30; clear A30; replace H := Option.bind_eq_some_iff.mp H
 obtain ⟨t218, A40, H⟩ := H
 replace H : ((prop_Unit.f t215 a0_1 t218).bind fun bt221 => ((proofmarkref18_Unit.f t215 a0_1 t218).bind fun bt225 => ((prop_Right.f k t215 a0_1).bind fun t229 => ((proofmarkref18_Right.f k t215 a0_1).bind fun t230 => (if (t229 != t230) = true then (proofmarklaw18_PropTells.j0 k t214 t215 t218 true l0_0 a0_1 l0_2 l0_3 a0_4) else ((prop_Met.f t215 l0_3).bind fun t231 => ((proofmarkref18_Met.f k t215 l0_3).bind fun t232 => (if (t231 != t232) = true then (proofmarklaw18_PropTells.j0 k t214 t215 t218 true l0_0 a0_1 l0_2 l0_3 a0_4) else (if (bt221.2 != bt225.2) = true then (proofmarklaw18_PropTells.j0 k t214 t215 t218 true l0_0 a0_1 l0_2 l0_3 a0_4) else ((proofmarkref18_Same.f k bt221.1 bt225.1).bind fun t233 => (proofmarklaw18_PropTells.j0 k t214 t215 t218 (!t233) l0_0 a0_1 l0_2 l0_3 a0_4))))))))))) = some r := H
 have A4 := am A40; clear A40; replace H := Option.bind_eq_some_iff.mp H
 obtain ⟨⟨t221, t222⟩, A50, H⟩ := H
 replace H : ((proofmarkref18_Unit.f t215 a0_1 t218).bind fun bt225 => ((prop_Right.f k t215 a0_1).bind fun t229 => ((proofmarkref18_Right.f k t215 a0_1).bind fun t230 => (if (t229 != t230) = true then (proofmarklaw18_PropTells.j0 k t214 t215 t218 true l0_0 a0_1 l0_2 l0_3 a0_4) else ((prop_Met.f t215 l0_3).bind fun t231 => ((proofmarkref18_Met.f k t215 l0_3).bind fun t232 => (if (t231 != t232) = true then (proofmarklaw18_PropTells.j0 k t214 t215 t218 true l0_0 a0_1 l0_2 l0_3 a0_4) else (if (t222 != bt225.2) = true then (proofmarklaw18_PropTells.j0 k t214 t215 t218 true l0_0 a0_1 l0_2 l0_3 a0_4) else ((proofmarkref18_Same.f k t221 bt225.1).bind fun t233 => (proofmarklaw18_PropTells.j0 k t214 t215 t218 (!t233) l0_0 a0_1 l0_2 l0_3 a0_4)))))))))) = some r := H
 have A5 := am A50; clear A50; replace H := Option.bind_eq_some_iff.mp H
 obtain ⟨⟨t225, t226⟩, A60, H⟩ := H
 replace H : ((prop_Right.f k t215 a0_1).bind fun t229 => ((proofmarkref18_Right.f k t215 a0_1).bind fun t230 => (if (t229 != t230) = true then (proofmarklaw18_PropTells.j0 k t214 t215 t218 true l0_0 a0_1 l0_2 l0_3 a0_4) else ((prop_Met.f t215 l0_3).bind fun t231 => ((proofmarkref18_Met.f k t215 l0_3).bind fun t232 => (if (t231 != t232) = true then (proofmarklaw18_PropTells.j0 k t214 t215 t218 true l0_0 a0_1 l0_2 l0_3 a0_4) else (if (t222 != t226) = true then (proofmarklaw18_PropTells.j0 k t214 t215 t218 true l0_0 a0_1 l0_2 l0_3 a0_4) else ((proofmarkref18_Same.f k t221 t225).bind fun t233 => (proofmarklaw18_PropTells.j0 k t214 t215 t218 (!t233) l0_0 a0_1 l0_2 l0_3 a0_4))))))))) = some r := H
 have A6 := am A60; clear A60; have HC7 := am H; clear H
 go_enter Try.func7, Try.ntmps7
 go_upto_region 6 with (first | ((with_reducible refine gate_dst (N := 1) rfl ?_); refine box_event ?hg (N := 1) ?hd (cs := #[.slice A0_0 l0_0.length c0_0, .int .i64 a0_1, .slice A0_2 l0_2.length c0_2, .slice A0_3 l0_3.length c0_3, .int .i64 a0_4]) (t := 37) ?hr ?_; (case hd => rfl); (case hg => rfl); (case hr => first | (go_simp; done) | (go_simp; rfl)); intro gb213 hg w8 hbox hb; have n0_ := am (below_step (by repeat (first | (with_reducible first | exact HB.out | apply ba_ | apply pn_ | apply b1_) | exact HB.out)) hb); have n1_ := am (hbox); have n2_ := am ((by rw [hg]; exact (below_size (by repeat (first | (with_reducible first | exact HB.out | apply ba_ | apply pn_ | apply b1_) | exact HB.out))) : w.heap.size ≤ gb213)); have n3_ := am ((by rw [hg]; exact (below_size (by repeat (first | (with_reducible first | exact HB.out | apply ba_ | apply pn_ | apply b1_) | exact HB.out))) : w.heap.size ≤ gb213)); clear HB; have HB := n0_; have BK213 := n1_; have GW213 := n2_; have GE213 := n3_; clear n0_ n1_ n2_ n3_; clear hb hbox hg) | ((with_reducible refine gate_callee (f := 26) rfl ?_); refine goesL_ (some 19) rfl rfl Try.func26 (by kernel_rfl) rfl #[] rfl (by (try simp only [ma_, mc_, mn_]); first | done | rfl | (simp only [ld_, lt_]; rfl)) ?_; (with_reducible refine (proofmarklaw18_head.calls  t214 _ A2.out).mono ?_); rintro e w9 ⟨rfl, hb⟩; refine ⟨_, rfl, ?_⟩; have n0_ := am (blk_below (g := gb213) (o := .cells #[.slice A0_0 l0_0.length c0_0, .int .i64 a0_1, .slice A0_2 l0_2.length c0_2, .slice A0_3 l0_3.length c0_3, .int .i64 a0_4] 37 (0, 0)) (by (with_reducible repeat (first | refine blk_drewN ?_ _ | refine blk_drew ?_ | refine blk_alloc ?_ _)); exact BK213.out) hb); have n1_ := am (below_step (by repeat (first | (with_reducible first | exact HB.out | apply ba_ | apply pn_ | apply b1_ | refine below_set ?_ GE213.out) | exact HB.out)) hb); clear BK213; clear HB; have BK213 := n0_; have HB := n1_; clear n0_ n1_; (try clear hb); (try clear hb2); (try clear hk); (try clear hi); have hcz10_0 : w9.cell? ⟨gb213, 0, none⟩ = some (.slice A0_0 l0_0.length c0_0) := (blk_cell BK213.out 0).trans rfl; have hcz10_1 : w9.cell? ⟨gb213, 1, none⟩ = some (.int .i64 a0_1) := (blk_cell BK213.out 1).trans rfl; have hcz10_2 : w9.cell? ⟨gb213, 2, none⟩ = some (.slice A0_2 l0_2.length c0_2) := (blk_cell BK213.out 2).trans rfl; have hcz10_3 : w9.cell? ⟨gb213, 3, none⟩ = some (.slice A0_3 l0_3.length c0_3) := (blk_cell BK213.out 3).trans rfl; have hcz10_4 : w9.cell? ⟨gb213, 4, none⟩ = some (.int .i64 a0_4) := (blk_cell BK213.out 4).trans rfl; have hfz10_0 := blk_frozen BK213.out 0; have hfz10_1 := blk_frozen BK213.out 1; have hfz10_2 := blk_frozen BK213.out 2; have hfz10_3 := blk_frozen BK213.out 3; have hfz10_4 := blk_frozen BK213.out 4) | ((with_reducible refine gate_callee (f := 18) rfl ?_); refine goesL_ (some 22) rfl rfl Try.func18 (by kernel_rfl) rfl #[.slice A0_0 l0_0.length c0_0] rfl (by (try simp only [ma_, mc_, mn_]); first | done | rfl | (simp only [ld_, lt_]; rfl)) ?_; (with_reducible refine (proofmarkref18_Few.calls k _ _ l0_0 t215 _ ?side1 ?side2 A3.out).mono ?_); (case side1 => repeat (first | exact (cb_ HR0_0.out HB.out) | (with_reducible refine ca_ ?_ _) | (with_reducible refine cn_ ?_ _) | (with_reducible refine cd_ ?_))); (case side2 => exact HC0_0.out); rintro e w11 ⟨v216, rfl, ho0, hb⟩; refine ⟨_, rfl, ?_⟩; have n0_ := am (Kd.S_lower ho0 (below_size (by repeat (first | (with_reducible first | exact HB.out | apply ba_ | apply pn_ | apply b1_ | refine below_set ?_ GE213.out) | exact HB.out)))); have n1_ := am (blk_below (g := gb213) (o := .cells #[.slice A0_0 l0_0.length c0_0, .int .i64 a0_1, .slice A0_2 l0_2.length c0_2, .slice A0_3 l0_3.length c0_3, .int .i64 a0_4] 37 (0, 0)) (by (with_reducible repeat (first | refine blk_drewN ?_ _ | refine blk_drew ?_ | refine blk_alloc ?_ _)); exact BK213.out) hb); have n2_ := am (below_step (by repeat (first | (with_reducible first | exact HB.out | apply ba_ | apply pn_ | apply b1_ | refine below_set ?_ GE213.out) | exact HB.out)) hb); clear BK213; clear HB; have HO217 := n0_; have BK213 := n1_; have HB := n2_; clear n0_ n1_ n2_; (try clear hb); (try clear hb2); (try clear hk); (try clear hi); (try clear ho0); have hcz12_0 : w11.cell? ⟨gb213, 0, none⟩ = some (.slice A0_0 l0_0.length c0_0) := (blk_cell BK213.out 0).trans rfl; have hcz12_1 : w11.cell? ⟨gb213, 1, none⟩ = some (.int .i64 a0_1) := (blk_cell BK213.out 1).trans rfl; have hcz12_2 : w11.cell? ⟨gb213, 2, none⟩ = some (.slice A0_2 l0_2.length c0_2) := (blk_cell BK213.out 2).trans rfl; have hcz12_3 : w11.cell? ⟨gb213, 3, none⟩ = some (.slice A0_3 l0_3.length c0_3) := (blk_cell BK213.out 3).trans rfl; have hcz12_4 : w11.cell? ⟨gb213, 4, none⟩ = some (.int .i64 a0_4) := (blk_cell BK213.out 4).trans rfl; have hfz12_0 := blk_frozen BK213.out 0; have hfz12_1 := blk_frozen BK213.out 1; have hfz12_2 := blk_frozen BK213.out 2; have hfz12_3 := blk_frozen BK213.out 3; have hfz12_4 := blk_frozen BK213.out 4) | ((with_reducible refine gate_callee (f := 19) rfl ?_); refine goesL_ (some 25) rfl rfl Try.func19 (by kernel_rfl) rfl #[.slice A0_2 l0_2.length c0_2, .int .i64 12] rfl (by (try simp only [ma_, mc_, mn_]); first | done | rfl | (simp only [ld_, lt_]; rfl)) ?_; (with_reducible refine (proofmarkref18_Cut.calls _ _ l0_2 12 t218 _ ?side1 ?side2 A4.out).mono ?_); (case side1 => repeat (first | exact (cb_ HR0_2.out HB.out) | (with_reducible refine ca_ ?_ _) | (with_reducible refine cn_ ?_ _) | (with_reducible refine cd_ ?_))); (case side2 => exact HC0_2.out); rintro e w13 ⟨v219, rfl, ho0, hb⟩; refine ⟨_, rfl, ?_⟩; have n0_ := am (Kd.S_elder' (by (with_reducible repeat (first | apply sa_ | apply sn_ | apply sd_)); exact HO217.out) (rb_ ho0) hb); have n1_ := am (Kd.R_lower ho0 (below_size (by repeat (first | (with_reducible first | exact HB.out | apply ba_ | apply pn_ | apply b1_ | refine below_set ?_ GE213.out) | exact HB.out)))); have n2_ := am (blk_below (g := gb213) (o := .cells #[.slice A0_0 l0_0.length c0_0, .int .i64 a0_1, .slice A0_2 l0_2.length c0_2, .slice A0_3 l0_3.length c0_3, .int .i64 a0_4] 37 (0, 0)) (by (with_reducible repeat (first | refine blk_drewN ?_ _ | refine blk_drew ?_ | refine blk_alloc ?_ _)); exact BK213.out) hb); have n3_ := am (below_step (by repeat (first | (with_reducible first | exact HB.out | apply ba_ | apply pn_ | apply b1_ | refine below_set ?_ GE213.out) | exact HB.out)) hb); clear HO217; clear BK213; clear HB; have HO217 := n0_; have HO220 := n1_; have BK213 := n2_; have HB := n3_; clear n0_ n1_ n2_ n3_; (try clear hb); (try clear hb2); (try clear hk); (try clear hi); (try clear ho0); have hcz14_0 : w13.cell? ⟨gb213, 0, none⟩ = some (.slice A0_0 l0_0.length c0_0) := (blk_cell BK213.out 0).trans rfl; have hcz14_1 : w13.cell? ⟨gb213, 1, none⟩ = some (.int .i64 a0_1) := (blk_cell BK213.out 1).trans rfl; have hcz14_2 : w13.cell? ⟨gb213, 2, none⟩ = some (.slice A0_2 l0_2.length c0_2) := (blk_cell BK213.out 2).trans rfl; have hcz14_3 : w13.cell? ⟨gb213, 3, none⟩ = some (.slice A0_3 l0_3.length c0_3) := (blk_cell BK213.out 3).trans rfl; have hcz14_4 : w13.cell? ⟨gb213, 4, none⟩ = some (.int .i64 a0_4) := (blk_cell BK213.out 4).trans rfl; have hfz14_0 := blk_frozen BK213.out 0; have hfz14_1 := blk_frozen BK213.out 1; have hfz14_2 := blk_frozen BK213.out 2; have hfz14_3 := blk_frozen BK213.out 3; have hfz14_4 := blk_frozen BK213.out 4; obtain ⟨Ao15, co15, eo15⟩ := Kd.S_slice HO217.out; subst eo15; obtain ⟨Ao16, co16, eo16⟩ := Kd.R_slice HO220.out; subst eo16) | ((with_reducible refine gate_callee (f := 27) rfl ?_); refine goesL_ (some 31) rfl rfl Try.func27 (by kernel_rfl) rfl #[.slice Ao15 t215.length co15, .int .i64 a0_1, .slice Ao16 t218.length co16] rfl (by (try simp only [ma_, mc_, mn_]); first | done | rfl | (simp only [ld_, lt_]; rfl)) ?_; (with_reducible refine (prop_Unit.calls _ _ t215 a0_1 _ _ t218 t221 t222 _ ?side1 ?side2 ?side3 ?side4 A5.out).mono ?_); (case side1 => repeat (first | exact (sr_ HO217.out).2.2 | (with_reducible refine ca_ ?_ _) | (with_reducible refine cn_ ?_ _) | (with_reducible refine cd_ ?_))); (case side2 => exact (sr_ HO217.out).2.1); (case side3 => repeat (first | exact (Kd.R_reads' HO220.out).2.2 | (with_reducible refine ca_ ?_ _) | (with_reducible refine cn_ ?_ _) | (with_reducible refine cd_ ?_))); (case side4 => exact (Kd.R_reads' HO220.out).2.1); rintro e w17 ⟨v223, rfl, ho0, hb⟩; refine ⟨_, rfl, ?_⟩; have n0_ := am (Kd.S_elder' (by (with_reducible repeat (first | apply sa_ | apply sn_ | apply sd_)); exact HO217.out) (rb_ ho0) hb); have n1_ := am (re_ (by (with_reducible repeat (first | apply ra_ | apply rn_ | apply rd_)); exact HO220.out) (rb_ ho0) hb); have n2_ := am (Kd.R_lower (rw_ ho0 (Kd.R_lt (by (with_reducible repeat (first | apply ra_ | apply rn_ | apply rd_)); exact HO220.out))) (below_size (by repeat (first | (with_reducible first | exact HB.out | apply ba_ | apply pn_ | apply b1_ | refine below_set ?_ GE213.out) | exact HB.out)))); have n3_ := am (blk_below (g := gb213) (o := .cells #[.slice A0_0 l0_0.length c0_0, .int .i64 a0_1, .slice A0_2 l0_2.length c0_2, .slice A0_3 l0_3.length c0_3, .int .i64 a0_4] 37 (0, 0)) (by (with_reducible repeat (first | refine blk_drewN ?_ _ | refine blk_drew ?_ | refine blk_alloc ?_ _)); exact BK213.out) hb); have n4_ := am (below_step (by repeat (first | (with_reducible first | exact HB.out | apply ba_ | apply pn_ | apply b1_ | refine below_set ?_ GE213.out) | exact HB.out)) hb); clear HO217; clear HO220; clear BK213; clear HB; have HO217 := n0_; have HO220 := n1_; have HO224 := n2_; have BK213 := n3_; have HB := n4_; clear n0_ n1_ n2_ n3_ n4_; (try clear hb); (try clear hb2); (try clear hk); (try clear hi); (try clear ho0); have hcz18_0 : w17.cell? ⟨gb213, 0, none⟩ = some (.slice A0_0 l0_0.length c0_0) := (blk_cell BK213.out 0).trans rfl; have hcz18_1 : w17.cell? ⟨gb213, 1, none⟩ = some (.int .i64 a0_1) := (blk_cell BK213.out 1).trans rfl; have hcz18_2 : w17.cell? ⟨gb213, 2, none⟩ = some (.slice A0_2 l0_2.length c0_2) := (blk_cell BK213.out 2).trans rfl; have hcz18_3 : w17.cell? ⟨gb213, 3, none⟩ = some (.slice A0_3 l0_3.length c0_3) := (blk_cell BK213.out 3).trans rfl; have hcz18_4 : w17.cell? ⟨gb213, 4, none⟩ = some (.int .i64 a0_4) := (blk_cell BK213.out 4).trans rfl; have hfz18_0 := blk_frozen BK213.out 0; have hfz18_1 := blk_frozen BK213.out 1; have hfz18_2 := blk_frozen BK213.out 2; have hfz18_3 := blk_frozen BK213.out 3; have hfz18_4 := blk_frozen BK213.out 4) | ((with_reducible refine gate_callee (f := 28) rfl ?_); refine goesL_ (some 39) rfl rfl Try.func28 (by kernel_rfl) rfl #[.slice Ao15 t215.length co15, .int .i64 a0_1, .slice Ao16 t218.length co16] rfl (by (try simp only [ma_, mc_, mn_]); first | done | rfl | (simp only [ld_, lt_]; rfl)) ?_; (with_reducible refine (proofmarkref18_Unit.calls _ _ t215 a0_1 _ _ t218 t225 t226 _ ?side1 ?side2 ?side3 ?side4 A6.out).mono ?_); (case side1 => repeat (first | exact (sr_ HO217.out).2.2 | (with_reducible refine ca_ ?_ _) | (with_reducible refine cn_ ?_ _) | (with_reducible refine cd_ ?_))); (case side2 => exact (sr_ HO217.out).2.1); (case side3 => repeat (first | exact (Kd.R_reads' HO220.out).2.2 | (with_reducible refine ca_ ?_ _) | (with_reducible refine cn_ ?_ _) | (with_reducible refine cd_ ?_))); (case side4 => exact (Kd.R_reads' HO220.out).2.1); rintro e w19 ⟨v227, rfl, ho0, hb⟩; refine ⟨_, rfl, ?_⟩; have n0_ := am (Kd.S_elder' (by (with_reducible repeat (first | apply sa_ | apply sn_ | apply sd_)); exact HO217.out) (rb_ ho0) hb); have n1_ := am (re_ (by (with_reducible repeat (first | apply ra_ | apply rn_ | apply rd_)); exact HO220.out) (rb_ ho0) hb); have n2_ := am (re_ (by (with_reducible repeat (first | apply ra_ | apply rn_ | apply rd_)); exact HO224.out) (rb_ ho0) hb); have n3_ := am (Kd.R_lower (rw_ (rw_ ho0 (Kd.R_lt (by (with_reducible repeat (first | apply ra_ | apply rn_ | apply rd_)); exact HO220.out))) (Kd.R_lt (by (with_reducible repeat (first | apply ra_ | apply rn_ | apply rd_)); exact HO224.out))) (below_size (by repeat (first | (with_reducible first | exact HB.out | apply ba_ | apply pn_ | apply b1_ | refine below_set ?_ GE213.out) | exact HB.out)))); have n4_ := am (blk_below (g := gb213) (o := .cells #[.slice A0_0 l0_0.length c0_0, .int .i64 a0_1, .slice A0_2 l0_2.length c0_2, .slice A0_3 l0_3.length c0_3, .int .i64 a0_4] 37 (0, 0)) (by (with_reducible repeat (first | refine blk_drewN ?_ _ | refine blk_drew ?_ | refine blk_alloc ?_ _)); exact BK213.out) hb); have n5_ := am (below_step (by repeat (first | (with_reducible first | exact HB.out | apply ba_ | apply pn_ | apply b1_ | refine below_set ?_ GE213.out) | exact HB.out)) hb); clear HO217; clear HO220; clear HO224; clear BK213; clear HB; have HO217 := n0_; have HO220 := n1_; have HO224 := n2_; have HO228 := n3_; have BK213 := n4_; have HB := n5_; clear n0_ n1_ n2_ n3_ n4_ n5_; (try clear hb); (try clear hb2); (try clear hk); (try clear hi); (try clear ho0)))
 (try simp only [Act.put, List.setIfInBounds_toArray, List.set_cons_zero, List.set_cons_succ])
 go_cut [72] (fun v72 wc => ∃ (kq : Nat) (x72_6 : Bool), v72 = .bool x72_6 ∧ Aside0 (proofmarklaw18_PropTells.j0 kq t214 t215 t218 x72_6 l0_0 a0_1 l0_2 l0_3 a0_4 = some r) ∧ Aside0 (kq ≤ k) ∧ Aside0 (Kd.S (Kd.slice 3 (Kd.int .i64)) 23 wc w.heap.size (fun k_ => some k_ ≠ ((.slice Ao16 t218.length co16) : Value).ownBlock) (.slice Ao15 t215.length co15) t215) ∧ Aside0 (Kd.R (Kd.int .i64) 3 wc w.heap.size (fun _ => True) (.slice Ao16 t218.length co16) t218) ∧ Aside0 (wc.heap[gb213]? = some (.cells #[(.slice A0_0 l0_0.length c0_0), .int .i64 a0_1, (.slice A0_2 l0_2.length c0_2), (.slice A0_3 l0_3.length c0_3), .int .i64 a0_4] 37 (0, 0))) ∧ Aside0 (Below w.heap.size w wc))
 case first =>
  have H := HC7.out; clear HC7; replace H := Option.bind_eq_some_iff.mp H
  obtain ⟨t229, A200, H⟩ := H
  replace H : ((proofmarkref18_Right.f k t215 a0_1).bind fun t230 => (if (t229 != t230) = true then (proofmarklaw18_PropTells.j0 k t214 t215 t218 true l0_0 a0_1 l0_2 l0_3 a0_4) else ((prop_Met.f t215 l0_3).bind fun t231 => ((proofmarkref18_Met.f k t215 l0_3).bind fun t232 => (if (t231 != t232) = true then (proofmarklaw18_PropTells.j0 k t214 t215 t218 true l0_0 a0_1 l0_2 l0_3 a0_4) else (if (t222 != t226) = true then (proofmarklaw18_PropTells.j0 k t214 t215 t218 true l0_0 a0_1 l0_2 l0_3 a0_4) else ((proofmarkref18_Same.f k t221 t225).bind fun t233 => (proofmarklaw18_PropTells.j0 k t214 t215 t218 (!t233) l0_0 a0_1 l0_2 l0_3 a0_4)))))))) = some r := H
  have A20 := am A200; clear A200; replace H := Option.bind_eq_some_iff.mp H
  obtain ⟨t230, A210, H⟩ := H
  replace H : (if (t229 != t230) = true then (proofmarklaw18_PropTells.j0 k t214 t215 t218 true l0_0 a0_1 l0_2 l0_3 a0_4) else ((prop_Met.f t215 l0_3).bind fun t231 => ((proofmarkref18_Met.f k t215 l0_3).bind fun t232 => (if (t231 != t232) = true then (proofmarklaw18_PropTells.j0 k t214 t215 t218 true l0_0 a0_1 l0_2 l0_3 a0_4) else (if (t222 != t226) = true then (proofmarklaw18_PropTells.j0 k t214 t215 t218 true l0_0 a0_1 l0_2 l0_3 a0_4) else ((proofmarkref18_Same.f k t221 t225).bind fun t233 => (proofmarklaw18_PropTells.j0 k t214 t215 t218 (!t233) l0_0 a0_1 l0_2 l0_3 a0_4))))))) = some r := H
  have A21 := am A210; clear A210
  by_cases c22 : (t229 != t230) = true
  ·rw [if_pos c22] at H
   have c22b0 : (t229 != t230) = true := c22
   (try (have c22b1 : decide (t229 = t230) = false := by simpa using c22))
   (try (have c22b2 : (t229 == t230) = false := by simpa using c22))
   (try (have c22b3 : ¬ (t229 = t230) := by simpa using c22))
   clear c22
   (first | rw [c22b0] | (simp only [i64_w, i32_w]; rw [c22b0]) | skip)
   have H' := am H; clear H; try go_wp2; replace HO217 := am (sd_ HO217.out); replace HO220 := am (rd_ HO220.out); replace HO224 := am (rd_ HO224.out); replace HO228 := am (rd_ HO228.out); replace BK213 := am (blk_drew BK213.out); replace HB := am (b1_ HB.out)
   refine start_ (n := 31) (S := fun w' => w'.cell? ⟨gb213, 0, none⟩ = some (.slice A0_0 l0_0.length c0_0) ∧ w'.cell? ⟨gb213, 1, none⟩ = some (.int .i64 a0_1) ∧ w'.cell? ⟨gb213, 2, none⟩ = some (.slice A0_2 l0_2.length c0_2) ∧ w'.cell? ⟨gb213, 3, none⟩ = some (.slice A0_3 l0_3.length c0_3) ∧ w'.cell? ⟨gb213, 4, none⟩ = some (.int .i64 a0_4)) (ds := []) #[F,F,F,F,F,F,F,F,F,F,F,F,F,F,F,F,F,F,F,F,F,F,F,F,F,F,F,F,F,F,F] (by kernel_rfl) rfl rfl ⟨(blk_cell BK213.out 0).trans rfl, (blk_cell BK213.out 1).trans rfl, (blk_cell BK213.out 2).trans rfl, (blk_cell BK213.out 3).trans rfl, (blk_cell BK213.out 4).trans rfl⟩ (fun hHeld => ?_); refine with_tabW proofmarklaw18_PropTells.tab6 proofmarklaw18_PropTells.bits6 (fun HT_ HW_ => ?_)
   generalize w19.drew = w23 at HO217 HO220 HO224 HO228 BK213 HB hHeld ⊢
   refine pure_ (i := 0) (N := some 42) (v := ?_) (a' := ?_) #[T,F,F,F,F,F,F,F,F,F,F,F,F,F,F,F,F,F,F,F,F,F,F,F,F,F,F,F,F,F,F] rfl rfl (any_of HT_.out (by kernel_rfl)) (fun _ _ _ h => h) (.inl ⟨by rfl, ?_⟩) ?_ ?_
   rotate_left
   ·intro w'; go_simp; with_reducible rfl
   rotate_left
   ·simp only [Act.put, sb1, sb2, sb3, i64_w, i32_w]; rfl
   refine pure_ (i := 1) (N := some 43) (v := ?_) (a' := ?_) #[T,T,F,F,F,F,F,F,F,F,F,F,F,F,F,F,F,F,F,F,F,F,F,F,F,F,F,F,F,F,F] rfl rfl (any_of HT_.out (by kernel_rfl)) (fun _ _ _ h => h) (.inl ⟨by rfl, ?_⟩) ?_ ?_
   rotate_left
   ·intro w'; go_simp; with_reducible rfl
   rotate_left
   ·simp only [Act.put, sb1, sb2, sb3, i64_w, i32_w]; rfl
   refine pure_ (i := 4) (N := some 46) (v := ?_) (a' := ?_) #[T,T,F,F,T,F,F,F,F,F,F,F,F,F,F,F,F,F,F,F,F,F,F,F,F,F,F,F,F,F,F] rfl rfl (any_of HT_.out (by kernel_rfl)) (fun _ _ _ h => h) (.inl ⟨by rfl, ?_⟩) ?_ ?_
   rotate_left
   ·intro w'; go_simp; with_reducible rfl
   rotate_left
   ·simp only [Act.put, sb1, sb2, sb3, i64_w, i32_w]; rfl
   refine pure_ (i := 5) (N := some 47) (v := ?_) (a' := ?_) #[T,T,F,F,T,T,F,F,F,F,F,F,F,F,F,F,F,F,F,F,F,F,F,F,F,F,F,F,F,F,F] rfl rfl (any_of HT_.out (by kernel_rfl)) (fun _ _ _ h => h) (.inl ⟨by rfl, ?_⟩) ?_ ?_
   rotate_left
   ·intro w'; go_simp; with_reducible rfl
   rotate_left
   ·simp only [Act.put, sb1, sb2, sb3, i64_w, i32_w]; rfl
   refine take_ (i := 2) (N := some 44) (v := ?_) (a' := ?_) #[T,T,T,F,T,T,F,F,F,F,F,F,F,F,F,F,F,F,F,F,F,F,F,F,F,F,F,F,F,F,F] rfl rfl (take_ofW HT_.out HW_.out (by kernel_rfl)) (fun _ _ _ h => h) (.inl ⟨by rfl, ?_⟩) hHeld ?_ ?_
   rotate_left
   ·rintro w' ⟨s0, s1, s2, s3, s4⟩
    go_simp; with_reducible rfl
   rotate_left
   ·simp only [Act.put, sb1, sb2, sb3, i64_w, i32_w]; rfl
   refine take_ (i := 6) (N := some 48) (v := ?_) (a' := ?_) #[T,T,T,F,T,T,T,F,F,F,F,F,F,F,F,F,F,F,F,F,F,F,F,F,F,F,F,F,F,F,F] rfl rfl (take_ofW HT_.out HW_.out (by kernel_rfl)) (fun _ _ _ h => h) (.inl ⟨by rfl, ?_⟩) hHeld ?_ ?_
   rotate_left
   ·rintro w' ⟨s0, s1, s2, s3, s4⟩
    go_simp; with_reducible rfl
   rotate_left
   ·simp only [Act.put, sb1, sb2, sb3, i64_w, i32_w]; rfl
   refine one_ (i := 3) (N := some 45) #[T,T,T,T,T,T,T,F,F,F,F,F,F,F,F,F,F,F,F,F,F,F,F,F,F,F,F,F,F,F,F] rfl rfl (one_of HT_.out (by kernel_rfl)) (by decide) (fun K hK => ?_)
   refine goes_ Try.func29 (by kernel_rfl) rfl #[.slice Ao15 t215.length co15, .int .i64 a0_1] (by rfl) rfl rfl (by (try simp only [ma_, mc_, mn_]); first | done | rfl | (simp only [ld_, lt_]; rfl)) ?_
   with_reducible refine (prop_Right.calls k _ _ t215 a0_1 t229 _ ?side1 ?side2 A20.out).mono ?_
   (case side1 => repeat (first | exact (sr_ HO217.out).2.2 | (with_reducible refine ca_ ?_ _) | (with_reducible refine cn_ ?_ _) | (with_reducible refine cd_ ?_)))
   (case side2 => exact (sr_ HO217.out).2.1)
   rintro e w24 ⟨rfl, hb⟩
   refine ⟨_, rfl, ?_⟩
   have n0_ := am (Kd.S_below (by (with_reducible repeat (first | apply sa_ | apply sn_ | apply sd_)); exact HO217.out) hb)
   have n1_ := am (rl_ (by (with_reducible repeat (first | apply ra_ | apply rn_ | apply rd_)); exact HO220.out) hb)
   have n2_ := am (rl_ (by (with_reducible repeat (first | apply ra_ | apply rn_ | apply rd_)); exact HO224.out) hb)
   have n3_ := am (rl_ (by (with_reducible repeat (first | apply ra_ | apply rn_ | apply rd_)); exact HO228.out) hb)
   have n4_ := am (blk_below (g := gb213) (o := .cells #[.slice A0_0 l0_0.length c0_0, .int .i64 a0_1, .slice A0_2 l0_2.length c0_2, .slice A0_3 l0_3.length c0_3, .int .i64 a0_4] 37 (0, 0)) (by (with_reducible repeat (first | refine blk_drewN ?_ _ | refine blk_drew ?_ | refine blk_alloc ?_ _)); exact BK213.out) hb)
   have n5_ := am (below_step (by repeat (first | (with_reducible first | exact HB.out | apply ba_ | apply pn_ | apply b1_ | refine below_set ?_ GE213.out) | exact HB.out)) hb); clear HO217 HO220 HO224 HO228 BK213 HB; have HO217 := n0_; have HO220 := n1_; have HO224 := n2_; have HO228 := n3_; have BK213 := n4_; have HB := n5_; clear n0_ n1_ n2_ n3_ n4_ n5_
   (try clear hb)
   (try clear hb2)
   (try clear hk)
   (try clear hi)
   refine hK.out _ _ ⟨(blk_cell BK213.out 0).trans rfl, (blk_cell BK213.out 1).trans rfl, (blk_cell BK213.out 2).trans rfl, (blk_cell BK213.out 3).trans rfl, (blk_cell BK213.out 4).trans rfl⟩ (fun hHeld => ?_)
   clear hK K
   refine norm_ (a' := ?_) ?_ ?_
   rotate_left
   ·show Act.put _ (some 45) _ = _
    simp only [Act.put, sb1, sb2, sb3, i64_w, i32_w]; rfl
   refine one_ (i := 7) (N := some 49) #[T,T,T,T,T,T,T,T,F,F,F,F,F,F,F,F,F,F,F,F,F,F,F,F,F,F,F,F,F,F,F] rfl rfl (one_of HT_.out (by kernel_rfl)) (by decide) (fun K hK => ?_)
   refine goes_ Try.func30 (by kernel_rfl) rfl #[.slice Ao15 t215.length co15, .int .i64 a0_1] (by rfl) rfl rfl (by (try simp only [ma_, mc_, mn_]); first | done | rfl | (simp only [ld_, lt_]; rfl)) ?_
   with_reducible refine (proofmarkref18_Right.calls k _ _ t215 a0_1 t230 _ ?side1 ?side2 A21.out).mono ?_
   (case side1 => repeat (first | exact (sr_ HO217.out).2.2 | (with_reducible refine ca_ ?_ _) | (with_reducible refine cn_ ?_ _) | (with_reducible refine cd_ ?_)))
   (case side2 => exact (sr_ HO217.out).2.1)
   rintro e w' ⟨rfl, ⟨nd, rfl⟩⟩
   refine ⟨_, rfl, ?_⟩
   refine hK.out _ _ ⟨(blk_cell BK213.out 0).trans rfl, (blk_cell BK213.out 1).trans rfl, (blk_cell BK213.out 2).trans rfl, (blk_cell BK213.out 3).trans rfl, (blk_cell BK213.out 4).trans rfl⟩ (fun hHeld => ?_)
   clear hK K
   refine norm_ (a' := ?_) ?_ ?_
   rotate_left
   ·show Act.put _ (some 49) _ = _
    simp only [Act.put, sb1, sb2, sb3, i64_w, i32_w]; rfl
   refine pure_ (i := 8) (N := some 50) (v := ?_) (a' := ?_) #[T,T,T,T,T,T,T,T,T,F,F,F,F,F,F,F,F,F,F,F,F,F,F,F,F,F,F,F,F,F,F] rfl rfl (any_of HT_.out (by kernel_rfl)) (fun _ _ _ h => h) (.inl ⟨by rfl, ?_⟩) ?_ ?_
   rotate_left
   ·intro w'; go_simp; with_reducible rfl
   rotate_left
   ·simp only [Act.put, sb1, sb2, sb3, i64_w, i32_w]; rfl
   refine pure_ (i := 9) (N := some 51) (v := ?_) (a' := ?_) #[T,T,T,T,T,T,T,T,T,T,F,F,F,F,F,F,F,F,F,F,F,F,F,F,F,F,F,F,F,F,F] rfl rfl (any_of HT_.out (by kernel_rfl)) (fun _ _ _ h => h) (.inl ⟨by rfl, ?_⟩) ?_ ?_
   rotate_left
   ·intro w'; go_simp; with_reducible rfl
   rotate_left
   ·simp only [Act.put, sb1, sb2, sb3, i64_w, i32_w]; rfl
   refine pure_ (i := 10) (N := some 52) (v := undef) (a' := ?_) #[T,T,T,T,T,T,T,T,T,T,T,F,F,F,F,F,F,F,F,F,F,F,F,F,F,F,F,F,F,F,F] rfl rfl (any_of HT_.out (by kernel_rfl)) (fun _ _ _ h => h) (Or.inr ⟨by rfl, rfl⟩) ?_ ?_
   rotate_left
   ·simp only [Act.put, sb1, sb2, sb3, i64_w, i32_w]; rfl
   refine pure_ (i := 11) (N := some 53) (v := undef) (a' := ?_) #[T,T,T,T,T,T,T,T,T,T,T,T,F,F,F,F,F,F,F,F,F,F,F,F,F,F,F,F,F,F,F] rfl rfl (any_of HT_.out (by kernel_rfl)) (fun _ _ _ h => h) (Or.inr ⟨by rfl, rfl⟩) ?_ ?_
   rotate_left
   ·simp only [Act.put, sb1, sb2, sb3, i64_w, i32_w]; rfl
   refine pure_ (i := 12) (N := some 54) (v := undef) (a' := ?_) #[T,T,T,T,T,T,T,T,T,T,T,T,T,F,F,F,F,F,F,F,F,F,F,F,F,F,F,F,F,F,F] rfl rfl (any_of HT_.out (by kernel_rfl)) (fun _ _ _ h => h) (Or.inr ⟨by rfl, rfl⟩) ?_ ?_
   rotate_left
   ·simp only [Act.put, sb1, sb2, sb3, i64_w, i32_w]; rfl
   refine pure_ (i := 13) (N := some 55) (v := undef) (a' := ?_) #[T,T,T,T,T,T,T,T,T,T,T,T,T,T,F,F,F,F,F,F,F,F,F,F,F,F,F,F,F,F,F] rfl rfl (any_of HT_.out (by kernel_rfl)) (fun _ _ _ h => h) (Or.inr ⟨by rfl, rfl⟩) ?_ ?_
   rotate_left
   ·simp only [Act.put, sb1, sb2, sb3, i64_w, i32_w]; rfl
   refine pure_ (i := 14) (N := some 56) (v := undef) (a' := ?_) #[T,T,T,T,T,T,T,T,T,T,T,T,T,T,T,F,F,F,F,F,F,F,F,F,F,F,F,F,F,F,F] rfl rfl (any_of HT_.out (by kernel_rfl)) (fun _ _ _ h => h) (Or.inr ⟨by rfl, rfl⟩) ?_ ?_
   rotate_left
   ·simp only [Act.put, sb1, sb2, sb3, i64_w, i32_w]; rfl
   refine pure_ (i := 15) (N := some 57) (v := undef) (a' := ?_) #[T,T,T,T,T,T,T,T,T,T,T,T,T,T,T,T,F,F,F,F,F,F,F,F,F,F,F,F,F,F,F] rfl rfl (any_of HT_.out (by kernel_rfl)) (fun _ _ _ h => h) (Or.inr ⟨by rfl, rfl⟩) ?_ ?_
   rotate_left
   ·simp only [Act.put, sb1, sb2, sb3, i64_w, i32_w]; rfl
   refine pure_ (i := 16) (N := some 58) (v := undef) (a' := ?_) #[T,T,T,T,T,T,T,T,T,T,T,T,T,T,T,T,T,F,F,F,F,F,F,F,F,F,F,F,F,F,F] rfl rfl (any_of HT_.out (by kernel_rfl)) (fun _ _ _ h => h) (Or.inr ⟨by rfl, rfl⟩) ?_ ?_
   rotate_left
   ·simp only [Act.put, sb1, sb2, sb3, i64_w, i32_w]; rfl
   refine pure_ (i := 17) (N := some 59) (v := undef) (a' := ?_) #[T,T,T,T,T,T,T,T,T,T,T,T,T,T,T,T,T,T,F,F,F,F,F,F,F,F,F,F,F,F,F] rfl rfl (any_of HT_.out (by kernel_rfl)) (fun _ _ _ h => h) (Or.inr ⟨by rfl, rfl⟩) ?_ ?_
   rotate_left
   ·simp only [Act.put, sb1, sb2, sb3, i64_w, i32_w]; rfl
   refine pure_ (i := 18) (N := some 60) (v := undef) (a' := ?_) #[T,T,T,T,T,T,T,T,T,T,T,T,T,T,T,T,T,T,T,F,F,F,F,F,F,F,F,F,F,F,F] rfl rfl (any_of HT_.out (by kernel_rfl)) (fun _ _ _ h => h) (Or.inr ⟨by rfl, rfl⟩) ?_ ?_
   rotate_left
   ·simp only [Act.put, sb1, sb2, sb3, i64_w, i32_w]; rfl
   refine pure_ (i := 19) (N := some 61) (v := ?_) (a' := ?_) #[T,T,T,T,T,T,T,T,T,T,T,T,T,T,T,T,T,T,T,T,F,F,F,F,F,F,F,F,F,F,F] rfl rfl (any_of HT_.out (by kernel_rfl)) (fun _ _ _ h => h) (.inl ⟨by rfl, ?_⟩) ?_ ?_
   rotate_left
   ·intro w'; go_simp; with_reducible rfl
   rotate_left
   ·simp only [Act.put, sb1, sb2, sb3, i64_w, i32_w]; rfl
   refine pure_ (i := 20) (N := some 62) (v := ?_) (a' := ?_) #[T,T,T,T,T,T,T,T,T,T,T,T,T,T,T,T,T,T,T,T,T,F,F,F,F,F,F,F,F,F,F] rfl rfl (any_of HT_.out (by kernel_rfl)) (fun _ _ _ h => h) (.inl ⟨by rfl, ?_⟩) ?_ ?_
   rotate_left
   ·intro w'; go_simp; with_reducible rfl
   rotate_left
   ·simp only [Act.put, sb1, sb2, sb3, i64_w, i32_w]; rfl
   refine pure_ (i := 21) (N := some 63) (v := undef) (a' := ?_) #[T,T,T,T,T,T,T,T,T,T,T,T,T,T,T,T,T,T,T,T,T,T,F,F,F,F,F,F,F,F,F] rfl rfl (any_of HT_.out (by kernel_rfl)) (fun _ _ _ h => h) (Or.inr ⟨by rfl, rfl⟩) ?_ ?_
   rotate_left
   ·simp only [Act.put, sb1, sb2, sb3, i64_w, i32_w]; rfl
   refine pure_ (i := 22) (N := some 64) (v := undef) (a' := ?_) #[T,T,T,T,T,T,T,T,T,T,T,T,T,T,T,T,T,T,T,T,T,T,T,F,F,F,F,F,F,F,F] rfl rfl (any_of HT_.out (by kernel_rfl)) (fun _ _ _ h => h) (Or.inr ⟨by rfl, rfl⟩) ?_ ?_
   rotate_left
   ·simp only [Act.put, sb1, sb2, sb3, i64_w, i32_w]; rfl
   refine pure_ (i := 23) (N := some 65) (v := undef) (a' := ?_) #[T,T,T,T,T,T,T,T,T,T,T,T,T,T,T,T,T,T,T,T,T,T,T,T,F,F,F,F,F,F,F] rfl rfl (any_of HT_.out (by kernel_rfl)) (fun _ _ _ h => h) (Or.inr ⟨by rfl, rfl⟩) ?_ ?_
   rotate_left
   ·simp only [Act.put, sb1, sb2, sb3, i64_w, i32_w]; rfl
   refine pure_ (i := 24) (N := some 66) (v := ?_) (a' := ?_) #[T,T,T,T,T,T,T,T,T,T,T,T,T,T,T,T,T,T,T,T,T,T,T,T,T,F,F,F,F,F,F] rfl rfl (any_of HT_.out (by kernel_rfl)) (fun _ _ _ h => h) (.inl ⟨by rfl, ?_⟩) ?_ ?_
   rotate_left
   ·intro w'; go_simp; with_reducible rfl
   rotate_left
   ·simp only [Act.put, sb1, sb2, sb3, i64_w, i32_w]; rfl
   refine pure_ (i := 25) (N := some 67) (v := ?_) (a' := ?_) #[T,T,T,T,T,T,T,T,T,T,T,T,T,T,T,T,T,T,T,T,T,T,T,T,T,T,F,F,F,F,F] rfl rfl (any_of HT_.out (by kernel_rfl)) (fun _ _ _ h => h) (.inl ⟨by rfl, ?_⟩) ?_ ?_
   rotate_left
   ·intro w'; go_simp; with_reducible rfl
   rotate_left
   ·simp only [Act.put, sb1, sb2, sb3, i64_w, i32_w]; rfl
   refine pure_ (i := 26) (N := some 68) (v := undef) (a' := ?_) #[T,T,T,T,T,T,T,T,T,T,T,T,T,T,T,T,T,T,T,T,T,T,T,T,T,T,T,F,F,F,F] rfl rfl (any_of HT_.out (by kernel_rfl)) (fun _ _ _ h => h) (Or.inr ⟨by rfl, rfl⟩) ?_ ?_
   rotate_left
   ·simp only [Act.put, sb1, sb2, sb3, i64_w, i32_w]; rfl
   refine pure_ (i := 27) (N := some 69) (v := undef) (a' := ?_) #[T,T,T,T,T,T,T,T,T,T,T,T,T,T,T,T,T,T,T,T,T,T,T,T,T,T,T,T,F,F,F] rfl rfl (any_of HT_.out (by kernel_rfl)) (fun _ _ _ h => h) (Or.inr ⟨by rfl, rfl⟩) ?_ ?_
   rotate_left
   ·simp only [Act.put, sb1, sb2, sb3, i64_w, i32_w]; rfl
   refine pure_ (i := 28) (N := some 70) (v := undef) (a' := ?_) #[T,T,T,T,T,T,T,T,T,T,T,T,T,T,T,T,T,T,T,T,T,T,T,T,T,T,T,T,T,F,F] rfl rfl (any_of HT_.out (by kernel_rfl)) (fun _ _ _ h => h) (Or.inr ⟨by rfl, rfl⟩) ?_ ?_
   rotate_left
   ·simp only [Act.put, sb1, sb2, sb3, i64_w, i32_w]; rfl
   refine pure_ (i := 29) (N := some 71) (v := undef) (a' := ?_) #[T,T,T,T,T,T,T,T,T,T,T,T,T,T,T,T,T,T,T,T,T,T,T,T,T,T,T,T,T,T,F] rfl rfl (any_of HT_.out (by kernel_rfl)) (fun _ _ _ h => h) (Or.inr ⟨by rfl, rfl⟩) ?_ ?_
   rotate_left
   ·simp only [Act.put, sb1, sb2, sb3, i64_w, i32_w]; rfl
   refine pure_ (i := 30) (N := some 72) (v := ?_) (a' := ?_) #[T,T,T,T,T,T,T,T,T,T,T,T,T,T,T,T,T,T,T,T,T,T,T,T,T,T,T,T,T,T,T] rfl rfl (any_of HT_.out (by kernel_rfl)) (fun _ _ _ h => h) (.inl ⟨by rfl, ?_⟩) ?_ ?_
   rotate_left
   ·intro w'; go_simp; with_reducible rfl
   rotate_left
   ·simp only [Act.put, sb1, sb2, sb3, i64_w, i32_w]; rfl
   refine done_ (done_of HT_.out (by kernel_rfl)) ?_
   try go_wp2
   go_meet
   case rel => exact ⟨_, (true), (by first | rfl | (simp; done) | (simp [*]; done) | (simp [bne_nil_]; done)), H', ⟨by first | omega | exact Nat.le_refl _⟩, ⟨by (with_reducible repeat (first | apply sa_ | apply sn_ | apply sd_)); exact Kd.S_mono HO217.out (fun _ hk => hk.1.1.2)⟩, ⟨by (with_reducible repeat (first | apply ra_ | apply rn_ | apply rd_)); exact Kd.R_mono HO220.out (fun _ hk => trivial)⟩, ⟨by (with_reducible repeat (first | refine blk_drewN ?_ _ | refine blk_drew ?_ | refine blk_alloc ?_ _)); exact BK213.out⟩, ⟨by repeat (first | (with_reducible first | exact HB.out | apply ba_ | apply pn_ | apply b1_ | refine below_set ?_ GE213.out) | exact HB.out)⟩⟩
  ·rw [if_neg c22] at H
   have c22b0 : (t229 != t230) = false := by simpa using c22
   (try (have c22b1 : decide (t229 = t230) = true := by simpa using c22))
   (try (have c22b2 : (t229 == t230) = true := by simpa using c22))
   clear c22
   (first | rw [c22b0] | (simp only [i64_w, i32_w]; rw [c22b0]) | skip)
   replace H := Option.bind_eq_some_iff.mp H
   obtain ⟨t231, A250, H⟩ := H
   replace H : ((proofmarkref18_Met.f k t215 l0_3).bind fun t232 => (if (t231 != t232) = true then (proofmarklaw18_PropTells.j0 k t214 t215 t218 true l0_0 a0_1 l0_2 l0_3 a0_4) else (if (t222 != t226) = true then (proofmarklaw18_PropTells.j0 k t214 t215 t218 true l0_0 a0_1 l0_2 l0_3 a0_4) else ((proofmarkref18_Same.f k t221 t225).bind fun t233 => (proofmarklaw18_PropTells.j0 k t214 t215 t218 (!t233) l0_0 a0_1 l0_2 l0_3 a0_4))))) = some r := H
   have A25 := am A250; clear A250; replace H := Option.bind_eq_some_iff.mp H
   obtain ⟨t232, A260, H⟩ := H
   replace H : (if (t231 != t232) = true then (proofmarklaw18_PropTells.j0 k t214 t215 t218 true l0_0 a0_1 l0_2 l0_3 a0_4) else (if (t222 != t226) = true then (proofmarklaw18_PropTells.j0 k t214 t215 t218 true l0_0 a0_1 l0_2 l0_3 a0_4) else ((proofmarkref18_Same.f k t221 t225).bind fun t233 => (proofmarklaw18_PropTells.j0 k t214 t215 t218 (!t233) l0_0 a0_1 l0_2 l0_3 a0_4)))) = some r := H
   have A26 := am A260; clear A260
   by_cases c27 : (t231 != t232) = true
   ·rw [if_pos c27] at H
    have c27b0 : (t231 != t232) = true := c27
    (try (have c27b1 : decide (t231 = t232) = false := by simpa using c27))
    (try (have c27b2 : (t231 == t232) = false := by simpa using c27))
    (try (have c27b3 : ¬ (t231 = t232) := by simpa using c27))
    clear c27; have H' := am H; clear H; try go_wp2; replace HO217 := am (sd_ HO217.out); replace HO220 := am (rd_ HO220.out); replace HO224 := am (rd_ HO224.out); replace HO228 := am (rd_ HO228.out); replace BK213 := am (blk_drew BK213.out); replace HB := am (b1_ HB.out)
    refine start_ (n := 31) (S := fun w' => w'.cell? ⟨gb213, 0, none⟩ = some (.slice A0_0 l0_0.length c0_0) ∧ w'.cell? ⟨gb213, 1, none⟩ = some (.int .i64 a0_1) ∧ w'.cell? ⟨gb213, 2, none⟩ = some (.slice A0_2 l0_2.length c0_2) ∧ w'.cell? ⟨gb213, 3, none⟩ = some (.slice A0_3 l0_3.length c0_3) ∧ w'.cell? ⟨gb213, 4, none⟩ = some (.int .i64 a0_4)) (ds := []) #[F,F,F,F,F,F,F,F,F,F,F,F,F,F,F,F,F,F,F,F,F,F,F,F,F,F,F,F,F,F,F] (by kernel_rfl) rfl rfl ⟨(blk_cell BK213.out 0).trans rfl, (blk_cell BK213.out 1).trans rfl, (blk_cell BK213.out 2).trans rfl, (blk_cell BK213.out 3).trans rfl, (blk_cell BK213.out 4).trans rfl⟩ (fun hHeld => ?_); refine with_tabW proofmarklaw18_PropTells.tab6 proofmarklaw18_PropTells.bits6 (fun HT_ HW_ => ?_)
    generalize w19.drew = w28 at HO217 HO220 HO224 HO228 BK213 HB hHeld ⊢
    refine pure_ (i := 0) (N := some 42) (v := ?_) (a' := ?_) #[T,F,F,F,F,F,F,F,F,F,F,F,F,F,F,F,F,F,F,F,F,F,F,F,F,F,F,F,F,F,F] rfl rfl (any_of HT_.out (by kernel_rfl)) (fun _ _ _ h => h) (.inl ⟨by rfl, ?_⟩) ?_ ?_
    rotate_left
    ·intro w'; go_simp; with_reducible rfl
    rotate_left
    ·simp only [Act.put, sb1, sb2, sb3, i64_w, i32_w]; rfl
    refine pure_ (i := 1) (N := some 43) (v := ?_) (a' := ?_) #[T,T,F,F,F,F,F,F,F,F,F,F,F,F,F,F,F,F,F,F,F,F,F,F,F,F,F,F,F,F,F] rfl rfl (any_of HT_.out (by kernel_rfl)) (fun _ _ _ h => h) (.inl ⟨by rfl, ?_⟩) ?_ ?_
    rotate_left
    ·intro w'; go_simp; with_reducible rfl
    rotate_left
    ·simp only [Act.put, sb1, sb2, sb3, i64_w, i32_w]; rfl
    refine pure_ (i := 4) (N := some 46) (v := ?_) (a' := ?_) #[T,T,F,F,T,F,F,F,F,F,F,F,F,F,F,F,F,F,F,F,F,F,F,F,F,F,F,F,F,F,F] rfl rfl (any_of HT_.out (by kernel_rfl)) (fun _ _ _ h => h) (.inl ⟨by rfl, ?_⟩) ?_ ?_
    rotate_left
    ·intro w'; go_simp; with_reducible rfl
    rotate_left
    ·simp only [Act.put, sb1, sb2, sb3, i64_w, i32_w]; rfl
    refine pure_ (i := 5) (N := some 47) (v := ?_) (a' := ?_) #[T,T,F,F,T,T,F,F,F,F,F,F,F,F,F,F,F,F,F,F,F,F,F,F,F,F,F,F,F,F,F] rfl rfl (any_of HT_.out (by kernel_rfl)) (fun _ _ _ h => h) (.inl ⟨by rfl, ?_⟩) ?_ ?_
    rotate_left
    ·intro w'; go_simp; with_reducible rfl
    rotate_left
    ·simp only [Act.put, sb1, sb2, sb3, i64_w, i32_w]; rfl
    refine take_ (i := 2) (N := some 44) (v := ?_) (a' := ?_) #[T,T,T,F,T,T,F,F,F,F,F,F,F,F,F,F,F,F,F,F,F,F,F,F,F,F,F,F,F,F,F] rfl rfl (take_ofW HT_.out HW_.out (by kernel_rfl)) (fun _ _ _ h => h) (.inl ⟨by rfl, ?_⟩) hHeld ?_ ?_
    rotate_left
    ·rintro w' ⟨s0, s1, s2, s3, s4⟩
     go_simp; with_reducible rfl
    rotate_left
    ·simp only [Act.put, sb1, sb2, sb3, i64_w, i32_w]; rfl
    refine take_ (i := 6) (N := some 48) (v := ?_) (a' := ?_) #[T,T,T,F,T,T,T,F,F,F,F,F,F,F,F,F,F,F,F,F,F,F,F,F,F,F,F,F,F,F,F] rfl rfl (take_ofW HT_.out HW_.out (by kernel_rfl)) (fun _ _ _ h => h) (.inl ⟨by rfl, ?_⟩) hHeld ?_ ?_
    rotate_left
    ·rintro w' ⟨s0, s1, s2, s3, s4⟩
     go_simp; with_reducible rfl
    rotate_left
    ·simp only [Act.put, sb1, sb2, sb3, i64_w, i32_w]; rfl
    refine one_ (i := 3) (N := some 45) #[T,T,T,T,T,T,T,F,F,F,F,F,F,F,F,F,F,F,F,F,F,F,F,F,F,F,F,F,F,F,F] rfl rfl (one_of HT_.out (by kernel_rfl)) (by decide) (fun K hK => ?_)
    refine goes_ Try.func29 (by kernel_rfl) rfl #[.slice Ao15 t215.length co15, .int .i64 a0_1] (by rfl) rfl rfl (by (try simp only [ma_, mc_, mn_]); first | done | rfl | (simp only [ld_, lt_]; rfl)) ?_
    with_reducible refine (prop_Right.calls k _ _ t215 a0_1 t229 _ ?side1 ?side2 A20.out).mono ?_
    (case side1 => repeat (first | exact (sr_ HO217.out).2.2 | (with_reducible refine ca_ ?_ _) | (with_reducible refine cn_ ?_ _) | (with_reducible refine cd_ ?_)))
    (case side2 => exact (sr_ HO217.out).2.1)
    rintro e w29 ⟨rfl, hb⟩
    refine ⟨_, rfl, ?_⟩
    have n0_ := am (Kd.S_below (by (with_reducible repeat (first | apply sa_ | apply sn_ | apply sd_)); exact HO217.out) hb)
    have n1_ := am (rl_ (by (with_reducible repeat (first | apply ra_ | apply rn_ | apply rd_)); exact HO220.out) hb)
    have n2_ := am (rl_ (by (with_reducible repeat (first | apply ra_ | apply rn_ | apply rd_)); exact HO224.out) hb)
    have n3_ := am (rl_ (by (with_reducible repeat (first | apply ra_ | apply rn_ | apply rd_)); exact HO228.out) hb)
    have n4_ := am (blk_below (g := gb213) (o := .cells #[.slice A0_0 l0_0.length c0_0, .int .i64 a0_1, .slice A0_2 l0_2.length c0_2, .slice A0_3 l0_3.length c0_3, .int .i64 a0_4] 37 (0, 0)) (by (with_reducible repeat (first | refine blk_drewN ?_ _ | refine blk_drew ?_ | refine blk_alloc ?_ _)); exact BK213.out) hb)
    have n5_ := am (below_step (by repeat (first | (with_reducible first | exact HB.out | apply ba_ | apply pn_ | apply b1_ | refine below_set ?_ GE213.out) | exact HB.out)) hb); clear HO217 HO220 HO224 HO228 BK213 HB; have HO217 := n0_; have HO220 := n1_; have HO224 := n2_; have HO228 := n3_; have BK213 := n4_; have HB := n5_; clear n0_ n1_ n2_ n3_ n4_ n5_
    (try clear hb)
    (try clear hb2)
    (try clear hk)
    (try clear hi)
    refine hK.out _ _ ⟨(blk_cell BK213.out 0).trans rfl, (blk_cell BK213.out 1).trans rfl, (blk_cell BK213.out 2).trans rfl, (blk_cell BK213.out 3).trans rfl, (blk_cell BK213.out 4).trans rfl⟩ (fun hHeld => ?_)
    clear hK K
    refine norm_ (a' := ?_) ?_ ?_
    rotate_left
    ·show Act.put _ (some 45) _ = _
     simp only [Act.put, sb1, sb2, sb3, i64_w, i32_w]; rfl
    refine one_ (i := 7) (N := some 49) #[T,T,T,T,T,T,T,T,F,F,F,F,F,F,F,F,F,F,F,F,F,F,F,F,F,F,F,F,F,F,F] rfl rfl (one_of HT_.out (by kernel_rfl)) (by decide) (fun K hK => ?_)
    refine goes_ Try.func30 (by kernel_rfl) rfl #[.slice Ao15 t215.length co15, .int .i64 a0_1] (by rfl) rfl rfl (by (try simp only [ma_, mc_, mn_]); first | done | rfl | (simp only [ld_, lt_]; rfl)) ?_
    with_reducible refine (proofmarkref18_Right.calls k _ _ t215 a0_1 t230 _ ?side1 ?side2 A21.out).mono ?_
    (case side1 => repeat (first | exact (sr_ HO217.out).2.2 | (with_reducible refine ca_ ?_ _) | (with_reducible refine cn_ ?_ _) | (with_reducible refine cd_ ?_)))
    (case side2 => exact (sr_ HO217.out).2.1)
    rintro e w' ⟨rfl, ⟨nd, rfl⟩⟩
    refine ⟨_, rfl, ?_⟩
    refine hK.out _ _ ⟨(blk_cell BK213.out 0).trans rfl, (blk_cell BK213.out 1).trans rfl, (blk_cell BK213.out 2).trans rfl, (blk_cell BK213.out 3).trans rfl, (blk_cell BK213.out 4).trans rfl⟩ (fun hHeld => ?_)
    clear hK K
    refine norm_ (a' := ?_) ?_ ?_
    rotate_left
    ·show Act.put _ (some 49) _ = _
     simp only [Act.put, sb1, sb2, sb3, i64_w, i32_w]; rfl
    refine pure_ (i := 8) (N := some 50) (v := ?_) (a' := ?_) #[T,T,T,T,T,T,T,T,T,F,F,F,F,F,F,F,F,F,F,F,F,F,F,F,F,F,F,F,F,F,F] rfl rfl (any_of HT_.out (by kernel_rfl)) (fun _ _ _ h => h) (.inl ⟨by rfl, ?_⟩) ?_ ?_
    rotate_left
    ·intro w'; go_simp; with_reducible rfl
    rotate_left
    ·simp only [Act.put, sb1, sb2, sb3, i64_w, i32_w]; rfl
    refine pure_ (i := 9) (N := some 51) (v := ?_) (a' := ?_) #[T,T,T,T,T,T,T,T,T,T,F,F,F,F,F,F,F,F,F,F,F,F,F,F,F,F,F,F,F,F,F] rfl rfl (any_of HT_.out (by kernel_rfl)) (fun _ _ _ h => h) (.inl ⟨by rfl, ?_⟩) ?_ ?_
    rotate_left
    ·intro w'; go_simp; with_reducible rfl
    rotate_left
    ·simp only [Act.put, sb1, sb2, sb3, i64_w, i32_w]; rfl
    refine pure_ (i := 10) (N := some 52) (v := ?_) (a' := ?_) #[T,T,T,T,T,T,T,T,T,T,T,F,F,F,F,F,F,F,F,F,F,F,F,F,F,F,F,F,F,F,F] rfl rfl (any_of HT_.out (by kernel_rfl)) (fun _ _ _ h => h) (.inl ⟨by rfl, ?_⟩) ?_ ?_
    rotate_left
    ·intro w'; go_simp; with_reducible rfl
    rotate_left
    ·simp only [Act.put, sb1, sb2, sb3, i64_w, i32_w]; rfl
    refine pure_ (i := 11) (N := some 53) (v := ?_) (a' := ?_) #[T,T,T,T,T,T,T,T,T,T,T,T,F,F,F,F,F,F,F,F,F,F,F,F,F,F,F,F,F,F,F] rfl rfl (any_of HT_.out (by kernel_rfl)) (fun _ _ _ h => h) (.inl ⟨by rfl, ?_⟩) ?_ ?_
    rotate_left
    ·intro w'; go_simp; with_reducible rfl
    rotate_left
    ·simp only [Act.put, sb1, sb2, sb3, i64_w, i32_w]; rfl
    refine pure_ (i := 14) (N := some 56) (v := ?_) (a' := ?_) #[T,T,T,T,T,T,T,T,T,T,T,T,F,F,T,F,F,F,F,F,F,F,F,F,F,F,F,F,F,F,F] rfl rfl (any_of HT_.out (by kernel_rfl)) (fun _ _ _ h => h) (.inl ⟨by rfl, ?_⟩) ?_ ?_
    rotate_left
    ·intro w'; go_simp; with_reducible rfl
    rotate_left
    ·simp only [Act.put, sb1, sb2, sb3, i64_w, i32_w]; rfl
    refine pure_ (i := 15) (N := some 57) (v := ?_) (a' := ?_) #[T,T,T,T,T,T,T,T,T,T,T,T,F,F,T,T,F,F,F,F,F,F,F,F,F,F,F,F,F,F,F] rfl rfl (any_of HT_.out (by kernel_rfl)) (fun _ _ _ h => h) (.inl ⟨by rfl, ?_⟩) ?_ ?_
    rotate_left
    ·intro w'; go_simp; with_reducible rfl
    rotate_left
    ·simp only [Act.put, sb1, sb2, sb3, i64_w, i32_w]; rfl
    refine take_ (i := 12) (N := some 54) (v := ?_) (a' := ?_) #[T,T,T,T,T,T,T,T,T,T,T,T,T,F,T,T,F,F,F,F,F,F,F,F,F,F,F,F,F,F,F] rfl rfl (take_ofW HT_.out HW_.out (by kernel_rfl)) (fun _ _ _ h => h) (.inl ⟨by rfl, ?_⟩) hHeld ?_ ?_
    rotate_left
    ·rintro w' ⟨s0, s1, s2, s3, s4⟩
     go_simp; with_reducible rfl
    rotate_left
    ·simp only [Act.put, sb1, sb2, sb3, i64_w, i32_w]; rfl
    refine take_ (i := 16) (N := some 58) (v := ?_) (a' := ?_) #[T,T,T,T,T,T,T,T,T,T,T,T,T,F,T,T,T,F,F,F,F,F,F,F,F,F,F,F,F,F,F] rfl rfl (take_ofW HT_.out HW_.out (by kernel_rfl)) (fun _ _ _ h => h) (.inl ⟨by rfl, ?_⟩) hHeld ?_ ?_
    rotate_left
    ·rintro w' ⟨s0, s1, s2, s3, s4⟩
     go_simp; with_reducible rfl
    rotate_left
    ·simp only [Act.put, sb1, sb2, sb3, i64_w, i32_w]; rfl
    refine one_ (i := 13) (N := some 55) #[T,T,T,T,T,T,T,T,T,T,T,T,T,T,T,T,T,F,F,F,F,F,F,F,F,F,F,F,F,F,F] rfl rfl (one_of HT_.out (by kernel_rfl)) (by decide) (fun K hK => ?_)
    refine goes_ Try.func31 (by kernel_rfl) rfl #[.slice Ao15 t215.length co15, .slice A0_3 l0_3.length c0_3] (by rfl) rfl rfl (by (try simp only [ma_, mc_, mn_]); first | done | rfl | (simp only [ld_, lt_]; rfl)) ?_
    with_reducible refine (prop_Met.calls _ _ t215 _ _ l0_3 t231 _ ?side1 ?side2 ?side3 ?side4 A25.out).mono ?_
    (case side1 => repeat (first | exact (sr_ HO217.out).2.2 | (with_reducible refine ca_ ?_ _) | (with_reducible refine cn_ ?_ _) | (with_reducible refine cd_ ?_)))
    (case side2 => exact (sr_ HO217.out).2.1)
    (case side3 => repeat (first | exact (cb_ HR0_3.out (by repeat (first | (with_reducible first | exact HB.out | apply ba_ | apply pn_ | apply b1_ | refine below_set ?_ GE213.out) | exact HB.out))) | (with_reducible refine ca_ ?_ _) | (with_reducible refine cn_ ?_ _) | (with_reducible refine cd_ ?_)))
    (case side4 => exact HC0_3.out)
    rintro e w30 ⟨rfl, hb⟩
    refine ⟨_, rfl, ?_⟩
    have n0_ := am (Kd.S_below (by (with_reducible repeat (first | apply sa_ | apply sn_ | apply sd_)); exact HO217.out) hb)
    have n1_ := am (rl_ (by (with_reducible repeat (first | apply ra_ | apply rn_ | apply rd_)); exact HO220.out) hb)
    have n2_ := am (rl_ (by (with_reducible repeat (first | apply ra_ | apply rn_ | apply rd_)); exact HO224.out) hb)
    have n3_ := am (rl_ (by (with_reducible repeat (first | apply ra_ | apply rn_ | apply rd_)); exact HO228.out) hb)
    have n4_ := am (blk_below (g := gb213) (o := .cells #[.slice A0_0 l0_0.length c0_0, .int .i64 a0_1, .slice A0_2 l0_2.length c0_2, .slice A0_3 l0_3.length c0_3, .int .i64 a0_4] 37 (0, 0)) (by (with_reducible repeat (first | refine blk_drewN ?_ _ | refine blk_drew ?_ | refine blk_alloc ?_ _)); exact BK213.out) hb)
    have n5_ := am (below_step (by repeat (first | (with_reducible first | exact HB.out | apply ba_ | apply pn_ | apply b1_ | refine below_set ?_ GE213.out) | exact HB.out)) hb); clear HO217 HO220 HO224 HO228 BK213 HB; have HO217 := n0_; have HO220 := n1_; have HO224 := n2_; have HO228 := n3_; have BK213 := n4_; have HB := n5_; clear n0_ n1_ n2_ n3_ n4_ n5_
    (try clear hb)
    (try clear hb2)
    (try clear hk)
    (try clear hi)
    refine hK.out _ _ ⟨(blk_cell BK213.out 0).trans rfl, (blk_cell BK213.out 1).trans rfl, (blk_cell BK213.out 2).trans rfl, (blk_cell BK213.out 3).trans rfl, (blk_cell BK213.out 4).trans rfl⟩ (fun hHeld => ?_)
    clear hK K
    refine norm_ (a' := ?_) ?_ ?_
    rotate_left
    ·show Act.put _ (some 55) _ = _
     simp only [Act.put, sb1, sb2, sb3, i64_w, i32_w]; rfl
    refine one_ (i := 17) (N := some 59) #[T,T,T,T,T,T,T,T,T,T,T,T,T,T,T,T,T,T,F,F,F,F,F,F,F,F,F,F,F,F,F] rfl rfl (one_of HT_.out (by kernel_rfl)) (by decide) (fun K hK => ?_)
    refine goes_ Try.func32 (by kernel_rfl) rfl #[.slice Ao15 t215.length co15, .slice A0_3 l0_3.length c0_3] (by rfl) rfl rfl (by (try simp only [ma_, mc_, mn_]); first | done | rfl | (simp only [ld_, lt_]; rfl)) ?_
    with_reducible refine (proofmarkref18_Met.calls k _ _ t215 _ _ l0_3 t232 _ ?side1 ?side2 ?side3 ?side4 A26.out).mono ?_
    (case side1 => repeat (first | exact (sr_ HO217.out).2.2 | (with_reducible refine ca_ ?_ _) | (with_reducible refine cn_ ?_ _) | (with_reducible refine cd_ ?_)))
    (case side2 => exact (sr_ HO217.out).2.1)
    (case side3 => repeat (first | exact (cb_ HR0_3.out HB.out) | (with_reducible refine ca_ ?_ _) | (with_reducible refine cn_ ?_ _) | (with_reducible refine cd_ ?_)))
    (case side4 => exact HC0_3.out)
    rintro e w' ⟨rfl, ⟨nd, rfl⟩⟩
    refine ⟨_, rfl, ?_⟩
    refine hK.out _ _ ⟨(blk_cell BK213.out 0).trans rfl, (blk_cell BK213.out 1).trans rfl, (blk_cell BK213.out 2).trans rfl, (blk_cell BK213.out 3).trans rfl, (blk_cell BK213.out 4).trans rfl⟩ (fun hHeld => ?_)
    clear hK K
    refine norm_ (a' := ?_) ?_ ?_
    rotate_left
    ·show Act.put _ (some 59) _ = _
     simp only [Act.put, sb1, sb2, sb3, i64_w, i32_w]; rfl
    refine pure_ (i := 18) (N := some 60) (v := ?_) (a' := ?_) #[T,T,T,T,T,T,T,T,T,T,T,T,T,T,T,T,T,T,T,F,F,F,F,F,F,F,F,F,F,F,F] rfl rfl (any_of HT_.out (by kernel_rfl)) (fun _ _ _ h => h) (.inl ⟨by rfl, ?_⟩) ?_ ?_
    rotate_left
    ·intro w'; go_simp; with_reducible rfl
    rotate_left
    ·simp only [Act.put, sb1, sb2, sb3, i64_w, i32_w]; rfl
    refine pure_ (i := 19) (N := some 61) (v := ?_) (a' := ?_) #[T,T,T,T,T,T,T,T,T,T,T,T,T,T,T,T,T,T,T,T,F,F,F,F,F,F,F,F,F,F,F] rfl rfl (any_of HT_.out (by kernel_rfl)) (fun _ _ _ h => h) (.inl ⟨by rfl, ?_⟩) ?_ ?_
    rotate_left
    ·intro w'; go_simp; with_reducible rfl
    rotate_left
    ·simp only [Act.put, sb1, sb2, sb3, i64_w, i32_w]; rfl
    refine pure_ (i := 20) (N := some 62) (v := ?_) (a' := ?_) #[T,T,T,T,T,T,T,T,T,T,T,T,T,T,T,T,T,T,T,T,T,F,F,F,F,F,F,F,F,F,F] rfl rfl (any_of HT_.out (by kernel_rfl)) (fun _ _ _ h => h) (.inl ⟨by rfl, ?_⟩) ?_ ?_
    rotate_left
    ·intro w'; go_simp; with_reducible rfl
    rotate_left
    ·simp only [Act.put, sb1, sb2, sb3, i64_w, i32_w]; rfl
    refine pure_ (i := 21) (N := some 63) (v := undef) (a' := ?_) #[T,T,T,T,T,T,T,T,T,T,T,T,T,T,T,T,T,T,T,T,T,T,F,F,F,F,F,F,F,F,F] rfl rfl (any_of HT_.out (by kernel_rfl)) (fun _ _ _ h => h) (Or.inr ⟨by rfl, rfl⟩) ?_ ?_
    rotate_left
    ·simp only [Act.put, sb1, sb2, sb3, i64_w, i32_w]; rfl
    refine pure_ (i := 22) (N := some 64) (v := undef) (a' := ?_) #[T,T,T,T,T,T,T,T,T,T,T,T,T,T,T,T,T,T,T,T,T,T,T,F,F,F,F,F,F,F,F] rfl rfl (any_of HT_.out (by kernel_rfl)) (fun _ _ _ h => h) (Or.inr ⟨by rfl, rfl⟩) ?_ ?_
    rotate_left
    ·simp only [Act.put, sb1, sb2, sb3, i64_w, i32_w]; rfl
    refine pure_ (i := 23) (N := some 65) (v := undef) (a' := ?_) #[T,T,T,T,T,T,T,T,T,T,T,T,T,T,T,T,T,T,T,T,T,T,T,T,F,F,F,F,F,F,F] rfl rfl (any_of HT_.out (by kernel_rfl)) (fun _ _ _ h => h) (Or.inr ⟨by rfl, rfl⟩) ?_ ?_
    rotate_left
    ·simp only [Act.put, sb1, sb2, sb3, i64_w, i32_w]; rfl
    refine pure_ (i := 24) (N := some 66) (v := ?_) (a' := ?_) #[T,T,T,T,T,T,T,T,T,T,T,T,T,T,T,T,T,T,T,T,T,T,T,T,T,F,F,F,F,F,F] rfl rfl (any_of HT_.out (by kernel_rfl)) (fun _ _ _ h => h) (.inl ⟨by rfl, ?_⟩) ?_ ?_
    rotate_left
    ·intro w'; go_simp; with_reducible rfl
    rotate_left
    ·simp only [Act.put, sb1, sb2, sb3, i64_w, i32_w]; rfl
    refine pure_ (i := 25) (N := some 67) (v := ?_) (a' := ?_) #[T,T,T,T,T,T,T,T,T,T,T,T,T,T,T,T,T,T,T,T,T,T,T,T,T,T,F,F,F,F,F] rfl rfl (any_of HT_.out (by kernel_rfl)) (fun _ _ _ h => h) (.inl ⟨by rfl, ?_⟩) ?_ ?_
    rotate_left
    ·intro w'; go_simp; with_reducible rfl
    rotate_left
    ·simp only [Act.put, sb1, sb2, sb3, i64_w, i32_w]; rfl
    refine pure_ (i := 26) (N := some 68) (v := undef) (a' := ?_) #[T,T,T,T,T,T,T,T,T,T,T,T,T,T,T,T,T,T,T,T,T,T,T,T,T,T,T,F,F,F,F] rfl rfl (any_of HT_.out (by kernel_rfl)) (fun _ _ _ h => h) (Or.inr ⟨by rfl, rfl⟩) ?_ ?_
    rotate_left
    ·simp only [Act.put, sb1, sb2, sb3, i64_w, i32_w]; rfl
    refine pure_ (i := 27) (N := some 69) (v := undef) (a' := ?_) #[T,T,T,T,T,T,T,T,T,T,T,T,T,T,T,T,T,T,T,T,T,T,T,T,T,T,T,T,F,F,F] rfl rfl (any_of HT_.out (by kernel_rfl)) (fun _ _ _ h => h) (Or.inr ⟨by rfl, rfl⟩) ?_ ?_
    rotate_left
    ·simp only [Act.put, sb1, sb2, sb3, i64_w, i32_w]; rfl
    refine pure_ (i := 28) (N := some 70) (v := undef) (a' := ?_) #[T,T,T,T,T,T,T,T,T,T,T,T,T,T,T,T,T,T,T,T,T,T,T,T,T,T,T,T,T,F,F] rfl rfl (any_of HT_.out (by kernel_rfl)) (fun _ _ _ h => h) (Or.inr ⟨by rfl, rfl⟩) ?_ ?_
    rotate_left
    ·simp only [Act.put, sb1, sb2, sb3, i64_w, i32_w]; rfl
    refine pure_ (i := 29) (N := some 71) (v := undef) (a' := ?_) #[T,T,T,T,T,T,T,T,T,T,T,T,T,T,T,T,T,T,T,T,T,T,T,T,T,T,T,T,T,T,F] rfl rfl (any_of HT_.out (by kernel_rfl)) (fun _ _ _ h => h) (Or.inr ⟨by rfl, rfl⟩) ?_ ?_
    rotate_left
    ·simp only [Act.put, sb1, sb2, sb3, i64_w, i32_w]; rfl
    refine pure_ (i := 30) (N := some 72) (v := ?_) (a' := ?_) #[T,T,T,T,T,T,T,T,T,T,T,T,T,T,T,T,T,T,T,T,T,T,T,T,T,T,T,T,T,T,T] rfl rfl (any_of HT_.out (by kernel_rfl)) (fun _ _ _ h => h) (.inl ⟨by rfl, ?_⟩) ?_ ?_
    rotate_left
    ·intro w'; go_simp; with_reducible rfl
    rotate_left
    ·simp only [Act.put, sb1, sb2, sb3, i64_w, i32_w]; rfl
    refine done_ (done_of HT_.out (by kernel_rfl)) ?_
    try go_wp2
    go_meet
    case rel => exact ⟨_, (true), (by first | rfl | (simp; done) | (simp [*]; done) | (simp [bne_nil_]; done)), H', ⟨by first | omega | exact Nat.le_refl _⟩, ⟨by (with_reducible repeat (first | apply sa_ | apply sn_ | apply sd_)); exact Kd.S_mono HO217.out (fun _ hk => hk.1.1.2)⟩, ⟨by (with_reducible repeat (first | apply ra_ | apply rn_ | apply rd_)); exact Kd.R_mono HO220.out (fun _ hk => trivial)⟩, ⟨by (with_reducible repeat (first | refine blk_drewN ?_ _ | refine blk_drew ?_ | refine blk_alloc ?_ _)); exact BK213.out⟩, ⟨by repeat (first | (with_reducible first | exact HB.out | apply ba_ | apply pn_ | apply b1_ | refine below_set ?_ GE213.out) | exact HB.out)⟩⟩
   ·rw [if_neg c27] at H
    have c27b0 : (t231 != t232) = false := by simpa using c27
    (try (have c27b1 : decide (t231 = t232) = true := by simpa using c27))
    (try (have c27b2 : (t231 == t232) = true := by simpa using c27))
    clear c27
    by_cases c31 : (t222 != t226) = true
    ·rw [if_pos c31] at H
     have c31b0 : (t222 != t226) = true := c31
     (try (have c31b1 : decide (t222 = t226) = false := by simpa using c31))
     (try (have c31b2 : (t222 == t226) = false := by simpa using c31))
     (try (have c31b3 : ¬ (t222 = t226) := by simpa using c31))
     clear c31; have H' := am H; clear H; try go_wp2; replace HO217 := am (sd_ HO217.out); replace HO220 := am (rd_ HO220.out); replace HO224 := am (rd_ HO224.out); replace HO228 := am (rd_ HO228.out); replace BK213 := am (blk_drew BK213.out); replace HB := am (b1_ HB.out)
     refine start_ (n := 31) (S := fun w' => w'.cell? ⟨gb213, 0, none⟩ = some (.slice A0_0 l0_0.length c0_0) ∧ w'.cell? ⟨gb213, 1, none⟩ = some (.int .i64 a0_1) ∧ w'.cell? ⟨gb213, 2, none⟩ = some (.slice A0_2 l0_2.length c0_2) ∧ w'.cell? ⟨gb213, 3, none⟩ = some (.slice A0_3 l0_3.length c0_3) ∧ w'.cell? ⟨gb213, 4, none⟩ = some (.int .i64 a0_4)) (ds := []) #[F,F,F,F,F,F,F,F,F,F,F,F,F,F,F,F,F,F,F,F,F,F,F,F,F,F,F,F,F,F,F] (by kernel_rfl) rfl rfl ⟨(blk_cell BK213.out 0).trans rfl, (blk_cell BK213.out 1).trans rfl, (blk_cell BK213.out 2).trans rfl, (blk_cell BK213.out 3).trans rfl, (blk_cell BK213.out 4).trans rfl⟩ (fun hHeld => ?_); refine with_tabW proofmarklaw18_PropTells.tab6 proofmarklaw18_PropTells.bits6 (fun HT_ HW_ => ?_)
     generalize w19.drew = w32 at HO217 HO220 HO224 HO228 BK213 HB hHeld ⊢
     refine pure_ (i := 0) (N := some 42) (v := ?_) (a' := ?_) #[T,F,F,F,F,F,F,F,F,F,F,F,F,F,F,F,F,F,F,F,F,F,F,F,F,F,F,F,F,F,F] rfl rfl (any_of HT_.out (by kernel_rfl)) (fun _ _ _ h => h) (.inl ⟨by rfl, ?_⟩) ?_ ?_
     rotate_left
     ·intro w'; go_simp; with_reducible rfl
     rotate_left
     ·simp only [Act.put, sb1, sb2, sb3, i64_w, i32_w]; rfl
     refine pure_ (i := 1) (N := some 43) (v := ?_) (a' := ?_) #[T,T,F,F,F,F,F,F,F,F,F,F,F,F,F,F,F,F,F,F,F,F,F,F,F,F,F,F,F,F,F] rfl rfl (any_of HT_.out (by kernel_rfl)) (fun _ _ _ h => h) (.inl ⟨by rfl, ?_⟩) ?_ ?_
     rotate_left
     ·intro w'; go_simp; with_reducible rfl
     rotate_left
     ·simp only [Act.put, sb1, sb2, sb3, i64_w, i32_w]; rfl
     refine pure_ (i := 4) (N := some 46) (v := ?_) (a' := ?_) #[T,T,F,F,T,F,F,F,F,F,F,F,F,F,F,F,F,F,F,F,F,F,F,F,F,F,F,F,F,F,F] rfl rfl (any_of HT_.out (by kernel_rfl)) (fun _ _ _ h => h) (.inl ⟨by rfl, ?_⟩) ?_ ?_
     rotate_left
     ·intro w'; go_simp; with_reducible rfl
     rotate_left
     ·simp only [Act.put, sb1, sb2, sb3, i64_w, i32_w]; rfl
     refine pure_ (i := 5) (N := some 47) (v := ?_) (a' := ?_) #[T,T,F,F,T,T,F,F,F,F,F,F,F,F,F,F,F,F,F,F,F,F,F,F,F,F,F,F,F,F,F] rfl rfl (any_of HT_.out (by kernel_rfl)) (fun _ _ _ h => h) (.inl ⟨by rfl, ?_⟩) ?_ ?_
     rotate_left
     ·intro w'; go_simp; with_reducible rfl
     rotate_left
     ·simp only [Act.put, sb1, sb2, sb3, i64_w, i32_w]; rfl
     refine take_ (i := 2) (N := some 44) (v := ?_) (a' := ?_) #[T,T,T,F,T,T,F,F,F,F,F,F,F,F,F,F,F,F,F,F,F,F,F,F,F,F,F,F,F,F,F] rfl rfl (take_ofW HT_.out HW_.out (by kernel_rfl)) (fun _ _ _ h => h) (.inl ⟨by rfl, ?_⟩) hHeld ?_ ?_
     rotate_left
     ·rintro w' ⟨s0, s1, s2, s3, s4⟩
      go_simp; with_reducible rfl
     rotate_left
     ·simp only [Act.put, sb1, sb2, sb3, i64_w, i32_w]; rfl
     refine take_ (i := 6) (N := some 48) (v := ?_) (a' := ?_) #[T,T,T,F,T,T,T,F,F,F,F,F,F,F,F,F,F,F,F,F,F,F,F,F,F,F,F,F,F,F,F] rfl rfl (take_ofW HT_.out HW_.out (by kernel_rfl)) (fun _ _ _ h => h) (.inl ⟨by rfl, ?_⟩) hHeld ?_ ?_
     rotate_left
     ·rintro w' ⟨s0, s1, s2, s3, s4⟩
      go_simp; with_reducible rfl
     rotate_left
     ·simp only [Act.put, sb1, sb2, sb3, i64_w, i32_w]; rfl
     refine one_ (i := 3) (N := some 45) #[T,T,T,T,T,T,T,F,F,F,F,F,F,F,F,F,F,F,F,F,F,F,F,F,F,F,F,F,F,F,F] rfl rfl (one_of HT_.out (by kernel_rfl)) (by decide) (fun K hK => ?_)
     refine goes_ Try.func29 (by kernel_rfl) rfl #[.slice Ao15 t215.length co15, .int .i64 a0_1] (by rfl) rfl rfl (by (try simp only [ma_, mc_, mn_]); first | done | rfl | (simp only [ld_, lt_]; rfl)) ?_
     with_reducible refine (prop_Right.calls k _ _ t215 a0_1 t229 _ ?side1 ?side2 A20.out).mono ?_
     (case side1 => repeat (first | exact (sr_ HO217.out).2.2 | (with_reducible refine ca_ ?_ _) | (with_reducible refine cn_ ?_ _) | (with_reducible refine cd_ ?_)))
     (case side2 => exact (sr_ HO217.out).2.1)
     rintro e w33 ⟨rfl, hb⟩
     refine ⟨_, rfl, ?_⟩
     have n0_ := am (Kd.S_below (by (with_reducible repeat (first | apply sa_ | apply sn_ | apply sd_)); exact HO217.out) hb)
     have n1_ := am (rl_ (by (with_reducible repeat (first | apply ra_ | apply rn_ | apply rd_)); exact HO220.out) hb)
     have n2_ := am (rl_ (by (with_reducible repeat (first | apply ra_ | apply rn_ | apply rd_)); exact HO224.out) hb)
     have n3_ := am (rl_ (by (with_reducible repeat (first | apply ra_ | apply rn_ | apply rd_)); exact HO228.out) hb)
     have n4_ := am (blk_below (g := gb213) (o := .cells #[.slice A0_0 l0_0.length c0_0, .int .i64 a0_1, .slice A0_2 l0_2.length c0_2, .slice A0_3 l0_3.length c0_3, .int .i64 a0_4] 37 (0, 0)) (by (with_reducible repeat (first | refine blk_drewN ?_ _ | refine blk_drew ?_ | refine blk_alloc ?_ _)); exact BK213.out) hb)
     have n5_ := am (below_step (by repeat (first | (with_reducible first | exact HB.out | apply ba_ | apply pn_ | apply b1_ | refine below_set ?_ GE213.out) | exact HB.out)) hb); clear HO217 HO220 HO224 HO228 BK213 HB; have HO217 := n0_; have HO220 := n1_; have HO224 := n2_; have HO228 := n3_; have BK213 := n4_; have HB := n5_; clear n0_ n1_ n2_ n3_ n4_ n5_
     (try clear hb)
     (try clear hb2)
     (try clear hk)
     (try clear hi)
     refine hK.out _ _ ⟨(blk_cell BK213.out 0).trans rfl, (blk_cell BK213.out 1).trans rfl, (blk_cell BK213.out 2).trans rfl, (blk_cell BK213.out 3).trans rfl, (blk_cell BK213.out 4).trans rfl⟩ (fun hHeld => ?_)
     clear hK K
     refine norm_ (a' := ?_) ?_ ?_
     rotate_left
     ·show Act.put _ (some 45) _ = _
      simp only [Act.put, sb1, sb2, sb3, i64_w, i32_w]; rfl
     refine one_ (i := 7) (N := some 49) #[T,T,T,T,T,T,T,T,F,F,F,F,F,F,F,F,F,F,F,F,F,F,F,F,F,F,F,F,F,F,F] rfl rfl (one_of HT_.out (by kernel_rfl)) (by decide) (fun K hK => ?_)
     refine goes_ Try.func30 (by kernel_rfl) rfl #[.slice Ao15 t215.length co15, .int .i64 a0_1] (by rfl) rfl rfl (by (try simp only [ma_, mc_, mn_]); first | done | rfl | (simp only [ld_, lt_]; rfl)) ?_
     with_reducible refine (proofmarkref18_Right.calls k _ _ t215 a0_1 t230 _ ?side1 ?side2 A21.out).mono ?_
     (case side1 => repeat (first | exact (sr_ HO217.out).2.2 | (with_reducible refine ca_ ?_ _) | (with_reducible refine cn_ ?_ _) | (with_reducible refine cd_ ?_)))
     (case side2 => exact (sr_ HO217.out).2.1)
     rintro e w' ⟨rfl, ⟨nd, rfl⟩⟩
     refine ⟨_, rfl, ?_⟩
     refine hK.out _ _ ⟨(blk_cell BK213.out 0).trans rfl, (blk_cell BK213.out 1).trans rfl, (blk_cell BK213.out 2).trans rfl, (blk_cell BK213.out 3).trans rfl, (blk_cell BK213.out 4).trans rfl⟩ (fun hHeld => ?_)
     clear hK K
     refine norm_ (a' := ?_) ?_ ?_
     rotate_left
     ·show Act.put _ (some 49) _ = _
      simp only [Act.put, sb1, sb2, sb3, i64_w, i32_w]; rfl
     refine pure_ (i := 8) (N := some 50) (v := ?_) (a' := ?_) #[T,T,T,T,T,T,T,T,T,F,F,F,F,F,F,F,F,F,F,F,F,F,F,F,F,F,F,F,F,F,F] rfl rfl (any_of HT_.out (by kernel_rfl)) (fun _ _ _ h => h) (.inl ⟨by rfl, ?_⟩) ?_ ?_
     rotate_left
     ·intro w'; go_simp; with_reducible rfl
     rotate_left
     ·simp only [Act.put, sb1, sb2, sb3, i64_w, i32_w]; rfl
     refine pure_ (i := 9) (N := some 51) (v := ?_) (a' := ?_) #[T,T,T,T,T,T,T,T,T,T,F,F,F,F,F,F,F,F,F,F,F,F,F,F,F,F,F,F,F,F,F] rfl rfl (any_of HT_.out (by kernel_rfl)) (fun _ _ _ h => h) (.inl ⟨by rfl, ?_⟩) ?_ ?_
     rotate_left
     ·intro w'; go_simp; with_reducible rfl
     rotate_left
     ·simp only [Act.put, sb1, sb2, sb3, i64_w, i32_w]; rfl
     refine pure_ (i := 10) (N := some 52) (v := ?_) (a' := ?_) #[T,T,T,T,T,T,T,T,T,T,T,F,F,F,F,F,F,F,F,F,F,F,F,F,F,F,F,F,F,F,F] rfl rfl (any_of HT_.out (by kernel_rfl)) (fun _ _ _ h => h) (.inl ⟨by rfl, ?_⟩) ?_ ?_
     rotate_left
     ·intro w'; go_simp; with_reducible rfl
     rotate_left
     ·simp only [Act.put, sb1, sb2, sb3, i64_w, i32_w]; rfl
     refine pure_ (i := 11) (N := some 53) (v := ?_) (a' := ?_) #[T,T,T,T,T,T,T,T,T,T,T,T,F,F,F,F,F,F,F,F,F,F,F,F,F,F,F,F,F,F,F] rfl rfl (any_of HT_.out (by kernel_rfl)) (fun _ _ _ h => h) (.inl ⟨by rfl, ?_⟩) ?_ ?_
     rotate_left
     ·intro w'; go_simp; with_reducible rfl
     rotate_left
     ·simp only [Act.put, sb1, sb2, sb3, i64_w, i32_w]; rfl
     refine pure_ (i := 14) (N := some 56) (v := ?_) (a' := ?_) #[T,T,T,T,T,T,T,T,T,T,T,T,F,F,T,F,F,F,F,F,F,F,F,F,F,F,F,F,F,F,F] rfl rfl (any_of HT_.out (by kernel_rfl)) (fun _ _ _ h => h) (.inl ⟨by rfl, ?_⟩) ?_ ?_
     rotate_left
     ·intro w'; go_simp; with_reducible rfl
     rotate_left
     ·simp only [Act.put, sb1, sb2, sb3, i64_w, i32_w]; rfl
     refine pure_ (i := 15) (N := some 57) (v := ?_) (a' := ?_) #[T,T,T,T,T,T,T,T,T,T,T,T,F,F,T,T,F,F,F,F,F,F,F,F,F,F,F,F,F,F,F] rfl rfl (any_of HT_.out (by kernel_rfl)) (fun _ _ _ h => h) (.inl ⟨by rfl, ?_⟩) ?_ ?_
     rotate_left
     ·intro w'; go_simp; with_reducible rfl
     rotate_left
     ·simp only [Act.put, sb1, sb2, sb3, i64_w, i32_w]; rfl
     refine take_ (i := 12) (N := some 54) (v := ?_) (a' := ?_) #[T,T,T,T,T,T,T,T,T,T,T,T,T,F,T,T,F,F,F,F,F,F,F,F,F,F,F,F,F,F,F] rfl rfl (take_ofW HT_.out HW_.out (by kernel_rfl)) (fun _ _ _ h => h) (.inl ⟨by rfl, ?_⟩) hHeld ?_ ?_
     rotate_left
     ·rintro w' ⟨s0, s1, s2, s3, s4⟩
      go_simp; with_reducible rfl
     rotate_left
     ·simp only [Act.put, sb1, sb2, sb3, i64_w, i32_w]; rfl
     refine take_ (i := 16) (N := some 58) (v := ?_) (a' := ?_) #[T,T,T,T,T,T,T,T,T,T,T,T,T,F,T,T,T,F,F,F,F,F,F,F,F,F,F,F,F,F,F] rfl rfl (take_ofW HT_.out HW_.out (by kernel_rfl)) (fun _ _ _ h => h) (.inl ⟨by rfl, ?_⟩) hHeld ?_ ?_
     rotate_left
     ·rintro w' ⟨s0, s1, s2, s3, s4⟩
      go_simp; with_reducible rfl
     rotate_left
     ·simp only [Act.put, sb1, sb2, sb3, i64_w, i32_w]; rfl
     refine one_ (i := 13) (N := some 55) #[T,T,T,T,T,T,T,T,T,T,T,T,T,T,T,T,T,F,F,F,F,F,F,F,F,F,F,F,F,F,F] rfl rfl (one_of HT_.out (by kernel_rfl)) (by decide) (fun K hK => ?_)
     refine goes_ Try.func31 (by kernel_rfl) rfl #[.slice Ao15 t215.length co15, .slice A0_3 l0_3.length c0_3] (by rfl) rfl rfl (by (try simp only [ma_, mc_, mn_]); first | done | rfl | (simp only [ld_, lt_]; rfl)) ?_
     with_reducible refine (prop_Met.calls _ _ t215 _ _ l0_3 t231 _ ?side1 ?side2 ?side3 ?side4 A25.out).mono ?_
     (case side1 => repeat (first | exact (sr_ HO217.out).2.2 | (with_reducible refine ca_ ?_ _) | (with_reducible refine cn_ ?_ _) | (with_reducible refine cd_ ?_)))
     (case side2 => exact (sr_ HO217.out).2.1)
     (case side3 => repeat (first | exact (cb_ HR0_3.out (by repeat (first | (with_reducible first | exact HB.out | apply ba_ | apply pn_ | apply b1_ | refine below_set ?_ GE213.out) | exact HB.out))) | (with_reducible refine ca_ ?_ _) | (with_reducible refine cn_ ?_ _) | (with_reducible refine cd_ ?_)))
     (case side4 => exact HC0_3.out)
     rintro e w34 ⟨rfl, hb⟩
     refine ⟨_, rfl, ?_⟩
     have n0_ := am (Kd.S_below (by (with_reducible repeat (first | apply sa_ | apply sn_ | apply sd_)); exact HO217.out) hb)
     have n1_ := am (rl_ (by (with_reducible repeat (first | apply ra_ | apply rn_ | apply rd_)); exact HO220.out) hb)
     have n2_ := am (rl_ (by (with_reducible repeat (first | apply ra_ | apply rn_ | apply rd_)); exact HO224.out) hb)
     have n3_ := am (rl_ (by (with_reducible repeat (first | apply ra_ | apply rn_ | apply rd_)); exact HO228.out) hb)
     have n4_ := am (blk_below (g := gb213) (o := .cells #[.slice A0_0 l0_0.length c0_0, .int .i64 a0_1, .slice A0_2 l0_2.length c0_2, .slice A0_3 l0_3.length c0_3, .int .i64 a0_4] 37 (0, 0)) (by (with_reducible repeat (first | refine blk_drewN ?_ _ | refine blk_drew ?_ | refine blk_alloc ?_ _)); exact BK213.out) hb)
     have n5_ := am (below_step (by repeat (first | (with_reducible first | exact HB.out | apply ba_ | apply pn_ | apply b1_ | refine below_set ?_ GE213.out) | exact HB.out)) hb); clear HO217 HO220 HO224 HO228 BK213 HB; have HO217 := n0_; have HO220 := n1_; have HO224 := n2_; have HO228 := n3_; have BK213 := n4_; have HB := n5_; clear n0_ n1_ n2_ n3_ n4_ n5_
     (try clear hb)
     (try clear hb2)
     (try clear hk)
     (try clear hi)
     refine hK.out _ _ ⟨(blk_cell BK213.out 0).trans rfl, (blk_cell BK213.out 1).trans rfl, (blk_cell BK213.out 2).trans rfl, (blk_cell BK213.out 3).trans rfl, (blk_cell BK213.out 4).trans rfl⟩ (fun hHeld => ?_)
     clear hK K
     refine norm_ (a' := ?_) ?_ ?_
     rotate_left
     ·show Act.put _ (some 55) _ = _
      simp only [Act.put, sb1, sb2, sb3, i64_w, i32_w]; rfl
     refine one_ (i := 17) (N := some 59) #[T,T,T,T,T,T,T,T,T,T,T,T,T,T,T,T,T,T,F,F,F,F,F,F,F,F,F,F,F,F,F] rfl rfl (one_of HT_.out (by kernel_rfl)) (by decide) (fun K hK => ?_)
     refine goes_ Try.func32 (by kernel_rfl) rfl #[.slice Ao15 t215.length co15, .slice A0_3 l0_3.length c0_3] (by rfl) rfl rfl (by (try simp only [ma_, mc_, mn_]); first | done | rfl | (simp only [ld_, lt_]; rfl)) ?_
     with_reducible refine (proofmarkref18_Met.calls k _ _ t215 _ _ l0_3 t232 _ ?side1 ?side2 ?side3 ?side4 A26.out).mono ?_
     (case side1 => repeat (first | exact (sr_ HO217.out).2.2 | (with_reducible refine ca_ ?_ _) | (with_reducible refine cn_ ?_ _) | (with_reducible refine cd_ ?_)))
     (case side2 => exact (sr_ HO217.out).2.1)
     (case side3 => repeat (first | exact (cb_ HR0_3.out HB.out) | (with_reducible refine ca_ ?_ _) | (with_reducible refine cn_ ?_ _) | (with_reducible refine cd_ ?_)))
     (case side4 => exact HC0_3.out)
     rintro e w' ⟨rfl, ⟨nd, rfl⟩⟩
     refine ⟨_, rfl, ?_⟩
     refine hK.out _ _ ⟨(blk_cell BK213.out 0).trans rfl, (blk_cell BK213.out 1).trans rfl, (blk_cell BK213.out 2).trans rfl, (blk_cell BK213.out 3).trans rfl, (blk_cell BK213.out 4).trans rfl⟩ (fun hHeld => ?_)
     clear hK K
     refine norm_ (a' := ?_) ?_ ?_
     rotate_left
     ·show Act.put _ (some 59) _ = _
      simp only [Act.put, sb1, sb2, sb3, i64_w, i32_w]; rfl
     refine pure_ (i := 18) (N := some 60) (v := ?_) (a' := ?_) #[T,T,T,T,T,T,T,T,T,T,T,T,T,T,T,T,T,T,T,F,F,F,F,F,F,F,F,F,F,F,F] rfl rfl (any_of HT_.out (by kernel_rfl)) (fun _ _ _ h => h) (.inl ⟨by rfl, ?_⟩) ?_ ?_
     rotate_left
     ·intro w'; go_simp; with_reducible rfl
     rotate_left
     ·simp only [Act.put, sb1, sb2, sb3, i64_w, i32_w]; rfl
     refine pure_ (i := 19) (N := some 61) (v := ?_) (a' := ?_) #[T,T,T,T,T,T,T,T,T,T,T,T,T,T,T,T,T,T,T,T,F,F,F,F,F,F,F,F,F,F,F] rfl rfl (any_of HT_.out (by kernel_rfl)) (fun _ _ _ h => h) (.inl ⟨by rfl, ?_⟩) ?_ ?_
     rotate_left
     ·intro w'; go_simp; with_reducible rfl
     rotate_left
     ·simp only [Act.put, sb1, sb2, sb3, i64_w, i32_w]; rfl
     refine pure_ (i := 20) (N := some 62) (v := ?_) (a' := ?_) #[T,T,T,T,T,T,T,T,T,T,T,T,T,T,T,T,T,T,T,T,T,F,F,F,F,F,F,F,F,F,F] rfl rfl (any_of HT_.out (by kernel_rfl)) (fun _ _ _ h => h) (.inl ⟨by rfl, ?_⟩) ?_ ?_
     rotate_left
     ·intro w'; go_simp; with_reducible rfl
     rotate_left
     ·simp only [Act.put, sb1, sb2, sb3, i64_w, i32_w]; rfl
     refine pure_ (i := 21) (N := some 63) (v := ?_) (a' := ?_) #[T,T,T,T,T,T,T,T,T,T,T,T,T,T,T,T,T,T,T,T,T,T,F,F,F,F,F,F,F,F,F] rfl rfl (any_of HT_.out (by kernel_rfl)) (fun _ _ _ h => h) (.inl ⟨by rfl, ?_⟩) ?_ ?_
     rotate_left
     ·intro w'; go_simp; with_reducible rfl
     rotate_left
     ·simp only [Act.put, sb1, sb2, sb3, i64_w, i32_w]; rfl
     refine pure_ (i := 22) (N := some 64) (v := ?_) (a' := ?_) #[T,T,T,T,T,T,T,T,T,T,T,T,T,T,T,T,T,T,T,T,T,T,T,F,F,F,F,F,F,F,F] rfl rfl (any_of HT_.out (by kernel_rfl)) (fun _ _ _ h => h) (.inl ⟨by rfl, ?_⟩) ?_ ?_
     rotate_left
     ·intro w'; go_simp; with_reducible rfl
     rotate_left
     ·simp only [Act.put, sb1, sb2, sb3, i64_w, i32_w]; rfl
     refine pure_ (i := 23) (N := some 65) (v := ?_) (a' := ?_) #[T,T,T,T,T,T,T,T,T,T,T,T,T,T,T,T,T,T,T,T,T,T,T,T,F,F,F,F,F,F,F] rfl rfl (any_of HT_.out (by kernel_rfl)) (fun _ _ _ h => h) (.inl ⟨by rfl, ?_⟩) ?_ ?_
     rotate_left
     ·intro w'; go_simp; with_reducible rfl
     rotate_left
     ·simp only [Act.put, sb1, sb2, sb3, i64_w, i32_w]; rfl
     refine pure_ (i := 24) (N := some 66) (v := ?_) (a' := ?_) #[T,T,T,T,T,T,T,T,T,T,T,T,T,T,T,T,T,T,T,T,T,T,T,T,T,F,F,F,F,F,F] rfl rfl (any_of HT_.out (by kernel_rfl)) (fun _ _ _ h => h) (.inl ⟨by rfl, ?_⟩) ?_ ?_
     rotate_left
     ·intro w'; go_simp; with_reducible rfl
     rotate_left
     ·simp only [Act.put, sb1, sb2, sb3, i64_w, i32_w]; rfl
     refine pure_ (i := 25) (N := some 67) (v := ?_) (a' := ?_) #[T,T,T,T,T,T,T,T,T,T,T,T,T,T,T,T,T,T,T,T,T,T,T,T,T,T,F,F,F,F,F] rfl rfl (any_of HT_.out (by kernel_rfl)) (fun _ _ _ h => h) (.inl ⟨by rfl, ?_⟩) ?_ ?_
     rotate_left
     ·intro w'; go_simp; with_reducible rfl
     rotate_left
     ·simp only [Act.put, sb1, sb2, sb3, i64_w, i32_w]; rfl
     refine pure_ (i := 26) (N := some 68) (v := undef) (a' := ?_) #[T,T,T,T,T,T,T,T,T,T,T,T,T,T,T,T,T,T,T,T,T,T,T,T,T,T,T,F,F,F,F] rfl rfl (any_of HT_.out (by kernel_rfl)) (fun _ _ _ h => h) (Or.inr ⟨by rfl, rfl⟩) ?_ ?_
     rotate_left
     ·simp only [Act.put, sb1, sb2, sb3, i64_w, i32_w]; rfl
     refine pure_ (i := 27) (N := some 69) (v := undef) (a' := ?_) #[T,T,T,T,T,T,T,T,T,T,T,T,T,T,T,T,T,T,T,T,T,T,T,T,T,T,T,T,F,F,F] rfl rfl (any_of HT_.out (by kernel_rfl)) (fun _ _ _ h => h) (Or.inr ⟨by rfl, rfl⟩) ?_ ?_
     rotate_left
     ·simp only [Act.put, sb1, sb2, sb3, i64_w, i32_w]; rfl
     refine pure_ (i := 28) (N := some 70) (v := undef) (a' := ?_) #[T,T,T,T,T,T,T,T,T,T,T,T,T,T,T,T,T,T,T,T,T,T,T,T,T,T,T,T,T,F,F] rfl rfl (any_of HT_.out (by kernel_rfl)) (fun _ _ _ h => h) (Or.inr ⟨by rfl, rfl⟩) ?_ ?_
     rotate_left
     ·simp only [Act.put, sb1, sb2, sb3, i64_w, i32_w]; rfl
     refine pure_ (i := 29) (N := some 71) (v := undef) (a' := ?_) #[T,T,T,T,T,T,T,T,T,T,T,T,T,T,T,T,T,T,T,T,T,T,T,T,T,T,T,T,T,T,F] rfl rfl (any_of HT_.out (by kernel_rfl)) (fun _ _ _ h => h) (Or.inr ⟨by rfl, rfl⟩) ?_ ?_
     rotate_left
     ·simp only [Act.put, sb1, sb2, sb3, i64_w, i32_w]; rfl
     refine pure_ (i := 30) (N := some 72) (v := ?_) (a' := ?_) #[T,T,T,T,T,T,T,T,T,T,T,T,T,T,T,T,T,T,T,T,T,T,T,T,T,T,T,T,T,T,T] rfl rfl (any_of HT_.out (by kernel_rfl)) (fun _ _ _ h => h) (.inl ⟨by rfl, ?_⟩) ?_ ?_
     rotate_left
     ·intro w'; go_simp; with_reducible rfl
     rotate_left
     ·simp only [Act.put, sb1, sb2, sb3, i64_w, i32_w]; rfl
     refine done_ (done_of HT_.out (by kernel_rfl)) ?_
     try go_wp2
     go_meet
     case rel => exact ⟨_, (true), (by first | rfl | (simp; done) | (simp [*]; done) | (simp [bne_nil_]; done)), H', ⟨by first | omega | exact Nat.le_refl _⟩, ⟨by (with_reducible repeat (first | apply sa_ | apply sn_ | apply sd_)); exact Kd.S_mono HO217.out (fun _ hk => hk.1.1.2)⟩, ⟨by (with_reducible repeat (first | apply ra_ | apply rn_ | apply rd_)); exact Kd.R_mono HO220.out (fun _ hk => trivial)⟩, ⟨by (with_reducible repeat (first | refine blk_drewN ?_ _ | refine blk_drew ?_ | refine blk_alloc ?_ _)); exact BK213.out⟩, ⟨by repeat (first | (with_reducible first | exact HB.out | apply ba_ | apply pn_ | apply b1_ | refine below_set ?_ GE213.out) | exact HB.out)⟩⟩
    ·rw [if_neg c31] at H
     have c31b0 : (t222 != t226) = false := by simpa using c31
     (try (have c31b1 : decide (t222 = t226) = true := by simpa using c31))
     (try (have c31b2 : (t222 == t226) = true := by simpa using c31))
     clear c31; replace H := Option.bind_eq_some_iff.mp H
     obtain ⟨t233, A350, H⟩ := H
     replace H : (proofmarklaw18_PropTells.j0 k t214 t215 t218 (!t233) l0_0 a0_1 l0_2 l0_3 a0_4) = some r := H
     have A35 := am A350; clear A350; have H' := am H; clear H; try go_wp2; replace HO217 := am (sd_ HO217.out); replace HO220 := am (rd_ HO220.out); replace HO224 := am (rd_ HO224.out); replace HO228 := am (rd_ HO228.out); replace BK213 := am (blk_drew BK213.out); replace HB := am (b1_ HB.out)
     refine start_ (n := 31) (S := fun w' => w'.cell? ⟨gb213, 0, none⟩ = some (.slice A0_0 l0_0.length c0_0) ∧ w'.cell? ⟨gb213, 1, none⟩ = some (.int .i64 a0_1) ∧ w'.cell? ⟨gb213, 2, none⟩ = some (.slice A0_2 l0_2.length c0_2) ∧ w'.cell? ⟨gb213, 3, none⟩ = some (.slice A0_3 l0_3.length c0_3) ∧ w'.cell? ⟨gb213, 4, none⟩ = some (.int .i64 a0_4)) (ds := []) #[F,F,F,F,F,F,F,F,F,F,F,F,F,F,F,F,F,F,F,F,F,F,F,F,F,F,F,F,F,F,F] (by kernel_rfl) rfl rfl ⟨(blk_cell BK213.out 0).trans rfl, (blk_cell BK213.out 1).trans rfl, (blk_cell BK213.out 2).trans rfl, (blk_cell BK213.out 3).trans rfl, (blk_cell BK213.out 4).trans rfl⟩ (fun hHeld => ?_); refine with_tabW proofmarklaw18_PropTells.tab6 proofmarklaw18_PropTells.bits6 (fun HT_ HW_ => ?_)
     generalize w19.drew = w36 at HO217 HO220 HO224 HO228 BK213 HB hHeld ⊢
     refine pure_ (i := 0) (N := some 42) (v := ?_) (a' := ?_) #[T,F,F,F,F,F,F,F,F,F,F,F,F,F,F,F,F,F,F,F,F,F,F,F,F,F,F,F,F,F,F] rfl rfl (any_of HT_.out (by kernel_rfl)) (fun _ _ _ h => h) (.inl ⟨by rfl, ?_⟩) ?_ ?_
     rotate_left
     ·intro w'; go_simp; with_reducible rfl
     rotate_left
     ·simp only [Act.put, sb1, sb2, sb3, i64_w, i32_w]; rfl
     refine pure_ (i := 1) (N := some 43) (v := ?_) (a' := ?_) #[T,T,F,F,F,F,F,F,F,F,F,F,F,F,F,F,F,F,F,F,F,F,F,F,F,F,F,F,F,F,F] rfl rfl (any_of HT_.out (by kernel_rfl)) (fun _ _ _ h => h) (.inl ⟨by rfl, ?_⟩) ?_ ?_
     rotate_left
     ·intro w'; go_simp; with_reducible rfl
     rotate_left
     ·simp only [Act.put, sb1, sb2, sb3, i64_w, i32_w]; rfl
     refine pure_ (i := 4) (N := some 46) (v := ?_) (a' := ?_) #[T,T,F,F,T,F,F,F,F,F,F,F,F,F,F,F,F,F,F,F,F,F,F,F,F,F,F,F,F,F,F] rfl rfl (any_of HT_.out (by kernel_rfl)) (fun _ _ _ h => h) (.inl ⟨by rfl, ?_⟩) ?_ ?_
     rotate_left
     ·intro w'; go_simp; with_reducible rfl
     rotate_left
     ·simp only [Act.put, sb1, sb2, sb3, i64_w, i32_w]; rfl
     refine pure_ (i := 5) (N := some 47) (v := ?_) (a' := ?_) #[T,T,F,F,T,T,F,F,F,F,F,F,F,F,F,F,F,F,F,F,F,F,F,F,F,F,F,F,F,F,F] rfl rfl (any_of HT_.out (by kernel_rfl)) (fun _ _ _ h => h) (.inl ⟨by rfl, ?_⟩) ?_ ?_
     rotate_left
     ·intro w'; go_simp; with_reducible rfl
     rotate_left
     ·simp only [Act.put, sb1, sb2, sb3, i64_w, i32_w]; rfl
     refine take_ (i := 2) (N := some 44) (v := ?_) (a' := ?_) #[T,T,T,F,T,T,F,F,F,F,F,F,F,F,F,F,F,F,F,F,F,F,F,F,F,F,F,F,F,F,F] rfl rfl (take_ofW HT_.out HW_.out (by kernel_rfl)) (fun _ _ _ h => h) (.inl ⟨by rfl, ?_⟩) hHeld ?_ ?_
     rotate_left
     ·rintro w' ⟨s0, s1, s2, s3, s4⟩
      go_simp; with_reducible rfl
     rotate_left
     ·simp only [Act.put, sb1, sb2, sb3, i64_w, i32_w]; rfl
     refine take_ (i := 6) (N := some 48) (v := ?_) (a' := ?_) #[T,T,T,F,T,T,T,F,F,F,F,F,F,F,F,F,F,F,F,F,F,F,F,F,F,F,F,F,F,F,F] rfl rfl (take_ofW HT_.out HW_.out (by kernel_rfl)) (fun _ _ _ h => h) (.inl ⟨by rfl, ?_⟩) hHeld ?_ ?_
     rotate_left
     ·rintro w' ⟨s0, s1, s2, s3, s4⟩
      go_simp; with_reducible rfl
     rotate_left
     ·simp only [Act.put, sb1, sb2, sb3, i64_w, i32_w]; rfl
     refine one_ (i := 3) (N := some 45) #[T,T,T,T,T,T,T,F,F,F,F,F,F,F,F,F,F,F,F,F,F,F,F,F,F,F,F,F,F,F,F] rfl rfl (one_of HT_.out (by kernel_rfl)) (by decide) (fun K hK => ?_)
     refine goes_ Try.func29 (by kernel_rfl) rfl #[.slice Ao15 t215.length co15, .int .i64 a0_1] (by rfl) rfl rfl (by (try simp only [ma_, mc_, mn_]); first | done | rfl | (simp only [ld_, lt_]; rfl)) ?_
     with_reducible refine (prop_Right.calls k _ _ t215 a0_1 t229 _ ?side1 ?side2 A20.out).mono ?_
     (case side1 => repeat (first | exact (sr_ HO217.out).2.2 | (with_reducible refine ca_ ?_ _) | (with_reducible refine cn_ ?_ _) | (with_reducible refine cd_ ?_)))
     (case side2 => exact (sr_ HO217.out).2.1)
     rintro e w37 ⟨rfl, hb⟩
     refine ⟨_, rfl, ?_⟩
     have n0_ := am (Kd.S_below (by (with_reducible repeat (first | apply sa_ | apply sn_ | apply sd_)); exact HO217.out) hb)
     have n1_ := am (rl_ (by (with_reducible repeat (first | apply ra_ | apply rn_ | apply rd_)); exact HO220.out) hb)
     have n2_ := am (rl_ (by (with_reducible repeat (first | apply ra_ | apply rn_ | apply rd_)); exact HO224.out) hb)
     have n3_ := am (rl_ (by (with_reducible repeat (first | apply ra_ | apply rn_ | apply rd_)); exact HO228.out) hb)
     have n4_ := am (blk_below (g := gb213) (o := .cells #[.slice A0_0 l0_0.length c0_0, .int .i64 a0_1, .slice A0_2 l0_2.length c0_2, .slice A0_3 l0_3.length c0_3, .int .i64 a0_4] 37 (0, 0)) (by (with_reducible repeat (first | refine blk_drewN ?_ _ | refine blk_drew ?_ | refine blk_alloc ?_ _)); exact BK213.out) hb)
     have n5_ := am (below_step (by repeat (first | (with_reducible first | exact HB.out | apply ba_ | apply pn_ | apply b1_ | refine below_set ?_ GE213.out) | exact HB.out)) hb); clear HO217 HO220 HO224 HO228 BK213 HB; have HO217 := n0_; have HO220 := n1_; have HO224 := n2_; have HO228 := n3_; have BK213 := n4_; have HB := n5_; clear n0_ n1_ n2_ n3_ n4_ n5_
     (try clear hb)
     (try clear hb2)
     (try clear hk)
     (try clear hi)
     refine hK.out _ _ ⟨(blk_cell BK213.out 0).trans rfl, (blk_cell BK213.out 1).trans rfl, (blk_cell BK213.out 2).trans rfl, (blk_cell BK213.out 3).trans rfl, (blk_cell BK213.out 4).trans rfl⟩ (fun hHeld => ?_)
     clear hK K
     refine norm_ (a' := ?_) ?_ ?_
     rotate_left
     ·show Act.put _ (some 45) _ = _
      simp only [Act.put, sb1, sb2, sb3, i64_w, i32_w]; rfl
     refine one_ (i := 7) (N := some 49) #[T,T,T,T,T,T,T,T,F,F,F,F,F,F,F,F,F,F,F,F,F,F,F,F,F,F,F,F,F,F,F] rfl rfl (one_of HT_.out (by kernel_rfl)) (by decide) (fun K hK => ?_)
     refine goes_ Try.func30 (by kernel_rfl) rfl #[.slice Ao15 t215.length co15, .int .i64 a0_1] (by rfl) rfl rfl (by (try simp only [ma_, mc_, mn_]); first | done | rfl | (simp only [ld_, lt_]; rfl)) ?_
     with_reducible refine (proofmarkref18_Right.calls k _ _ t215 a0_1 t230 _ ?side1 ?side2 A21.out).mono ?_
     (case side1 => repeat (first | exact (sr_ HO217.out).2.2 | (with_reducible refine ca_ ?_ _) | (with_reducible refine cn_ ?_ _) | (with_reducible refine cd_ ?_)))
     (case side2 => exact (sr_ HO217.out).2.1)
     rintro e w' ⟨rfl, ⟨nd, rfl⟩⟩
     refine ⟨_, rfl, ?_⟩
     refine hK.out _ _ ⟨(blk_cell BK213.out 0).trans rfl, (blk_cell BK213.out 1).trans rfl, (blk_cell BK213.out 2).trans rfl, (blk_cell BK213.out 3).trans rfl, (blk_cell BK213.out 4).trans rfl⟩ (fun hHeld => ?_)
     clear hK K
     refine norm_ (a' := ?_) ?_ ?_
     rotate_left
     ·show Act.put _ (some 49) _ = _
      simp only [Act.put, sb1, sb2, sb3, i64_w, i32_w]; rfl
     refine pure_ (i := 8) (N := some 50) (v := ?_) (a' := ?_) #[T,T,T,T,T,T,T,T,T,F,F,F,F,F,F,F,F,F,F,F,F,F,F,F,F,F,F,F,F,F,F] rfl rfl (any_of HT_.out (by kernel_rfl)) (fun _ _ _ h => h) (.inl ⟨by rfl, ?_⟩) ?_ ?_
     rotate_left
     ·intro w'; go_simp; with_reducible rfl
     rotate_left
     ·simp only [Act.put, sb1, sb2, sb3, i64_w, i32_w]; rfl
     refine pure_ (i := 9) (N := some 51) (v := ?_) (a' := ?_) #[T,T,T,T,T,T,T,T,T,T,F,F,F,F,F,F,F,F,F,F,F,F,F,F,F,F,F,F,F,F,F] rfl rfl (any_of HT_.out (by kernel_rfl)) (fun _ _ _ h => h) (.inl ⟨by rfl, ?_⟩) ?_ ?_
     rotate_left
     ·intro w'; go_simp; with_reducible rfl
     rotate_left
     ·simp only [Act.put, sb1, sb2, sb3, i64_w, i32_w]; rfl
     refine pure_ (i := 10) (N := some 52) (v := ?_) (a' := ?_) #[T,T,T,T,T,T,T,T,T,T,T,F,F,F,F,F,F,F,F,F,F,F,F,F,F,F,F,F,F,F,F] rfl rfl (any_of HT_.out (by kernel_rfl)) (fun _ _ _ h => h) (.inl ⟨by rfl, ?_⟩) ?_ ?_
     rotate_left
     ·intro w'; go_simp; with_reducible rfl
     rotate_left
     ·simp only [Act.put, sb1, sb2, sb3, i64_w, i32_w]; rfl
     refine pure_ (i := 11) (N := some 53) (v := ?_) (a' := ?_) #[T,T,T,T,T,T,T,T,T,T,T,T,F,F,F,F,F,F,F,F,F,F,F,F,F,F,F,F,F,F,F] rfl rfl (any_of HT_.out (by kernel_rfl)) (fun _ _ _ h => h) (.inl ⟨by rfl, ?_⟩) ?_ ?_
     rotate_left
     ·intro w'; go_simp; with_reducible rfl
     rotate_left
     ·simp only [Act.put, sb1, sb2, sb3, i64_w, i32_w]; rfl
     refine pure_ (i := 14) (N := some 56) (v := ?_) (a' := ?_) #[T,T,T,T,T,T,T,T,T,T,T,T,F,F,T,F,F,F,F,F,F,F,F,F,F,F,F,F,F,F,F] rfl rfl (any_of HT_.out (by kernel_rfl)) (fun _ _ _ h => h) (.inl ⟨by rfl, ?_⟩) ?_ ?_
     rotate_left
     ·intro w'; go_simp; with_reducible rfl
     rotate_left
     ·simp only [Act.put, sb1, sb2, sb3, i64_w, i32_w]; rfl
     refine pure_ (i := 15) (N := some 57) (v := ?_) (a' := ?_) #[T,T,T,T,T,T,T,T,T,T,T,T,F,F,T,T,F,F,F,F,F,F,F,F,F,F,F,F,F,F,F] rfl rfl (any_of HT_.out (by kernel_rfl)) (fun _ _ _ h => h) (.inl ⟨by rfl, ?_⟩) ?_ ?_
     rotate_left
     ·intro w'; go_simp; with_reducible rfl
     rotate_left
     ·simp only [Act.put, sb1, sb2, sb3, i64_w, i32_w]; rfl
     refine take_ (i := 12) (N := some 54) (v := ?_) (a' := ?_) #[T,T,T,T,T,T,T,T,T,T,T,T,T,F,T,T,F,F,F,F,F,F,F,F,F,F,F,F,F,F,F] rfl rfl (take_ofW HT_.out HW_.out (by kernel_rfl)) (fun _ _ _ h => h) (.inl ⟨by rfl, ?_⟩) hHeld ?_ ?_
     rotate_left
     ·rintro w' ⟨s0, s1, s2, s3, s4⟩
      go_simp; with_reducible rfl
     rotate_left
     ·simp only [Act.put, sb1, sb2, sb3, i64_w, i32_w]; rfl
     refine take_ (i := 16) (N := some 58) (v := ?_) (a' := ?_) #[T,T,T,T,T,T,T,T,T,T,T,T,T,F,T,T,T,F,F,F,F,F,F,F,F,F,F,F,F,F,F] rfl rfl (take_ofW HT_.out HW_.out (by kernel_rfl)) (fun _ _ _ h => h) (.inl ⟨by rfl, ?_⟩) hHeld ?_ ?_
     rotate_left
     ·rintro w' ⟨s0, s1, s2, s3, s4⟩
      go_simp; with_reducible rfl
     rotate_left
     ·simp only [Act.put, sb1, sb2, sb3, i64_w, i32_w]; rfl
     refine one_ (i := 13) (N := some 55) #[T,T,T,T,T,T,T,T,T,T,T,T,T,T,T,T,T,F,F,F,F,F,F,F,F,F,F,F,F,F,F] rfl rfl (one_of HT_.out (by kernel_rfl)) (by decide) (fun K hK => ?_)
     refine goes_ Try.func31 (by kernel_rfl) rfl #[.slice Ao15 t215.length co15, .slice A0_3 l0_3.length c0_3] (by rfl) rfl rfl (by (try simp only [ma_, mc_, mn_]); first | done | rfl | (simp only [ld_, lt_]; rfl)) ?_
     with_reducible refine (prop_Met.calls _ _ t215 _ _ l0_3 t231 _ ?side1 ?side2 ?side3 ?side4 A25.out).mono ?_
     (case side1 => repeat (first | exact (sr_ HO217.out).2.2 | (with_reducible refine ca_ ?_ _) | (with_reducible refine cn_ ?_ _) | (with_reducible refine cd_ ?_)))
     (case side2 => exact (sr_ HO217.out).2.1)
     (case side3 => repeat (first | exact (cb_ HR0_3.out (by repeat (first | (with_reducible first | exact HB.out | apply ba_ | apply pn_ | apply b1_ | refine below_set ?_ GE213.out) | exact HB.out))) | (with_reducible refine ca_ ?_ _) | (with_reducible refine cn_ ?_ _) | (with_reducible refine cd_ ?_)))
     (case side4 => exact HC0_3.out)
     rintro e w38 ⟨rfl, hb⟩
     refine ⟨_, rfl, ?_⟩
     have n0_ := am (Kd.S_below (by (with_reducible repeat (first | apply sa_ | apply sn_ | apply sd_)); exact HO217.out) hb)
     have n1_ := am (rl_ (by (with_reducible repeat (first | apply ra_ | apply rn_ | apply rd_)); exact HO220.out) hb)
     have n2_ := am (rl_ (by (with_reducible repeat (first | apply ra_ | apply rn_ | apply rd_)); exact HO224.out) hb)
     have n3_ := am (rl_ (by (with_reducible repeat (first | apply ra_ | apply rn_ | apply rd_)); exact HO228.out) hb)
     have n4_ := am (blk_below (g := gb213) (o := .cells #[.slice A0_0 l0_0.length c0_0, .int .i64 a0_1, .slice A0_2 l0_2.length c0_2, .slice A0_3 l0_3.length c0_3, .int .i64 a0_4] 37 (0, 0)) (by (with_reducible repeat (first | refine blk_drewN ?_ _ | refine blk_drew ?_ | refine blk_alloc ?_ _)); exact BK213.out) hb)
     have n5_ := am (below_step (by repeat (first | (with_reducible first | exact HB.out | apply ba_ | apply pn_ | apply b1_ | refine below_set ?_ GE213.out) | exact HB.out)) hb); clear HO217 HO220 HO224 HO228 BK213 HB; have HO217 := n0_; have HO220 := n1_; have HO224 := n2_; have HO228 := n3_; have BK213 := n4_; have HB := n5_; clear n0_ n1_ n2_ n3_ n4_ n5_
     (try clear hb)
     (try clear hb2)
     (try clear hk)
     (try clear hi)
     refine hK.out _ _ ⟨(blk_cell BK213.out 0).trans rfl, (blk_cell BK213.out 1).trans rfl, (blk_cell BK213.out 2).trans rfl, (blk_cell BK213.out 3).trans rfl, (blk_cell BK213.out 4).trans rfl⟩ (fun hHeld => ?_)
     clear hK K
     refine norm_ (a' := ?_) ?_ ?_
     rotate_left
     ·show Act.put _ (some 55) _ = _
      simp only [Act.put, sb1, sb2, sb3, i64_w, i32_w]; rfl
     refine one_ (i := 17) (N := some 59) #[T,T,T,T,T,T,T,T,T,T,T,T,T,T,T,T,T,T,F,F,F,F,F,F,F,F,F,F,F,F,F] rfl rfl (one_of HT_.out (by kernel_rfl)) (by decide) (fun K hK => ?_)
     refine goes_ Try.func32 (by kernel_rfl) rfl #[.slice Ao15 t215.length co15, .slice A0_3 l0_3.length c0_3] (by rfl) rfl rfl (by (try simp only [ma_, mc_, mn_]); first | done | rfl | (simp only [ld_, lt_]; rfl)) ?_
     with_reducible refine (proofmarkref18_Met.calls k _ _ t215 _ _ l0_3 t232 _ ?side1 ?side2 ?side3 ?side4 A26.out).mono ?_
     (case side1 => repeat (first | exact (sr_ HO217.out).2.2 | (with_reducible refine ca_ ?_ _) | (with_reducible refine cn_ ?_ _) | (with_reducible refine cd_ ?_)))
     (case side2 => exact (sr_ HO217.out).2.1)
     (case side3 => repeat (first | exact (cb_ HR0_3.out HB.out) | (with_reducible refine ca_ ?_ _) | (with_reducible refine cn_ ?_ _) | (with_reducible refine cd_ ?_)))
     (case side4 => exact HC0_3.out)
     rintro e w' ⟨rfl, ⟨nd, rfl⟩⟩
     refine ⟨_, rfl, ?_⟩
     obtain ⟨Ao39, co39, eo39⟩ := Kd.R_slice HO224.out
     (first | subst eo39 | (injection eo39 with f1_ f2_ f3_; have f4_ := f1_.symm; have f5_ := f3_.symm; clear f1_ f2_ f3_; subst f4_; subst f5_))
     obtain ⟨Ao40, co40, eo40⟩ := Kd.R_slice HO228.out
     (first | subst eo40 | (injection eo40 with f1_ f2_ f3_; have f4_ := f1_.symm; have f5_ := f3_.symm; clear f1_ f2_ f3_; subst f4_; subst f5_))
     refine hK.out _ _ ⟨(blk_cell BK213.out 0).trans rfl, (blk_cell BK213.out 1).trans rfl, (blk_cell BK213.out 2).trans rfl, (blk_cell BK213.out 3).trans rfl, (blk_cell BK213.out 4).trans rfl⟩ (fun hHeld => ?_)
     clear hK K
     refine norm_ (a' := ?_) ?_ ?_
     rotate_left
     ·show Act.put _ (some 59) _ = _
      simp only [Act.put, sb1, sb2, sb3, i64_w, i32_w]; rfl
     refine pure_ (i := 18) (N := some 60) (v := ?_) (a' := ?_) #[T,T,T,T,T,T,T,T,T,T,T,T,T,T,T,T,T,T,T,F,F,F,F,F,F,F,F,F,F,F,F] rfl rfl (any_of HT_.out (by kernel_rfl)) (fun _ _ _ h => h) (.inl ⟨by rfl, ?_⟩) ?_ ?_
     rotate_left
     ·intro w'; go_simp; with_reducible rfl
     rotate_left
     ·simp only [Act.put, sb1, sb2, sb3, i64_w, i32_w]; rfl
     refine pure_ (i := 19) (N := some 61) (v := ?_) (a' := ?_) #[T,T,T,T,T,T,T,T,T,T,T,T,T,T,T,T,T,T,T,T,F,F,F,F,F,F,F,F,F,F,F] rfl rfl (any_of HT_.out (by kernel_rfl)) (fun _ _ _ h => h) (.inl ⟨by rfl, ?_⟩) ?_ ?_
     rotate_left
     ·intro w'; go_simp; with_reducible rfl
     rotate_left
     ·simp only [Act.put, sb1, sb2, sb3, i64_w, i32_w]; rfl
     refine pure_ (i := 20) (N := some 62) (v := ?_) (a' := ?_) #[T,T,T,T,T,T,T,T,T,T,T,T,T,T,T,T,T,T,T,T,T,F,F,F,F,F,F,F,F,F,F] rfl rfl (any_of HT_.out (by kernel_rfl)) (fun _ _ _ h => h) (.inl ⟨by rfl, ?_⟩) ?_ ?_
     rotate_left
     ·intro w'; go_simp; with_reducible rfl
     rotate_left
     ·simp only [Act.put, sb1, sb2, sb3, i64_w, i32_w]; rfl
     refine pure_ (i := 21) (N := some 63) (v := ?_) (a' := ?_) #[T,T,T,T,T,T,T,T,T,T,T,T,T,T,T,T,T,T,T,T,T,T,F,F,F,F,F,F,F,F,F] rfl rfl (any_of HT_.out (by kernel_rfl)) (fun _ _ _ h => h) (.inl ⟨by rfl, ?_⟩) ?_ ?_
     rotate_left
     ·intro w'; go_simp; with_reducible rfl
     rotate_left
     ·simp only [Act.put, sb1, sb2, sb3, i64_w, i32_w]; rfl
     refine pure_ (i := 22) (N := some 64) (v := ?_) (a' := ?_) #[T,T,T,T,T,T,T,T,T,T,T,T,T,T,T,T,T,T,T,T,T,T,T,F,F,F,F,F,F,F,F] rfl rfl (any_of HT_.out (by kernel_rfl)) (fun _ _ _ h => h) (.inl ⟨by rfl, ?_⟩) ?_ ?_
     rotate_left
     ·intro w'; go_simp; with_reducible rfl
     rotate_left
     ·simp only [Act.put, sb1, sb2, sb3, i64_w, i32_w]; rfl
     refine pure_ (i := 23) (N := some 65) (v := ?_) (a' := ?_) #[T,T,T,T,T,T,T,T,T,T,T,T,T,T,T,T,T,T,T,T,T,T,T,T,F,F,F,F,F,F,F] rfl rfl (any_of HT_.out (by kernel_rfl)) (fun _ _ _ h => h) (.inl ⟨by rfl, ?_⟩) ?_ ?_
     rotate_left
     ·intro w'; go_simp; with_reducible rfl
     rotate_left
     ·simp only [Act.put, sb1, sb2, sb3, i64_w, i32_w]; rfl
     refine pure_ (i := 24) (N := some 66) (v := ?_) (a' := ?_) #[T,T,T,T,T,T,T,T,T,T,T,T,T,T,T,T,T,T,T,T,T,T,T,T,T,F,F,F,F,F,F] rfl rfl (any_of HT_.out (by kernel_rfl)) (fun _ _ _ h => h) (.inl ⟨by rfl, ?_⟩) ?_ ?_
     rotate_left
     ·intro w'; go_simp; with_reducible rfl
     rotate_left
     ·simp only [Act.put, sb1, sb2, sb3, i64_w, i32_w]; rfl
     refine pure_ (i := 25) (N := some 67) (v := ?_) (a' := ?_) #[T,T,T,T,T,T,T,T,T,T,T,T,T,T,T,T,T,T,T,T,T,T,T,T,T,T,F,F,F,F,F] rfl rfl (any_of HT_.out (by kernel_rfl)) (fun _ _ _ h => h) (.inl ⟨by rfl, ?_⟩) ?_ ?_
     rotate_left
     ·intro w'; go_simp; with_reducible rfl
     rotate_left
     ·simp only [Act.put, sb1, sb2, sb3, i64_w, i32_w]; rfl
     refine pure_ (i := 26) (N := some 68) (v := ?_) (a' := ?_) #[T,T,T,T,T,T,T,T,T,T,T,T,T,T,T,T,T,T,T,T,T,T,T,T,T,T,T,F,F,F,F] rfl rfl (any_of HT_.out (by kernel_rfl)) (fun _ _ _ h => h) (.inl ⟨by rfl, ?_⟩) ?_ ?_
     rotate_left
     ·intro w'; go_simp; with_reducible rfl
     rotate_left
     ·simp only [Act.put, sb1, sb2, sb3, i64_w, i32_w]; rfl
     refine pure_ (i := 27) (N := some 69) (v := ?_) (a' := ?_) #[T,T,T,T,T,T,T,T,T,T,T,T,T,T,T,T,T,T,T,T,T,T,T,T,T,T,T,T,F,F,F] rfl rfl (any_of HT_.out (by kernel_rfl)) (fun _ _ _ h => h) (.inl ⟨by rfl, ?_⟩) ?_ ?_
     rotate_left
     ·intro w'; go_simp; with_reducible rfl
     rotate_left
     ·simp only [Act.put, sb1, sb2, sb3, i64_w, i32_w]; rfl
     refine one_ (i := 28) (N := some 70) #[T,T,T,T,T,T,T,T,T,T,T,T,T,T,T,T,T,T,T,T,T,T,T,T,T,T,T,T,T,F,F] rfl rfl (one_of HT_.out (by kernel_rfl)) (by decide) (fun K hK => ?_)
     refine goes_ Try.func33 (by kernel_rfl) rfl #[.slice Ao39 t221.length co39, .slice Ao40 t225.length co40] (by rfl) rfl rfl (by (try simp only [ma_, mc_, mn_]); first | done | rfl | (simp only [ld_, lt_]; rfl)) ?_
     with_reducible refine (proofmarkref18_Same.calls k _ _ t221 _ _ t225 t233 _ ?side1 ?side2 ?side3 ?side4 A35.out).mono ?_
     (case side1 => repeat (first | exact (Kd.R_reads' HO224.out).2.2 | (with_reducible refine ca_ ?_ _) | (with_reducible refine cn_ ?_ _) | (with_reducible refine cd_ ?_)))
     (case side2 => exact (Kd.R_reads' HO224.out).2.1)
     (case side3 => repeat (first | exact (Kd.R_reads' HO228.out).2.2 | (with_reducible refine ca_ ?_ _) | (with_reducible refine cn_ ?_ _) | (with_reducible refine cd_ ?_)))
     (case side4 => exact (Kd.R_reads' HO228.out).2.1)
     rintro e w' ⟨rfl, ⟨nd, rfl⟩⟩
     refine ⟨_, rfl, ?_⟩
     refine hK.out _ _ ⟨(blk_cell BK213.out 0).trans rfl, (blk_cell BK213.out 1).trans rfl, (blk_cell BK213.out 2).trans rfl, (blk_cell BK213.out 3).trans rfl, (blk_cell BK213.out 4).trans rfl⟩ (fun hHeld => ?_)
     clear hK K
     refine norm_ (a' := ?_) ?_ ?_
     rotate_left
     ·show Act.put _ (some 70) _ = _
      simp only [Act.put, sb1, sb2, sb3, i64_w, i32_w]; rfl
     refine pure_ (i := 29) (N := some 71) (v := ?_) (a' := ?_) #[T,T,T,T,T,T,T,T,T,T,T,T,T,T,T,T,T,T,T,T,T,T,T,T,T,T,T,T,T,T,F] rfl rfl (any_of HT_.out (by kernel_rfl)) (fun _ _ _ h => h) (.inl ⟨by rfl, ?_⟩) ?_ ?_
     rotate_left
     ·intro w'; go_simp; with_reducible rfl
     rotate_left
     ·simp only [Act.put, sb1, sb2, sb3, i64_w, i32_w]; rfl
     refine pure_ (i := 30) (N := some 72) (v := ?_) (a' := ?_) #[T,T,T,T,T,T,T,T,T,T,T,T,T,T,T,T,T,T,T,T,T,T,T,T,T,T,T,T,T,T,T] rfl rfl (any_of HT_.out (by kernel_rfl)) (fun _ _ _ h => h) (.inl ⟨by rfl, ?_⟩) ?_ ?_
     rotate_left
     ·intro w'; go_simp; with_reducible rfl
     rotate_left
     ·simp only [Act.put, sb1, sb2, sb3, i64_w, i32_w]; rfl
     refine done_ (done_of HT_.out (by kernel_rfl)) ?_
     try go_wp2
     go_meet
     case rel => exact ⟨_, (!t233), (by first | rfl | (simp; done) | (simp [*]; done) | (simp [bne_nil_]; done)), H', ⟨by first | omega | exact Nat.le_refl _⟩, ⟨by (with_reducible repeat (first | apply sa_ | apply sn_ | apply sd_)); exact Kd.S_mono HO217.out (fun _ hk => hk.1.1.2)⟩, ⟨by (with_reducible repeat (first | apply ra_ | apply rn_ | apply rd_)); exact Kd.R_mono HO220.out (fun _ hk => trivial)⟩, ⟨by (with_reducible repeat (first | refine blk_drewN ?_ _ | refine blk_drew ?_ | refine blk_alloc ?_ _)); exact BK213.out⟩, ⟨by repeat (first | (with_reducible first | exact HB.out | apply ba_ | apply pn_ | apply b1_ | refine below_set ?_ GE213.out) | exact HB.out)⟩⟩
 case rest =>
  clear HC7
  try clear c2
  try clear p2
  try clear c3
  try clear c29
  try clear c30
  try clear c31
  try clear c31b0
  try clear c31b1
  try clear c31b2
  try clear c32
  try clear c33
  obtain ⟨kq, x72_6, rfl, HA, HJ6, HO_4, HO_5, BK213, HB⟩ := hcut
  cases kq with
  | zero => exact absurd HA.out (by simp [proofmarklaw18_PropTells.j0])
  | succ kj6 =>
   have H := HA.out; clear HA
   simp only [proofmarklaw18_PropTells.j0] at H
   by_cases c41 : x72_6 = true
   ·subst c41
    have H1 : (some false) = some r := by rw [if_pos rfl] at H; exact H
    clear H; have H := H1; clear H1
    obtain rfl := Option.some.inj H
    go_wp2
    go_ret
    exact ⟨by first | rfl | (simp [errW_none, errW_some] <;> rfl) | (simp [*, errW_none, errW_some] <;> rfl), by repeat (first | (with_reducible first | exact HB.out | apply ba_ | apply pn_ | apply b1_ | refine below_set ?_ GE213.out) | exact HB.out)⟩
   ·replace c41 := Bool.eq_false_iff.mpr c41; subst c41
    have H1 : (proofmarklaw18_PropTells.l0 kj6 t214 t215 t218 0 l0_0 a0_1 l0_2 l0_3 a0_4) = some r := by rw [if_neg (show ¬ (false = true) by decide)] at H; exact H
    clear H; have H := H1; clear H1; have H' := am H; clear H
    go_wp2
    go_loopg [10] kj6 (fun kq v10 w' => ∃ (x10_2 : Int), v10 = .int .i64 x10_2 ∧ Aside0 (proofmarklaw18_PropTells.l0 kq t214 t215 t218 x10_2 l0_0 a0_1 l0_2 l0_3 a0_4 = some r) ∧ Aside0 (kq ≤ kj6) ∧ Aside0 (Kd.S (Kd.slice 3 (Kd.int .i64)) 23 w' w.heap.size (fun k_ => some k_ ≠ ((.slice Ao16 t218.length co16) : Value).ownBlock) (.slice Ao15 t215.length co15) t215) ∧ Aside0 (Kd.R (Kd.int .i64) 3 w' w.heap.size (fun _ => True) (.slice Ao16 t218.length co16) t218) ∧ Aside0 (w'.heap[gb213]? = some (.cells #[(.slice A0_0 l0_0.length c0_0), .int .i64 a0_1, (.slice A0_2 l0_2.length c0_2), (.slice A0_3 l0_3.length c0_3), .int .i64 a0_4] 37 (0, 0))) ∧ Aside0 (Below w.heap.size w w'))
    case atStart => exact ⟨(0), (by first | rfl | (simp; done) | (simp [*]; done) | (simp [bne_nil_]; done)), H', ⟨Nat.le_refl _⟩, ⟨by (with_reducible repeat (first | apply sa_ | apply sn_ | apply sd_)); exact HO_4.out⟩, ⟨by (with_reducible repeat (first | apply ra_ | apply rn_ | apply rd_)); exact HO_5.out⟩, ⟨by (with_reducible repeat (first | refine blk_drewN ?_ _ | refine blk_drew ?_ | refine blk_alloc ?_ _)); exact BK213.out⟩, ⟨by repeat (first | (with_reducible first | exact HB.out | apply ba_ | apply pn_ | apply b1_ | refine below_set ?_ GE213.out) | exact HB.out)⟩⟩
    case round =>
     clear H'
     try clear c2
     try clear p2
     try clear c3
     try clear c4
     try clear c29
     try clear c30
     try clear c31
     try clear c31b0
     try clear c31b1
     try clear c31b2
     try clear c32
     try clear c33
     try clear c41
     try clear p2
     obtain ⟨x10_2, rfl, HA, HK2, HO_4, HO_5, BK213, HB⟩ := hrel
     cases gk with
     | zero => exact absurd HA.out (by simp [proofmarklaw18_PropTells.l0])
     | succ k2 =>
      have H := HA.out; clear HA
      simp only [proofmarklaw18_PropTells.l0] at H
      by_cases c42 : x10_2 < (t215.length : Int)
      ·rw [if_pos c42] at H
       have c42b0 : decide (x10_2 < (t215.length : Int)) = true := decide_eq_true c42
       clear c42
       by_cases c43 : 0 ≤ x10_2
       ·rw [if_pos c43] at H
        have c43b0 : decide (0 ≤ x10_2) = true := decide_eq_true c43
        clear c43; replace H := Option.bind_eq_some_iff.mp H
        obtain ⟨⟨t235, t236⟩, A440, H⟩ := H
        replace H : ((proofmarkref18_Norm.f k2 (rd_L1 t215 x10_2)).bind fun bt240 => ((prop_Resolve.f (rd_L1 t215 x10_2) t218 a0_4).bind fun bt245 => ((proofmarkref18_Resolve.f k2 (rd_L1 t215 x10_2) t218 a0_4).bind fun bt250 => (if (t236 != bt240.2) = true then (some false) else (if (bt245.2 != bt250.2) = true then (some false) else ((proofmarkref18_Same.f k2 t235 bt240.1).bind fun t254 => (if t254 = true then ((proofmarkref18_Same.f k2 bt245.1 bt250.1).bind fun t255 => (if t255 = true then (proofmarklaw18_PropTells.l0 k2 t214 t215 t218 (wrap64 (x10_2 + 1)) l0_0 a0_1 l0_2 l0_3 a0_4) else (some false))) else (some false)))))))) = some r := H
        have A44 := am A440; clear A440; replace H := Option.bind_eq_some_iff.mp H
        obtain ⟨⟨t240, t241⟩, A450, H⟩ := H
        replace H : ((prop_Resolve.f (rd_L1 t215 x10_2) t218 a0_4).bind fun bt245 => ((proofmarkref18_Resolve.f k2 (rd_L1 t215 x10_2) t218 a0_4).bind fun bt250 => (if (t236 != t241) = true then (some false) else (if (bt245.2 != bt250.2) = true then (some false) else ((proofmarkref18_Same.f k2 t235 t240).bind fun t254 => (if t254 = true then ((proofmarkref18_Same.f k2 bt245.1 bt250.1).bind fun t255 => (if t255 = true then (proofmarklaw18_PropTells.l0 k2 t214 t215 t218 (wrap64 (x10_2 + 1)) l0_0 a0_1 l0_2 l0_3 a0_4) else (some false))) else (some false))))))) = some r := H
        have A45 := am A450; clear A450; replace H := Option.bind_eq_some_iff.mp H
        obtain ⟨⟨t245, t246⟩, A460, H⟩ := H
        replace H : ((proofmarkref18_Resolve.f k2 (rd_L1 t215 x10_2) t218 a0_4).bind fun bt250 => (if (t236 != t241) = true then (some false) else (if (t246 != bt250.2) = true then (some false) else ((proofmarkref18_Same.f k2 t235 t240).bind fun t254 => (if t254 = true then ((proofmarkref18_Same.f k2 t245 bt250.1).bind fun t255 => (if t255 = true then (proofmarklaw18_PropTells.l0 k2 t214 t215 t218 (wrap64 (x10_2 + 1)) l0_0 a0_1 l0_2 l0_3 a0_4) else (some false))) else (some false)))))) = some r := H
        have A46 := am A460; clear A460; replace H := Option.bind_eq_some_iff.mp H
        obtain ⟨⟨t250, t251⟩, A470, H⟩ := H
        replace H : (if (t236 != t241) = true then (some false) else (if (t246 != t251) = true then (some false) else ((proofmarkref18_Same.f k2 t235 t240).bind fun t254 => (if t254 = true then ((proofmarkref18_Same.f k2 t245 t250).bind fun t255 => (if t255 = true then (proofmarklaw18_PropTells.l0 k2 t214 t215 t218 (wrap64 (x10_2 + 1)) l0_0 a0_1 l0_2 l0_3 a0_4) else (some false))) else (some false))))) = some r := H
        have A47 := am A470; clear A470
        by_cases c48 : (t236 != t241) = true
        ·rw [if_pos c48] at H
         have c48b0 : (t236 != t241) = true := c48
         (try (have c48b1 : decide (t236 = t241) = false := by simpa using c48))
         (try (have c48b2 : (t236 == t241) = false := by simpa using c48))
         (try (have c48b3 : ¬ (t236 = t241) := by simpa using c48))
         clear c48
         obtain rfl := Option.some.inj H
         have p234 : 0 ≤ (x10_2 : Int) := of_decide_eq_true (by first | (with_reducible assumption) | assumption)
         have q234 : x10_2 < (t215.length : Int) := of_decide_eq_true (by first | (with_reducible assumption) | assumption)
         obtain ⟨ad234, A234_0, c234_0, e234, hx234_0, hl234_0, hi234_0⟩ := at_L1 (sr_ HO_4.out).2.2 x10_2 p234 q234
         cases e234
         obtain ⟨ce234, hce234, hMe234, hcc234⟩ := Kd.S_get HO_4.out [] x10_2 p234 (by first | exact q234 | exact of_decide_eq_true (by first | (with_reducible assumption) | assumption) | (have e_ := (sr_ HO_4.out).1; omega))
         obtain ⟨ve234_0, rfl, ge234_0⟩ := hMe234
         have hv234_0 := hcc234 0 _ rfl
         rw [Nat.add_zero, show ((Kd.slice 3 (Kd.int .i64))).sz = 1 from rfl, Nat.mul_one] at hv234_0
         replace hv234_0 := Option.some.inj (hv234_0.symm.trans hx234_0)
         rw [hv234_0] at ge234_0
         have HL234_0 := am (show Kd.R (Kd.int .i64) 3 _ _ _ _ (rd_L1 t215 x10_2) from ge234_0); clear hv234_0 ge234_0 hcc234 hce234; have HR234_0 := am hi234_0; have HC234_0 := am hl234_0; clear hi234_0 hl234_0; replace p234 := eq_true p234; replace q234 := eq_true q234
         try go_wp2_with (first | ((with_reducible refine gate_callee (f := 34) rfl ?_); refine goesL_ (some 84) rfl rfl Try.func34 (by kernel_rfl) rfl #[.slice A234_0 (rd_L1 t215 x10_2).length c234_0] rfl (by (try simp only [ma_, mc_, mn_]); first | done | rfl | (simp only [ld_, lt_]; rfl)) ?_; (with_reducible refine (prop_Norm.calls _ _ (rd_L1 t215 x10_2) t235 t236 _ ?side1 ?side2 A44.out).mono ?_); (case side1 => repeat (first | exact (by repeat (first | (with_reducible exact HR234_0.out) | (with_reducible refine ca_ ?_ _) | (with_reducible refine cn_ ?_ _) | (with_reducible refine cd_ ?_) | exact HR234_0.out)) | (with_reducible refine ca_ ?_ _) | (with_reducible refine cn_ ?_ _) | (with_reducible refine cd_ ?_))); (case side2 => exact HC234_0.out); rintro e w49 ⟨v237, rfl, ho0, hb⟩; refine ⟨_, rfl, ?_⟩; have n0_ := am (Kd.S_elder' (by (with_reducible repeat (first | apply sa_ | apply sn_ | apply sd_)); exact HO_4.out) (rb_ ho0) hb); have n1_ := am (re_ (by (with_reducible repeat (first | apply ra_ | apply rn_ | apply rd_)); exact HO_5.out) (rb_ ho0) hb); have n2_ := am (re_ (by (with_reducible repeat (first | apply ra_ | apply rn_ | apply rd_)); exact HL234_0.out) (rb_ ho0) hb); have n3_ := am (Kd.R_lower (rw_ (rw_ ho0 (Kd.R_lt (by (with_reducible repeat (first | apply ra_ | apply rn_ | apply rd_)); exact HO_5.out))) (Kd.R_lt (by (with_reducible repeat (first | apply ra_ | apply rn_ | apply rd_)); exact HL234_0.out))) (below_size (by repeat (first | (with_reducible first | exact HB.out | apply ba_ | apply pn_ | apply b1_ | refine below_set ?_ GE213.out) | exact HB.out)))); have n4_ := am (blk_below (g := gb213) (o := .cells #[.slice A0_0 l0_0.length c0_0, .int .i64 a0_1, .slice A0_2 l0_2.length c0_2, .slice A0_3 l0_3.length c0_3, .int .i64 a0_4] 37 (0, 0)) (by (with_reducible repeat (first | refine blk_drewN ?_ _ | refine blk_drew ?_ | refine blk_alloc ?_ _)); exact BK213.out) hb); have n5_ := am (cb_ (by repeat (first | (with_reducible exact HR234_0.out) | (with_reducible refine ca_ ?_ _) | (with_reducible refine cn_ ?_ _) | (with_reducible refine cd_ ?_) | exact HR234_0.out)) hb); have n6_ := am (below_step (by repeat (first | (with_reducible first | exact HB.out | apply ba_ | apply pn_ | apply b1_ | refine below_set ?_ GE213.out) | exact HB.out)) hb); clear HO_4; clear HO_5; clear HL234_0; clear BK213; clear HR234_0; clear HB; have HO_4 := n0_; have HO_5 := n1_; have HL234_0 := n2_; have HO238 := n3_; have BK213 := n4_; have HR234_0 := n5_; have HB := n6_; clear n0_ n1_ n2_ n3_ n4_ n5_ n6_; (try clear hb); (try clear hb2); (try clear hk); (try clear hi); (try clear ho0); have p239 : 0 ≤ (x10_2 : Int) := of_decide_eq_true (by first | (with_reducible assumption) | assumption); have q239 : x10_2 < (t215.length : Int) := of_decide_eq_true (by first | (with_reducible assumption) | assumption); obtain ⟨ad239, A239_0, c239_0, e239, hx239_0, hl239_0, hi239_0⟩ := at_L1 (sr_ HO_4.out).2.2 x10_2 p239 q239; obtain rfl : ad234 = ad239 := (by injection e239); obtain ⟨ce239, hce239, hMe239, hcc239⟩ := Kd.S_get HO_4.out [] x10_2 p239 (by first | exact q239 | exact of_decide_eq_true (by first | (with_reducible assumption) | assumption) | (have e_ := (sr_ HO_4.out).1; omega)); obtain ⟨ve239_0, rfl, ge239_0⟩ := hMe239; have hv239_0 := hcc239 0 _ rfl; rw [Nat.add_zero, show ((Kd.slice 3 (Kd.int .i64))).sz = 1 from rfl, Nat.mul_one] at hv239_0; replace hv239_0 := Option.some.inj (hv239_0.symm.trans hx239_0); rw [hv239_0] at ge239_0; have HL239_0 := am (show Kd.R (Kd.int .i64) 3 _ _ _ _ (rd_L1 t215 x10_2) from ge239_0); clear hv239_0 ge239_0; clear hcc239 hce239; have HR239_0 := am hi239_0; have HC239_0 := am hl239_0; clear hi239_0 hl239_0; replace p239 := eq_true p239; replace q239 := eq_true q239) | ((with_reducible refine gate_callee (f := 35) rfl ?_); refine goesL_ (some 92) rfl rfl Try.func35 (by kernel_rfl) rfl #[.slice A239_0 (rd_L1 t215 x10_2).length c239_0] rfl (by (try simp only [ma_, mc_, mn_]); first | done | rfl | (simp only [ld_, lt_]; rfl)) ?_; (with_reducible refine (proofmarkref18_Norm.calls k2 _ _ (rd_L1 t215 x10_2) t240 t241 _ ?side1 ?side2 A45.out).mono ?_); (case side1 => repeat (first | exact (by repeat (first | (with_reducible exact HR239_0.out) | (with_reducible refine ca_ ?_ _) | (with_reducible refine cn_ ?_ _) | (with_reducible refine cd_ ?_) | exact HR239_0.out)) | (with_reducible refine ca_ ?_ _) | (with_reducible refine cn_ ?_ _) | (with_reducible refine cd_ ?_))); (case side2 => exact HC239_0.out); rintro e w50 ⟨v242, rfl, ho0, hb⟩; refine ⟨_, rfl, ?_⟩; have n0_ := am (Kd.S_elder' (by (with_reducible repeat (first | apply sa_ | apply sn_ | apply sd_)); exact HO_4.out) (rb_ ho0) hb); have n1_ := am (re_ (by (with_reducible repeat (first | apply ra_ | apply rn_ | apply rd_)); exact HO_5.out) (rb_ ho0) hb); have n2_ := am (re_ (by (with_reducible repeat (first | apply ra_ | apply rn_ | apply rd_)); exact HL234_0.out) (rb_ ho0) hb); have n3_ := am (re_ (by (with_reducible repeat (first | apply ra_ | apply rn_ | apply rd_)); exact HO238.out) (rb_ ho0) hb); have n4_ := am (re_ (by (with_reducible repeat (first | apply ra_ | apply rn_ | apply rd_)); exact HL239_0.out) (rb_ ho0) hb); have n5_ := am (Kd.R_lower (rw_ (rw_ (rw_ (rw_ ho0 (Kd.R_lt (by (with_reducible repeat (first | apply ra_ | apply rn_ | apply rd_)); exact HO_5.out))) (Kd.R_lt (by (with_reducible repeat (first | apply ra_ | apply rn_ | apply rd_)); exact HL234_0.out))) (Kd.R_lt (by (with_reducible repeat (first | apply ra_ | apply rn_ | apply rd_)); exact HO238.out))) (Kd.R_lt (by (with_reducible repeat (first | apply ra_ | apply rn_ | apply rd_)); exact HL239_0.out))) (below_size (by repeat (first | (with_reducible first | exact HB.out | apply ba_ | apply pn_ | apply b1_ | refine below_set ?_ GE213.out) | exact HB.out)))); have n6_ := am (blk_below (g := gb213) (o := .cells #[.slice A0_0 l0_0.length c0_0, .int .i64 a0_1, .slice A0_2 l0_2.length c0_2, .slice A0_3 l0_3.length c0_3, .int .i64 a0_4] 37 (0, 0)) (by (with_reducible repeat (first | refine blk_drewN ?_ _ | refine blk_drew ?_ | refine blk_alloc ?_ _)); exact BK213.out) hb); have n7_ := am (cb_ (by repeat (first | (with_reducible exact HR234_0.out) | (with_reducible refine ca_ ?_ _) | (with_reducible refine cn_ ?_ _) | (with_reducible refine cd_ ?_) | exact HR234_0.out)) hb); have n8_ := am (cb_ (by repeat (first | (with_reducible exact HR239_0.out) | (with_reducible refine ca_ ?_ _) | (with_reducible refine cn_ ?_ _) | (with_reducible refine cd_ ?_) | exact HR239_0.out)) hb); have n9_ := am (below_step (by repeat (first | (with_reducible first | exact HB.out | apply ba_ | apply pn_ | apply b1_ | refine below_set ?_ GE213.out) | exact HB.out)) hb); clear HO_4; clear HO_5; clear HL234_0; clear HO238; clear HL239_0; clear BK213; clear HR234_0; clear HR239_0; clear HB; have HO_4 := n0_; have HO_5 := n1_; have HL234_0 := n2_; have HO238 := n3_; have HL239_0 := n4_; have HO243 := n5_; have BK213 := n6_; have HR234_0 := n7_; have HR239_0 := n8_; have HB := n9_; clear n0_ n1_ n2_ n3_ n4_ n5_ n6_ n7_ n8_ n9_; (try clear hb); (try clear hb2); (try clear hk); (try clear hi); (try clear ho0)))
         replace HO_4 := am (sd_ HO_4.out); replace HO_5 := am (rd_ HO_5.out); replace HL234_0 := am (rd_ HL234_0.out); replace HO238 := am (rd_ HO238.out); replace HL239_0 := am (rd_ HL239_0.out); replace HO243 := am (rd_ HO243.out); replace BK213 := am (blk_drew BK213.out); replace HR234_0 := am (cd_ HR234_0.out); replace HR239_0 := am (cd_ HR239_0.out); replace HB := am (b1_ HB.out)
         have p244 : 0 ≤ (x10_2 : Int) := of_decide_eq_true (by first | (with_reducible assumption) | assumption)
         have q244 : x10_2 < (t215.length : Int) := of_decide_eq_true (by first | (with_reducible assumption) | assumption)
         obtain ⟨ad244, A244_0, c244_0, e244, hx244_0, hl244_0, hi244_0⟩ := at_L1 (sr_ HO_4.out).2.2 x10_2 p244 q244
         obtain rfl : ad234 = ad244 := (by injection e244)
         obtain ⟨ce244, hce244, hMe244, hcc244⟩ := Kd.S_get HO_4.out [] x10_2 p244 (by first | exact q244 | exact of_decide_eq_true (by first | (with_reducible assumption) | assumption) | (have e_ := (sr_ HO_4.out).1; omega))
         obtain ⟨ve244_0, rfl, ge244_0⟩ := hMe244
         have hv244_0 := hcc244 0 _ rfl
         rw [Nat.add_zero, show ((Kd.slice 3 (Kd.int .i64))).sz = 1 from rfl, Nat.mul_one] at hv244_0
         replace hv244_0 := Option.some.inj (hv244_0.symm.trans hx244_0)
         rw [hv244_0] at ge244_0
         have HL244_0 := am (show Kd.R (Kd.int .i64) 3 _ _ _ _ (rd_L1 t215 x10_2) from ge244_0); clear hv244_0 ge244_0 hcc244 hce244; have HR244_0 := am hi244_0; have HC244_0 := am hl244_0; clear hi244_0 hl244_0; replace p244 := eq_true p244; replace q244 := eq_true q244
         refine start_ (n := 13) (S := fun w' => w'.cell? ⟨gb213, 0, none⟩ = some (.slice A0_0 l0_0.length c0_0) ∧ w'.cell? ⟨gb213, 1, none⟩ = some (.int .i64 a0_1) ∧ w'.cell? ⟨gb213, 2, none⟩ = some (.slice A0_2 l0_2.length c0_2) ∧ w'.cell? ⟨gb213, 3, none⟩ = some (.slice A0_3 l0_3.length c0_3) ∧ w'.cell? ⟨gb213, 4, none⟩ = some (.int .i64 a0_4) ∧ w'.cell? (ad234.add (x10_2).toNat) = some (.slice A244_0 (rd_L1 t215 x10_2).length c244_0)) (ds := []) #[F,F,F,F,F,F,F,F,F,F,F,F,F] (by kernel_rfl) rfl rfl ⟨(blk_cell BK213.out 0).trans rfl, (blk_cell BK213.out 1).trans rfl, (blk_cell BK213.out 2).trans rfl, (blk_cell BK213.out 3).trans rfl, (blk_cell BK213.out 4).trans rfl, hx244_0⟩ (fun hHeld => ?_); refine with_tabW proofmarklaw18_PropTells.tab13 proofmarklaw18_PropTells.bits13 (fun HT_ HW_ => ?_)
         generalize w50.drew = w51 at HO_4 HO_5 HL234_0 HO238 HL239_0 HO243 BK213 HR234_0 HR239_0 HB HL244_0 HR244_0 hx244_0 hHeld ⊢
         refine pure_ (i := 0) (N := some 96) (v := ?_) (a' := ?_) #[T,F,F,F,F,F,F,F,F,F,F,F,F] rfl rfl (any_of HT_.out (by kernel_rfl)) (fun _ _ _ h => h) (.inl ⟨by rfl, ?_⟩) ?_ ?_
         rotate_left
         ·intro w'; go_simp; with_reducible rfl
         rotate_left
         ·simp only [Act.put, sb1, sb2, sb3, i64_w, i32_w]; rfl
         refine pure_ (i := 1) (N := some 97) (v := ?_) (a' := ?_) #[T,T,F,F,F,F,F,F,F,F,F,F,F] rfl rfl (any_of HT_.out (by kernel_rfl)) (fun _ _ _ h => h) (.inl ⟨by rfl, ?_⟩) ?_ ?_
         rotate_left
         ·intro w'; go_simp; with_reducible rfl
         rotate_left
         ·simp only [Act.put, sb1, sb2, sb3, i64_w, i32_w]; rfl
         refine pure_ (i := 2) (N := some 98) (v := ?_) (a' := ?_) #[T,T,T,F,F,F,F,F,F,F,F,F,F] rfl rfl (any_of HT_.out (by kernel_rfl)) (fun _ _ _ h => h) (.inl ⟨by rfl, ?_⟩) ?_ ?_
         rotate_left
         ·intro w'; go_simp; with_reducible rfl
         rotate_left
         ·simp only [Act.put, sb1, sb2, sb3, i64_w, i32_w]; rfl
         refine pure_ (i := 4) (N := some 100) (v := ?_) (a' := ?_) #[T,T,T,F,T,F,F,F,F,F,F,F,F] rfl rfl (any_of HT_.out (by kernel_rfl)) (fun _ _ _ h => h) (.inl ⟨by rfl, ?_⟩) ?_ ?_
         rotate_left
         ·intro w'; go_simp; with_reducible rfl
         rotate_left
         ·simp only [Act.put, sb1, sb2, sb3, i64_w, i32_w]; rfl
         refine pure_ (i := 5) (N := some 101) (v := ?_) (a' := ?_) #[T,T,T,F,T,T,F,F,F,F,F,F,F] rfl rfl (any_of HT_.out (by kernel_rfl)) (fun _ _ _ h => h) (.inl ⟨by rfl, ?_⟩) ?_ ?_
         rotate_left
         ·intro w'; go_simp; with_reducible rfl
         rotate_left
         ·simp only [Act.put, sb1, sb2, sb3, i64_w, i32_w]; rfl
         refine take_ (i := 3) (N := some 99) (v := ?_) (a' := ?_) #[T,T,T,T,T,T,F,F,F,F,F,F,F] rfl rfl (take_ofW HT_.out HW_.out (by kernel_rfl)) (fun _ _ _ h => h) (.inl ⟨by rfl, ?_⟩) hHeld ?_ ?_
         rotate_left
         ·rintro w' ⟨s0, s1, s2, s3, s4, s5⟩
          go_simp; with_reducible rfl
         rotate_left
         ·simp only [Act.put, sb1, sb2, sb3, i64_w, i32_w]; rfl
         refine take_ (i := 6) (N := some 102) (v := ?_) (a' := ?_) #[T,T,T,T,T,T,T,F,F,F,F,F,F] rfl rfl (take_ofW HT_.out HW_.out (by kernel_rfl)) (fun _ _ _ h => h) (.inl ⟨by rfl, ?_⟩) hHeld ?_ ?_
         rotate_left
         ·rintro w' ⟨s0, s1, s2, s3, s4, s5⟩
          go_simp; with_reducible rfl
         rotate_left
         ·simp only [Act.put, sb1, sb2, sb3, i64_w, i32_w]; rfl
         refine one_ (i := 7) (N := some 103) #[T,T,T,T,T,T,T,T,F,F,F,F,F] rfl rfl (one_of HT_.out (by kernel_rfl)) (by decide) (fun K hK => ?_)
         refine goes_ Try.func36 (by kernel_rfl) rfl #[.slice A244_0 (rd_L1 t215 x10_2).length c244_0, .slice Ao16 t218.length co16, .int .i64 a0_4] (by rfl) rfl rfl (by (try simp only [ma_, mc_, mn_]); first | done | rfl | (simp only [ld_, lt_]; rfl)) ?_
         with_reducible refine (prop_Resolve.calls _ _ (rd_L1 t215 x10_2) _ _ t218 a0_4 t245 t246 _ ?side1 ?side2 ?side3 ?side4 A46.out).mono ?_
         (case side1 => repeat (first | exact (by repeat (first | (with_reducible exact HR244_0.out) | (with_reducible refine ca_ ?_ _) | (with_reducible refine cn_ ?_ _) | (with_reducible refine cd_ ?_) | exact HR244_0.out)) | (with_reducible refine ca_ ?_ _) | (with_reducible refine cn_ ?_ _) | (with_reducible refine cd_ ?_)))
         (case side2 => exact HC244_0.out)
         (case side3 => repeat (first | exact (Kd.R_reads' HO_5.out).2.2 | (with_reducible refine ca_ ?_ _) | (with_reducible refine cn_ ?_ _) | (with_reducible refine cd_ ?_)))
         (case side4 => exact (Kd.R_reads' HO_5.out).2.1)
         rintro e w52 ⟨v247, rfl, ho0, hb⟩
         have HS5_ := (hb.cell (World.block_lt_of_cell? _ _ (hHeld.2.2.2.2.2))).trans (hHeld.2.2.2.2.2)
         refine ⟨_, rfl, ?_⟩
         have n0_ := am (Kd.S_elder' (by (with_reducible repeat (first | apply sa_ | apply sn_ | apply sd_)); exact HO_4.out) (rb_ ho0) hb)
         have n1_ := am (re_ (by (with_reducible repeat (first | apply ra_ | apply rn_ | apply rd_)); exact HO_5.out) (rb_ ho0) hb)
         have n2_ := am (re_ (by (with_reducible repeat (first | apply ra_ | apply rn_ | apply rd_)); exact HL234_0.out) (rb_ ho0) hb)
         have n3_ := am (re_ (by (with_reducible repeat (first | apply ra_ | apply rn_ | apply rd_)); exact HO238.out) (rb_ ho0) hb)
         have n4_ := am (re_ (by (with_reducible repeat (first | apply ra_ | apply rn_ | apply rd_)); exact HL239_0.out) (rb_ ho0) hb)
         have n5_ := am (re_ (by (with_reducible repeat (first | apply ra_ | apply rn_ | apply rd_)); exact HO243.out) (rb_ ho0) hb)
         have n6_ := am (re_ (by (with_reducible repeat (first | apply ra_ | apply rn_ | apply rd_)); exact HL244_0.out) (rb_ ho0) hb)
         have n7_ := am (Kd.R_lower (rw_ (rw_ (rw_ (rw_ (rw_ (rw_ ho0 (Kd.R_lt (by (with_reducible repeat (first | apply ra_ | apply rn_ | apply rd_)); exact HO_5.out))) (Kd.R_lt (by (with_reducible repeat (first | apply ra_ | apply rn_ | apply rd_)); exact HL234_0.out))) (Kd.R_lt (by (with_reducible repeat (first | apply ra_ | apply rn_ | apply rd_)); exact HO238.out))) (Kd.R_lt (by (with_reducible repeat (first | apply ra_ | apply rn_ | apply rd_)); exact HL239_0.out))) (Kd.R_lt (by (with_reducible repeat (first | apply ra_ | apply rn_ | apply rd_)); exact HO243.out))) (Kd.R_lt (by (with_reducible repeat (first | apply ra_ | apply rn_ | apply rd_)); exact HL244_0.out))) (below_size (by repeat (first | (with_reducible first | exact HB.out | apply ba_ | apply pn_ | apply b1_ | refine below_set ?_ GE213.out) | exact HB.out))))
         have n8_ := am (blk_below (g := gb213) (o := .cells #[.slice A0_0 l0_0.length c0_0, .int .i64 a0_1, .slice A0_2 l0_2.length c0_2, .slice A0_3 l0_3.length c0_3, .int .i64 a0_4] 37 (0, 0)) (by (with_reducible repeat (first | refine blk_drewN ?_ _ | refine blk_drew ?_ | refine blk_alloc ?_ _)); exact BK213.out) hb)
         have n9_ := am (cb_ (by repeat (first | (with_reducible exact HR234_0.out) | (with_reducible refine ca_ ?_ _) | (with_reducible refine cn_ ?_ _) | (with_reducible refine cd_ ?_) | exact HR234_0.out)) hb); have n10_ := am (cb_ (by repeat (first | (with_reducible exact HR239_0.out) | (with_reducible refine ca_ ?_ _) | (with_reducible refine cn_ ?_ _) | (with_reducible refine cd_ ?_) | exact HR239_0.out)) hb); have n11_ := am (cb_ (by repeat (first | (with_reducible exact HR244_0.out) | (with_reducible refine ca_ ?_ _) | (with_reducible refine cn_ ?_ _) | (with_reducible refine cd_ ?_) | exact HR244_0.out)) hb); have n12_ := am (below_step (by repeat (first | (with_reducible first | exact HB.out | apply ba_ | apply pn_ | apply b1_ | refine below_set ?_ GE213.out) | exact HB.out)) hb); clear HO_4 HO_5 HL234_0 HO238 HL239_0 HO243 HL244_0 BK213 HR234_0 HR239_0 HR244_0 HB; have HO_4 := n0_; have HO_5 := n1_; have HL234_0 := n2_; have HO238 := n3_; have HL239_0 := n4_; have HO243 := n5_; have HL244_0 := n6_; have HO248 := n7_; have BK213 := n8_; have HR234_0 := n9_; have HR239_0 := n10_; have HR244_0 := n11_; have HB := n12_; clear n0_ n1_ n2_ n3_ n4_ n5_ n6_ n7_ n8_ n9_ n10_ n11_ n12_
         (try clear hb)
         (try clear hb2)
         (try clear hk)
         (try clear hi)
         (try clear ho0)
         refine hK.out _ _ ⟨(blk_cell BK213.out 0).trans rfl, (blk_cell BK213.out 1).trans rfl, (blk_cell BK213.out 2).trans rfl, (blk_cell BK213.out 3).trans rfl, (blk_cell BK213.out 4).trans rfl, HS5_⟩ (fun hHeld => ?_)
         clear hK K
         refine norm_ (a' := ?_) ?_ ?_
         rotate_left
         ·show Act.put _ (some 103) _ = _
          simp only [Act.put, sb1, sb2, sb3, i64_w, i32_w]; rfl
         refine pure_ (i := 8) (N := some 95) (v := ?_) (a' := ?_) #[T,T,T,T,T,T,T,T,T,F,F,F,F] rfl rfl (any_of HT_.out (by kernel_rfl)) (fun _ _ _ h => h) (.inl ⟨by rfl, ?_⟩) ?_ ?_
         rotate_left
         ·intro w'; go_simp; with_reducible rfl
         rotate_left
         ·simp only [Act.put, sb1, sb2, sb3, i64_w, i32_w]; rfl
         refine pure_ (i := 9) (N := some 104) (v := ?_) (a' := ?_) #[T,T,T,T,T,T,T,T,T,T,F,F,F] rfl rfl (any_of HT_.out (by kernel_rfl)) (fun _ _ _ h => h) (.inl ⟨by rfl, ?_⟩) ?_ ?_
         rotate_left
         ·intro w'; go_simp; with_reducible rfl
         rotate_left
         ·simp only [Act.put, sb1, sb2, sb3, i64_w, i32_w]; rfl
         refine pure_ (i := 10) (N := some 105) (v := ?_) (a' := ?_) #[T,T,T,T,T,T,T,T,T,T,T,F,F] rfl rfl (any_of HT_.out (by kernel_rfl)) (fun _ _ _ h => h) (.inl ⟨by rfl, ?_⟩) ?_ ?_
         rotate_left
         ·intro w'; go_simp; with_reducible rfl
         rotate_left
         ·simp only [Act.put, sb1, sb2, sb3, i64_w, i32_w]; rfl
         refine pure_ (i := 11) (N := some 15) (v := ?_) (a' := ?_) #[T,T,T,T,T,T,T,T,T,T,T,T,F] rfl rfl (any_of HT_.out (by kernel_rfl)) (fun _ _ _ h => h) (.inl ⟨by rfl, ?_⟩) ?_ ?_
         rotate_left
         ·intro w'; go_simp; with_reducible rfl
         rotate_left
         ·simp only [Act.put, sb1, sb2, sb3, i64_w, i32_w]; rfl
         refine pure_ (i := 12) (N := some 16) (v := ?_) (a' := ?_) #[T,T,T,T,T,T,T,T,T,T,T,T,T] rfl rfl (any_of HT_.out (by kernel_rfl)) (fun _ _ _ h => h) (.inl ⟨by rfl, ?_⟩) ?_ ?_
         rotate_left
         ·intro w'; go_simp; with_reducible rfl
         rotate_left
         ·simp only [Act.put, sb1, sb2, sb3, i64_w, i32_w]; rfl
         refine done_ (done_of HT_.out (by kernel_rfl)) ?_
         try go_wp2; replace HO_4 := am (sd_ HO_4.out); replace HO_5 := am (rd_ HO_5.out); replace HL234_0 := am (rd_ HL234_0.out); replace HO238 := am (rd_ HO238.out); replace HL239_0 := am (rd_ HL239_0.out); replace HO243 := am (rd_ HO243.out); replace HL244_0 := am (rd_ HL244_0.out); replace HO248 := am (rd_ HO248.out); replace BK213 := am (blk_drew BK213.out); replace HR234_0 := am (cd_ HR234_0.out); replace HR239_0 := am (cd_ HR239_0.out); replace HR244_0 := am (cd_ HR244_0.out); replace HB := am (b1_ HB.out)
         have p249 : 0 ≤ (x10_2 : Int) := of_decide_eq_true (by first | (with_reducible assumption) | assumption)
         have q249 : x10_2 < (t215.length : Int) := of_decide_eq_true (by first | (with_reducible assumption) | assumption)
         obtain ⟨ad249, A249_0, c249_0, e249, hx249_0, hl249_0, hi249_0⟩ := at_L1 (sr_ HO_4.out).2.2 x10_2 p249 q249
         obtain rfl : ad234 = ad249 := (by injection e249)
         obtain ⟨ce249, hce249, hMe249, hcc249⟩ := Kd.S_get HO_4.out [] x10_2 p249 (by first | exact q249 | exact of_decide_eq_true (by first | (with_reducible assumption) | assumption) | (have e_ := (sr_ HO_4.out).1; omega))
         obtain ⟨ve249_0, rfl, ge249_0⟩ := hMe249
         have hv249_0 := hcc249 0 _ rfl
         rw [Nat.add_zero, show ((Kd.slice 3 (Kd.int .i64))).sz = 1 from rfl, Nat.mul_one] at hv249_0
         replace hv249_0 := Option.some.inj (hv249_0.symm.trans hx249_0)
         rw [hv249_0] at ge249_0
         have HL249_0 := am (show Kd.R (Kd.int .i64) 3 _ _ _ _ (rd_L1 t215 x10_2) from ge249_0); clear hv249_0 ge249_0 hcc249 hce249; have HR249_0 := am hi249_0; have HC249_0 := am hl249_0; clear hi249_0 hl249_0; replace p249 := eq_true p249; replace q249 := eq_true q249
         refine start_ (n := 13) (S := fun w' => w'.cell? ⟨gb213, 0, none⟩ = some (.slice A0_0 l0_0.length c0_0) ∧ w'.cell? ⟨gb213, 1, none⟩ = some (.int .i64 a0_1) ∧ w'.cell? ⟨gb213, 2, none⟩ = some (.slice A0_2 l0_2.length c0_2) ∧ w'.cell? ⟨gb213, 3, none⟩ = some (.slice A0_3 l0_3.length c0_3) ∧ w'.cell? ⟨gb213, 4, none⟩ = some (.int .i64 a0_4) ∧ w'.cell? (ad234.add (x10_2).toNat) = some (.slice A249_0 (rd_L1 t215 x10_2).length c249_0)) (ds := []) #[F,F,F,F,F,F,F,F,F,F,F,F,F] (by kernel_rfl) rfl rfl ⟨(blk_cell BK213.out 0).trans rfl, (blk_cell BK213.out 1).trans rfl, (blk_cell BK213.out 2).trans rfl, (blk_cell BK213.out 3).trans rfl, (blk_cell BK213.out 4).trans rfl, hx249_0⟩ (fun hHeld => ?_); refine with_tabW proofmarklaw18_PropTells.tab14 proofmarklaw18_PropTells.bits14 (fun HT_ HW_ => ?_)
         generalize w52.drew = w53 at HO_4 HO_5 HL234_0 HO238 HL239_0 HO243 HL244_0 HO248 BK213 HR234_0 HR239_0 HR244_0 HB HL249_0 HR249_0 hx249_0 hHeld ⊢
         refine pure_ (i := 0) (N := some 107) (v := ?_) (a' := ?_) #[T,F,F,F,F,F,F,F,F,F,F,F,F] rfl rfl (any_of HT_.out (by kernel_rfl)) (fun _ _ _ h => h) (.inl ⟨by rfl, ?_⟩) ?_ ?_
         rotate_left
         ·intro w'; go_simp; with_reducible rfl
         rotate_left
         ·simp only [Act.put, sb1, sb2, sb3, i64_w, i32_w]; rfl
         refine pure_ (i := 1) (N := some 108) (v := ?_) (a' := ?_) #[T,T,F,F,F,F,F,F,F,F,F,F,F] rfl rfl (any_of HT_.out (by kernel_rfl)) (fun _ _ _ h => h) (.inl ⟨by rfl, ?_⟩) ?_ ?_
         rotate_left
         ·intro w'; go_simp; with_reducible rfl
         rotate_left
         ·simp only [Act.put, sb1, sb2, sb3, i64_w, i32_w]; rfl
         refine pure_ (i := 2) (N := some 109) (v := ?_) (a' := ?_) #[T,T,T,F,F,F,F,F,F,F,F,F,F] rfl rfl (any_of HT_.out (by kernel_rfl)) (fun _ _ _ h => h) (.inl ⟨by rfl, ?_⟩) ?_ ?_
         rotate_left
         ·intro w'; go_simp; with_reducible rfl
         rotate_left
         ·simp only [Act.put, sb1, sb2, sb3, i64_w, i32_w]; rfl
         refine pure_ (i := 4) (N := some 111) (v := ?_) (a' := ?_) #[T,T,T,F,T,F,F,F,F,F,F,F,F] rfl rfl (any_of HT_.out (by kernel_rfl)) (fun _ _ _ h => h) (.inl ⟨by rfl, ?_⟩) ?_ ?_
         rotate_left
         ·intro w'; go_simp; with_reducible rfl
         rotate_left
         ·simp only [Act.put, sb1, sb2, sb3, i64_w, i32_w]; rfl
         refine pure_ (i := 5) (N := some 112) (v := ?_) (a' := ?_) #[T,T,T,F,T,T,F,F,F,F,F,F,F] rfl rfl (any_of HT_.out (by kernel_rfl)) (fun _ _ _ h => h) (.inl ⟨by rfl, ?_⟩) ?_ ?_
         rotate_left
         ·intro w'; go_simp; with_reducible rfl
         rotate_left
         ·simp only [Act.put, sb1, sb2, sb3, i64_w, i32_w]; rfl
         refine take_ (i := 3) (N := some 110) (v := ?_) (a' := ?_) #[T,T,T,T,T,T,F,F,F,F,F,F,F] rfl rfl (take_ofW HT_.out HW_.out (by kernel_rfl)) (fun _ _ _ h => h) (.inl ⟨by rfl, ?_⟩) hHeld ?_ ?_
         rotate_left
         ·rintro w' ⟨s0, s1, s2, s3, s4, s5⟩
          go_simp; with_reducible rfl
         rotate_left
         ·simp only [Act.put, sb1, sb2, sb3, i64_w, i32_w]; rfl
         refine take_ (i := 6) (N := some 113) (v := ?_) (a' := ?_) #[T,T,T,T,T,T,T,F,F,F,F,F,F] rfl rfl (take_ofW HT_.out HW_.out (by kernel_rfl)) (fun _ _ _ h => h) (.inl ⟨by rfl, ?_⟩) hHeld ?_ ?_
         rotate_left
         ·rintro w' ⟨s0, s1, s2, s3, s4, s5⟩
          go_simp; with_reducible rfl
         rotate_left
         ·simp only [Act.put, sb1, sb2, sb3, i64_w, i32_w]; rfl
         refine one_ (i := 7) (N := some 114) #[T,T,T,T,T,T,T,T,F,F,F,F,F] rfl rfl (one_of HT_.out (by kernel_rfl)) (by decide) (fun K hK => ?_)
         refine goes_ Try.func37 (by kernel_rfl) rfl #[.slice A249_0 (rd_L1 t215 x10_2).length c249_0, .slice Ao16 t218.length co16, .int .i64 a0_4] (by rfl) rfl rfl (by (try simp only [ma_, mc_, mn_]); first | done | rfl | (simp only [ld_, lt_]; rfl)) ?_
         with_reducible refine (proofmarkref18_Resolve.calls k2 _ _ (rd_L1 t215 x10_2) _ _ t218 a0_4 t250 t251 _ ?side1 ?side2 ?side3 ?side4 A47.out).mono ?_
         (case side1 => repeat (first | exact (by repeat (first | (with_reducible exact HR249_0.out) | (with_reducible refine ca_ ?_ _) | (with_reducible refine cn_ ?_ _) | (with_reducible refine cd_ ?_) | exact HR249_0.out)) | (with_reducible refine ca_ ?_ _) | (with_reducible refine cn_ ?_ _) | (with_reducible refine cd_ ?_)))
         (case side2 => exact HC249_0.out)
         (case side3 => repeat (first | exact (Kd.R_reads' HO_5.out).2.2 | (with_reducible refine ca_ ?_ _) | (with_reducible refine cn_ ?_ _) | (with_reducible refine cd_ ?_)))
         (case side4 => exact (Kd.R_reads' HO_5.out).2.1)
         rintro e w54 ⟨v252, rfl, ho0, hb⟩
         have HS5_ := (hb.cell (World.block_lt_of_cell? _ _ (hHeld.2.2.2.2.2))).trans (hHeld.2.2.2.2.2)
         refine ⟨_, rfl, ?_⟩
         have n0_ := am (Kd.S_elder' (by (with_reducible repeat (first | apply sa_ | apply sn_ | apply sd_)); exact HO_4.out) (rb_ ho0) hb)
         have n1_ := am (re_ (by (with_reducible repeat (first | apply ra_ | apply rn_ | apply rd_)); exact HO_5.out) (rb_ ho0) hb)
         have n2_ := am (re_ (by (with_reducible repeat (first | apply ra_ | apply rn_ | apply rd_)); exact HL234_0.out) (rb_ ho0) hb)
         have n3_ := am (re_ (by (with_reducible repeat (first | apply ra_ | apply rn_ | apply rd_)); exact HO238.out) (rb_ ho0) hb)
         have n4_ := am (re_ (by (with_reducible repeat (first | apply ra_ | apply rn_ | apply rd_)); exact HL239_0.out) (rb_ ho0) hb)
         have n5_ := am (re_ (by (with_reducible repeat (first | apply ra_ | apply rn_ | apply rd_)); exact HO243.out) (rb_ ho0) hb)
         have n6_ := am (re_ (by (with_reducible repeat (first | apply ra_ | apply rn_ | apply rd_)); exact HL244_0.out) (rb_ ho0) hb)
         have n7_ := am (re_ (by (with_reducible repeat (first | apply ra_ | apply rn_ | apply rd_)); exact HO248.out) (rb_ ho0) hb)
         have n8_ := am (re_ (by (with_reducible repeat (first | apply ra_ | apply rn_ | apply rd_)); exact HL249_0.out) (rb_ ho0) hb)
         have n9_ := am (Kd.R_lower (rw_ (rw_ (rw_ (rw_ (rw_ (rw_ (rw_ (rw_ ho0 (Kd.R_lt (by (with_reducible repeat (first | apply ra_ | apply rn_ | apply rd_)); exact HO_5.out))) (Kd.R_lt (by (with_reducible repeat (first | apply ra_ | apply rn_ | apply rd_)); exact HL234_0.out))) (Kd.R_lt (by (with_reducible repeat (first | apply ra_ | apply rn_ | apply rd_)); exact HO238.out))) (Kd.R_lt (by (with_reducible repeat (first | apply ra_ | apply rn_ | apply rd_)); exact HL239_0.out))) (Kd.R_lt (by (with_reducible repeat (first | apply ra_ | apply rn_ | apply rd_)); exact HO243.out))) (Kd.R_lt (by (with_reducible repeat (first | apply ra_ | apply rn_ | apply rd_)); exact HL244_0.out))) (Kd.R_lt (by (with_reducible repeat (first | apply ra_ | apply rn_ | apply rd_)); exact HO248.out))) (Kd.R_lt (by (with_reducible repeat (first | apply ra_ | apply rn_ | apply rd_)); exact HL249_0.out))) (below_size (by repeat (first | (with_reducible first | exact HB.out | apply ba_ | apply pn_ | apply b1_ | refine below_set ?_ GE213.out) | exact HB.out))))
         have n10_ := am (blk_below (g := gb213) (o := .cells #[.slice A0_0 l0_0.length c0_0, .int .i64 a0_1, .slice A0_2 l0_2.length c0_2, .slice A0_3 l0_3.length c0_3, .int .i64 a0_4] 37 (0, 0)) (by (with_reducible repeat (first | refine blk_drewN ?_ _ | refine blk_drew ?_ | refine blk_alloc ?_ _)); exact BK213.out) hb)
         have n11_ := am (cb_ (by repeat (first | (with_reducible exact HR234_0.out) | (with_reducible refine ca_ ?_ _) | (with_reducible refine cn_ ?_ _) | (with_reducible refine cd_ ?_) | exact HR234_0.out)) hb); have n12_ := am (cb_ (by repeat (first | (with_reducible exact HR239_0.out) | (with_reducible refine ca_ ?_ _) | (with_reducible refine cn_ ?_ _) | (with_reducible refine cd_ ?_) | exact HR239_0.out)) hb); have n13_ := am (cb_ (by repeat (first | (with_reducible exact HR244_0.out) | (with_reducible refine ca_ ?_ _) | (with_reducible refine cn_ ?_ _) | (with_reducible refine cd_ ?_) | exact HR244_0.out)) hb); have n14_ := am (cb_ (by repeat (first | (with_reducible exact HR249_0.out) | (with_reducible refine ca_ ?_ _) | (with_reducible refine cn_ ?_ _) | (with_reducible refine cd_ ?_) | exact HR249_0.out)) hb); have n15_ := am (below_step (by repeat (first | (with_reducible first | exact HB.out | apply ba_ | apply pn_ | apply b1_ | refine below_set ?_ GE213.out) | exact HB.out)) hb); clear HO_4 HO_5 HL234_0 HO238 HL239_0 HO243 HL244_0 HO248 HL249_0 BK213 HR234_0 HR239_0 HR244_0 HR249_0 HB; have HO_4 := n0_; have HO_5 := n1_; have HL234_0 := n2_; have HO238 := n3_; have HL239_0 := n4_; have HO243 := n5_; have HL244_0 := n6_; have HO248 := n7_; have HL249_0 := n8_; have HO253 := n9_; have BK213 := n10_; have HR234_0 := n11_; have HR239_0 := n12_; have HR244_0 := n13_; have HR249_0 := n14_; have HB := n15_; clear n0_ n1_ n2_ n3_ n4_ n5_ n6_ n7_ n8_ n9_ n10_ n11_ n12_ n13_ n14_ n15_
         (try clear hb)
         (try clear hb2)
         (try clear hk)
         (try clear hi)
         (try clear ho0)
         refine hK.out _ _ ⟨(blk_cell BK213.out 0).trans rfl, (blk_cell BK213.out 1).trans rfl, (blk_cell BK213.out 2).trans rfl, (blk_cell BK213.out 3).trans rfl, (blk_cell BK213.out 4).trans rfl, HS5_⟩ (fun hHeld => ?_)
         clear hK K
         refine norm_ (a' := ?_) ?_ ?_
         rotate_left
         ·show Act.put _ (some 114) _ = _
          simp only [Act.put, sb1, sb2, sb3, i64_w, i32_w]; rfl
         refine pure_ (i := 8) (N := some 106) (v := ?_) (a' := ?_) #[T,T,T,T,T,T,T,T,T,F,F,F,F] rfl rfl (any_of HT_.out (by kernel_rfl)) (fun _ _ _ h => h) (.inl ⟨by rfl, ?_⟩) ?_ ?_
         rotate_left
         ·intro w'; go_simp; with_reducible rfl
         rotate_left
         ·simp only [Act.put, sb1, sb2, sb3, i64_w, i32_w]; rfl
         refine pure_ (i := 9) (N := some 115) (v := ?_) (a' := ?_) #[T,T,T,T,T,T,T,T,T,T,F,F,F] rfl rfl (any_of HT_.out (by kernel_rfl)) (fun _ _ _ h => h) (.inl ⟨by rfl, ?_⟩) ?_ ?_
         rotate_left
         ·intro w'; go_simp; with_reducible rfl
         rotate_left
         ·simp only [Act.put, sb1, sb2, sb3, i64_w, i32_w]; rfl
         refine pure_ (i := 10) (N := some 116) (v := ?_) (a' := ?_) #[T,T,T,T,T,T,T,T,T,T,T,F,F] rfl rfl (any_of HT_.out (by kernel_rfl)) (fun _ _ _ h => h) (.inl ⟨by rfl, ?_⟩) ?_ ?_
         rotate_left
         ·intro w'; go_simp; with_reducible rfl
         rotate_left
         ·simp only [Act.put, sb1, sb2, sb3, i64_w, i32_w]; rfl
         refine pure_ (i := 11) (N := some 17) (v := ?_) (a' := ?_) #[T,T,T,T,T,T,T,T,T,T,T,T,F] rfl rfl (any_of HT_.out (by kernel_rfl)) (fun _ _ _ h => h) (.inl ⟨by rfl, ?_⟩) ?_ ?_
         rotate_left
         ·intro w'; go_simp; with_reducible rfl
         rotate_left
         ·simp only [Act.put, sb1, sb2, sb3, i64_w, i32_w]; rfl
         refine pure_ (i := 12) (N := some 18) (v := ?_) (a' := ?_) #[T,T,T,T,T,T,T,T,T,T,T,T,T] rfl rfl (any_of HT_.out (by kernel_rfl)) (fun _ _ _ h => h) (.inl ⟨by rfl, ?_⟩) ?_ ?_
         rotate_left
         ·intro w'; go_simp; with_reducible rfl
         rotate_left
         ·simp only [Act.put, sb1, sb2, sb3, i64_w, i32_w]; rfl
         refine done_ (done_of HT_.out (by kernel_rfl)) ?_
         try go_wp2
         go_ret
         exact ⟨by first | rfl | (simp [errW_none, errW_some] <;> rfl) | (simp [*, errW_none, errW_some] <;> rfl), by repeat (first | (with_reducible first | exact HB.out | apply ba_ | apply pn_ | apply b1_ | refine below_set ?_ GE213.out) | exact HB.out)⟩
        ·rw [if_neg c48] at H
         have c48b0 : (t236 != t241) = false := by simpa using c48
         (try (have c48b1 : decide (t236 = t241) = true := by simpa using c48))
         (try (have c48b2 : (t236 == t241) = true := by simpa using c48))
         clear c48
         by_cases c55 : (t246 != t251) = true
         ·rw [if_pos c55] at H
          have c55b0 : (t246 != t251) = true := c55
          (try (have c55b1 : decide (t246 = t251) = false := by simpa using c55))
          (try (have c55b2 : (t246 == t251) = false := by simpa using c55))
          (try (have c55b3 : ¬ (t246 = t251) := by simpa using c55))
          clear c55
          obtain rfl := Option.some.inj H
          have p234 : 0 ≤ (x10_2 : Int) := of_decide_eq_true (by first | (with_reducible assumption) | assumption)
          have q234 : x10_2 < (t215.length : Int) := of_decide_eq_true (by first | (with_reducible assumption) | assumption)
          obtain ⟨ad234, A234_0, c234_0, e234, hx234_0, hl234_0, hi234_0⟩ := at_L1 (sr_ HO_4.out).2.2 x10_2 p234 q234
          cases e234
          obtain ⟨ce234, hce234, hMe234, hcc234⟩ := Kd.S_get HO_4.out [] x10_2 p234 (by first | exact q234 | exact of_decide_eq_true (by first | (with_reducible assumption) | assumption) | (have e_ := (sr_ HO_4.out).1; omega))
          obtain ⟨ve234_0, rfl, ge234_0⟩ := hMe234
          have hv234_0 := hcc234 0 _ rfl
          rw [Nat.add_zero, show ((Kd.slice 3 (Kd.int .i64))).sz = 1 from rfl, Nat.mul_one] at hv234_0
          replace hv234_0 := Option.some.inj (hv234_0.symm.trans hx234_0)
          rw [hv234_0] at ge234_0
          have HL234_0 := am (show Kd.R (Kd.int .i64) 3 _ _ _ _ (rd_L1 t215 x10_2) from ge234_0); clear hv234_0 ge234_0 hcc234 hce234; have HR234_0 := am hi234_0; have HC234_0 := am hl234_0; clear hi234_0 hl234_0; replace p234 := eq_true p234; replace q234 := eq_true q234
          try go_wp2_with (first | ((with_reducible refine gate_callee (f := 34) rfl ?_); refine goesL_ (some 84) rfl rfl Try.func34 (by kernel_rfl) rfl #[.slice A234_0 (rd_L1 t215 x10_2).length c234_0] rfl (by (try simp only [ma_, mc_, mn_]); first | done | rfl | (simp only [ld_, lt_]; rfl)) ?_; (with_reducible refine (prop_Norm.calls _ _ (rd_L1 t215 x10_2) t235 t236 _ ?side1 ?side2 A44.out).mono ?_); (case side1 => repeat (first | exact (by repeat (first | (with_reducible exact HR234_0.out) | (with_reducible refine ca_ ?_ _) | (with_reducible refine cn_ ?_ _) | (with_reducible refine cd_ ?_) | exact HR234_0.out)) | (with_reducible refine ca_ ?_ _) | (with_reducible refine cn_ ?_ _) | (with_reducible refine cd_ ?_))); (case side2 => exact HC234_0.out); rintro e w56 ⟨v237, rfl, ho0, hb⟩; refine ⟨_, rfl, ?_⟩; have n0_ := am (Kd.S_elder' (by (with_reducible repeat (first | apply sa_ | apply sn_ | apply sd_)); exact HO_4.out) (rb_ ho0) hb); have n1_ := am (re_ (by (with_reducible repeat (first | apply ra_ | apply rn_ | apply rd_)); exact HO_5.out) (rb_ ho0) hb); have n2_ := am (re_ (by (with_reducible repeat (first | apply ra_ | apply rn_ | apply rd_)); exact HL234_0.out) (rb_ ho0) hb); have n3_ := am (Kd.R_lower (rw_ (rw_ ho0 (Kd.R_lt (by (with_reducible repeat (first | apply ra_ | apply rn_ | apply rd_)); exact HO_5.out))) (Kd.R_lt (by (with_reducible repeat (first | apply ra_ | apply rn_ | apply rd_)); exact HL234_0.out))) (below_size (by repeat (first | (with_reducible first | exact HB.out | apply ba_ | apply pn_ | apply b1_ | refine below_set ?_ GE213.out) | exact HB.out)))); have n4_ := am (blk_below (g := gb213) (o := .cells #[.slice A0_0 l0_0.length c0_0, .int .i64 a0_1, .slice A0_2 l0_2.length c0_2, .slice A0_3 l0_3.length c0_3, .int .i64 a0_4] 37 (0, 0)) (by (with_reducible repeat (first | refine blk_drewN ?_ _ | refine blk_drew ?_ | refine blk_alloc ?_ _)); exact BK213.out) hb); have n5_ := am (cb_ (by repeat (first | (with_reducible exact HR234_0.out) | (with_reducible refine ca_ ?_ _) | (with_reducible refine cn_ ?_ _) | (with_reducible refine cd_ ?_) | exact HR234_0.out)) hb); have n6_ := am (below_step (by repeat (first | (with_reducible first | exact HB.out | apply ba_ | apply pn_ | apply b1_ | refine below_set ?_ GE213.out) | exact HB.out)) hb); clear HO_4; clear HO_5; clear HL234_0; clear BK213; clear HR234_0; clear HB; have HO_4 := n0_; have HO_5 := n1_; have HL234_0 := n2_; have HO238 := n3_; have BK213 := n4_; have HR234_0 := n5_; have HB := n6_; clear n0_ n1_ n2_ n3_ n4_ n5_ n6_; (try clear hb); (try clear hb2); (try clear hk); (try clear hi); (try clear ho0); have p239 : 0 ≤ (x10_2 : Int) := of_decide_eq_true (by first | (with_reducible assumption) | assumption); have q239 : x10_2 < (t215.length : Int) := of_decide_eq_true (by first | (with_reducible assumption) | assumption); obtain ⟨ad239, A239_0, c239_0, e239, hx239_0, hl239_0, hi239_0⟩ := at_L1 (sr_ HO_4.out).2.2 x10_2 p239 q239; obtain rfl : ad234 = ad239 := (by injection e239); obtain ⟨ce239, hce239, hMe239, hcc239⟩ := Kd.S_get HO_4.out [] x10_2 p239 (by first | exact q239 | exact of_decide_eq_true (by first | (with_reducible assumption) | assumption) | (have e_ := (sr_ HO_4.out).1; omega)); obtain ⟨ve239_0, rfl, ge239_0⟩ := hMe239; have hv239_0 := hcc239 0 _ rfl; rw [Nat.add_zero, show ((Kd.slice 3 (Kd.int .i64))).sz = 1 from rfl, Nat.mul_one] at hv239_0; replace hv239_0 := Option.some.inj (hv239_0.symm.trans hx239_0); rw [hv239_0] at ge239_0; have HL239_0 := am (show Kd.R (Kd.int .i64) 3 _ _ _ _ (rd_L1 t215 x10_2) from ge239_0); clear hv239_0 ge239_0; clear hcc239 hce239; have HR239_0 := am hi239_0; have HC239_0 := am hl239_0; clear hi239_0 hl239_0; replace p239 := eq_true p239; replace q239 := eq_true q239) | ((with_reducible refine gate_callee (f := 35) rfl ?_); refine goesL_ (some 92) rfl rfl Try.func35 (by kernel_rfl) rfl #[.slice A239_0 (rd_L1 t215 x10_2).length c239_0] rfl (by (try simp only [ma_, mc_, mn_]); first | done | rfl | (simp only [ld_, lt_]; rfl)) ?_; (with_reducible refine (proofmarkref18_Norm.calls k2 _ _ (rd_L1 t215 x10_2) t240 t241 _ ?side1 ?side2 A45.out).mono ?_); (case side1 => repeat (first | exact (by repeat (first | (with_reducible exact HR239_0.out) | (with_reducible refine ca_ ?_ _) | (with_reducible refine cn_ ?_ _) | (with_reducible refine cd_ ?_) | exact HR239_0.out)) | (with_reducible refine ca_ ?_ _) | (with_reducible refine cn_ ?_ _) | (with_reducible refine cd_ ?_))); (case side2 => exact HC239_0.out); rintro e w57 ⟨v242, rfl, ho0, hb⟩; refine ⟨_, rfl, ?_⟩; have n0_ := am (Kd.S_elder' (by (with_reducible repeat (first | apply sa_ | apply sn_ | apply sd_)); exact HO_4.out) (rb_ ho0) hb); have n1_ := am (re_ (by (with_reducible repeat (first | apply ra_ | apply rn_ | apply rd_)); exact HO_5.out) (rb_ ho0) hb); have n2_ := am (re_ (by (with_reducible repeat (first | apply ra_ | apply rn_ | apply rd_)); exact HL234_0.out) (rb_ ho0) hb); have n3_ := am (re_ (by (with_reducible repeat (first | apply ra_ | apply rn_ | apply rd_)); exact HO238.out) (rb_ ho0) hb); have n4_ := am (re_ (by (with_reducible repeat (first | apply ra_ | apply rn_ | apply rd_)); exact HL239_0.out) (rb_ ho0) hb); have n5_ := am (Kd.R_lower (rw_ (rw_ (rw_ (rw_ ho0 (Kd.R_lt (by (with_reducible repeat (first | apply ra_ | apply rn_ | apply rd_)); exact HO_5.out))) (Kd.R_lt (by (with_reducible repeat (first | apply ra_ | apply rn_ | apply rd_)); exact HL234_0.out))) (Kd.R_lt (by (with_reducible repeat (first | apply ra_ | apply rn_ | apply rd_)); exact HO238.out))) (Kd.R_lt (by (with_reducible repeat (first | apply ra_ | apply rn_ | apply rd_)); exact HL239_0.out))) (below_size (by repeat (first | (with_reducible first | exact HB.out | apply ba_ | apply pn_ | apply b1_ | refine below_set ?_ GE213.out) | exact HB.out)))); have n6_ := am (blk_below (g := gb213) (o := .cells #[.slice A0_0 l0_0.length c0_0, .int .i64 a0_1, .slice A0_2 l0_2.length c0_2, .slice A0_3 l0_3.length c0_3, .int .i64 a0_4] 37 (0, 0)) (by (with_reducible repeat (first | refine blk_drewN ?_ _ | refine blk_drew ?_ | refine blk_alloc ?_ _)); exact BK213.out) hb); have n7_ := am (cb_ (by repeat (first | (with_reducible exact HR234_0.out) | (with_reducible refine ca_ ?_ _) | (with_reducible refine cn_ ?_ _) | (with_reducible refine cd_ ?_) | exact HR234_0.out)) hb); have n8_ := am (cb_ (by repeat (first | (with_reducible exact HR239_0.out) | (with_reducible refine ca_ ?_ _) | (with_reducible refine cn_ ?_ _) | (with_reducible refine cd_ ?_) | exact HR239_0.out)) hb); have n9_ := am (below_step (by repeat (first | (with_reducible first | exact HB.out | apply ba_ | apply pn_ | apply b1_ | refine below_set ?_ GE213.out) | exact HB.out)) hb); clear HO_4; clear HO_5; clear HL234_0; clear HO238; clear HL239_0; clear BK213; clear HR234_0; clear HR239_0; clear HB; have HO_4 := n0_; have HO_5 := n1_; have HL234_0 := n2_; have HO238 := n3_; have HL239_0 := n4_; have HO243 := n5_; have BK213 := n6_; have HR234_0 := n7_; have HR239_0 := n8_; have HB := n9_; clear n0_ n1_ n2_ n3_ n4_ n5_ n6_ n7_ n8_ n9_; (try clear hb); (try clear hb2); (try clear hk); (try clear hi); (try clear ho0)))
          replace HO_4 := am (sd_ HO_4.out); replace HO_5 := am (rd_ HO_5.out); replace HL234_0 := am (rd_ HL234_0.out); replace HO238 := am (rd_ HO238.out); replace HL239_0 := am (rd_ HL239_0.out); replace HO243 := am (rd_ HO243.out); replace BK213 := am (blk_drew BK213.out); replace HR234_0 := am (cd_ HR234_0.out); replace HR239_0 := am (cd_ HR239_0.out); replace HB := am (b1_ HB.out)
          have p244 : 0 ≤ (x10_2 : Int) := of_decide_eq_true (by first | (with_reducible assumption) | assumption)
          have q244 : x10_2 < (t215.length : Int) := of_decide_eq_true (by first | (with_reducible assumption) | assumption)
          obtain ⟨ad244, A244_0, c244_0, e244, hx244_0, hl244_0, hi244_0⟩ := at_L1 (sr_ HO_4.out).2.2 x10_2 p244 q244
          obtain rfl : ad234 = ad244 := (by injection e244)
          obtain ⟨ce244, hce244, hMe244, hcc244⟩ := Kd.S_get HO_4.out [] x10_2 p244 (by first | exact q244 | exact of_decide_eq_true (by first | (with_reducible assumption) | assumption) | (have e_ := (sr_ HO_4.out).1; omega))
          obtain ⟨ve244_0, rfl, ge244_0⟩ := hMe244
          have hv244_0 := hcc244 0 _ rfl
          rw [Nat.add_zero, show ((Kd.slice 3 (Kd.int .i64))).sz = 1 from rfl, Nat.mul_one] at hv244_0
          replace hv244_0 := Option.some.inj (hv244_0.symm.trans hx244_0)
          rw [hv244_0] at ge244_0
          have HL244_0 := am (show Kd.R (Kd.int .i64) 3 _ _ _ _ (rd_L1 t215 x10_2) from ge244_0); clear hv244_0 ge244_0 hcc244 hce244; have HR244_0 := am hi244_0; have HC244_0 := am hl244_0; clear hi244_0 hl244_0; replace p244 := eq_true p244; replace q244 := eq_true q244
          refine start_ (n := 13) (S := fun w' => w'.cell? ⟨gb213, 0, none⟩ = some (.slice A0_0 l0_0.length c0_0) ∧ w'.cell? ⟨gb213, 1, none⟩ = some (.int .i64 a0_1) ∧ w'.cell? ⟨gb213, 2, none⟩ = some (.slice A0_2 l0_2.length c0_2) ∧ w'.cell? ⟨gb213, 3, none⟩ = some (.slice A0_3 l0_3.length c0_3) ∧ w'.cell? ⟨gb213, 4, none⟩ = some (.int .i64 a0_4) ∧ w'.cell? (ad234.add (x10_2).toNat) = some (.slice A244_0 (rd_L1 t215 x10_2).length c244_0)) (ds := []) #[F,F,F,F,F,F,F,F,F,F,F,F,F] (by kernel_rfl) rfl rfl ⟨(blk_cell BK213.out 0).trans rfl, (blk_cell BK213.out 1).trans rfl, (blk_cell BK213.out 2).trans rfl, (blk_cell BK213.out 3).trans rfl, (blk_cell BK213.out 4).trans rfl, hx244_0⟩ (fun hHeld => ?_); refine with_tabW proofmarklaw18_PropTells.tab13 proofmarklaw18_PropTells.bits13 (fun HT_ HW_ => ?_)
          generalize w57.drew = w58 at HO_4 HO_5 HL234_0 HO238 HL239_0 HO243 BK213 HR234_0 HR239_0 HB HL244_0 HR244_0 hx244_0 hHeld ⊢
          refine pure_ (i := 0) (N := some 96) (v := ?_) (a' := ?_) #[T,F,F,F,F,F,F,F,F,F,F,F,F] rfl rfl (any_of HT_.out (by kernel_rfl)) (fun _ _ _ h => h) (.inl ⟨by rfl, ?_⟩) ?_ ?_
          rotate_left
          ·intro w'; go_simp; with_reducible rfl
          rotate_left
          ·simp only [Act.put, sb1, sb2, sb3, i64_w, i32_w]; rfl
          refine pure_ (i := 1) (N := some 97) (v := ?_) (a' := ?_) #[T,T,F,F,F,F,F,F,F,F,F,F,F] rfl rfl (any_of HT_.out (by kernel_rfl)) (fun _ _ _ h => h) (.inl ⟨by rfl, ?_⟩) ?_ ?_
          rotate_left
          ·intro w'; go_simp; with_reducible rfl
          rotate_left
          ·simp only [Act.put, sb1, sb2, sb3, i64_w, i32_w]; rfl
          refine pure_ (i := 2) (N := some 98) (v := ?_) (a' := ?_) #[T,T,T,F,F,F,F,F,F,F,F,F,F] rfl rfl (any_of HT_.out (by kernel_rfl)) (fun _ _ _ h => h) (.inl ⟨by rfl, ?_⟩) ?_ ?_
          rotate_left
          ·intro w'; go_simp; with_reducible rfl
          rotate_left
          ·simp only [Act.put, sb1, sb2, sb3, i64_w, i32_w]; rfl
          refine pure_ (i := 4) (N := some 100) (v := ?_) (a' := ?_) #[T,T,T,F,T,F,F,F,F,F,F,F,F] rfl rfl (any_of HT_.out (by kernel_rfl)) (fun _ _ _ h => h) (.inl ⟨by rfl, ?_⟩) ?_ ?_
          rotate_left
          ·intro w'; go_simp; with_reducible rfl
          rotate_left
          ·simp only [Act.put, sb1, sb2, sb3, i64_w, i32_w]; rfl
          refine pure_ (i := 5) (N := some 101) (v := ?_) (a' := ?_) #[T,T,T,F,T,T,F,F,F,F,F,F,F] rfl rfl (any_of HT_.out (by kernel_rfl)) (fun _ _ _ h => h) (.inl ⟨by rfl, ?_⟩) ?_ ?_
          rotate_left
          ·intro w'; go_simp; with_reducible rfl
          rotate_left
          ·simp only [Act.put, sb1, sb2, sb3, i64_w, i32_w]; rfl
          refine take_ (i := 3) (N := some 99) (v := ?_) (a' := ?_) #[T,T,T,T,T,T,F,F,F,F,F,F,F] rfl rfl (take_ofW HT_.out HW_.out (by kernel_rfl)) (fun _ _ _ h => h) (.inl ⟨by rfl, ?_⟩) hHeld ?_ ?_
          rotate_left
          ·rintro w' ⟨s0, s1, s2, s3, s4, s5⟩
           go_simp; with_reducible rfl
          rotate_left
          ·simp only [Act.put, sb1, sb2, sb3, i64_w, i32_w]; rfl
          refine take_ (i := 6) (N := some 102) (v := ?_) (a' := ?_) #[T,T,T,T,T,T,T,F,F,F,F,F,F] rfl rfl (take_ofW HT_.out HW_.out (by kernel_rfl)) (fun _ _ _ h => h) (.inl ⟨by rfl, ?_⟩) hHeld ?_ ?_
          rotate_left
          ·rintro w' ⟨s0, s1, s2, s3, s4, s5⟩
           go_simp; with_reducible rfl
          rotate_left
          ·simp only [Act.put, sb1, sb2, sb3, i64_w, i32_w]; rfl
          refine one_ (i := 7) (N := some 103) #[T,T,T,T,T,T,T,T,F,F,F,F,F] rfl rfl (one_of HT_.out (by kernel_rfl)) (by decide) (fun K hK => ?_)
          refine goes_ Try.func36 (by kernel_rfl) rfl #[.slice A244_0 (rd_L1 t215 x10_2).length c244_0, .slice Ao16 t218.length co16, .int .i64 a0_4] (by rfl) rfl rfl (by (try simp only [ma_, mc_, mn_]); first | done | rfl | (simp only [ld_, lt_]; rfl)) ?_
          with_reducible refine (prop_Resolve.calls _ _ (rd_L1 t215 x10_2) _ _ t218 a0_4 t245 t246 _ ?side1 ?side2 ?side3 ?side4 A46.out).mono ?_
          (case side1 => repeat (first | exact (by repeat (first | (with_reducible exact HR244_0.out) | (with_reducible refine ca_ ?_ _) | (with_reducible refine cn_ ?_ _) | (with_reducible refine cd_ ?_) | exact HR244_0.out)) | (with_reducible refine ca_ ?_ _) | (with_reducible refine cn_ ?_ _) | (with_reducible refine cd_ ?_)))
          (case side2 => exact HC244_0.out)
          (case side3 => repeat (first | exact (Kd.R_reads' HO_5.out).2.2 | (with_reducible refine ca_ ?_ _) | (with_reducible refine cn_ ?_ _) | (with_reducible refine cd_ ?_)))
          (case side4 => exact (Kd.R_reads' HO_5.out).2.1)
          rintro e w59 ⟨v247, rfl, ho0, hb⟩
          have HS5_ := (hb.cell (World.block_lt_of_cell? _ _ (hHeld.2.2.2.2.2))).trans (hHeld.2.2.2.2.2)
          refine ⟨_, rfl, ?_⟩
          have n0_ := am (Kd.S_elder' (by (with_reducible repeat (first | apply sa_ | apply sn_ | apply sd_)); exact HO_4.out) (rb_ ho0) hb)
          have n1_ := am (re_ (by (with_reducible repeat (first | apply ra_ | apply rn_ | apply rd_)); exact HO_5.out) (rb_ ho0) hb)
          have n2_ := am (re_ (by (with_reducible repeat (first | apply ra_ | apply rn_ | apply rd_)); exact HL234_0.out) (rb_ ho0) hb)
          have n3_ := am (re_ (by (with_reducible repeat (first | apply ra_ | apply rn_ | apply rd_)); exact HO238.out) (rb_ ho0) hb)
          have n4_ := am (re_ (by (with_reducible repeat (first | apply ra_ | apply rn_ | apply rd_)); exact HL239_0.out) (rb_ ho0) hb)
          have n5_ := am (re_ (by (with_reducible repeat (first | apply ra_ | apply rn_ | apply rd_)); exact HO243.out) (rb_ ho0) hb)
          have n6_ := am (re_ (by (with_reducible repeat (first | apply ra_ | apply rn_ | apply rd_)); exact HL244_0.out) (rb_ ho0) hb)
          have n7_ := am (Kd.R_lower (rw_ (rw_ (rw_ (rw_ (rw_ (rw_ ho0 (Kd.R_lt (by (with_reducible repeat (first | apply ra_ | apply rn_ | apply rd_)); exact HO_5.out))) (Kd.R_lt (by (with_reducible repeat (first | apply ra_ | apply rn_ | apply rd_)); exact HL234_0.out))) (Kd.R_lt (by (with_reducible repeat (first | apply ra_ | apply rn_ | apply rd_)); exact HO238.out))) (Kd.R_lt (by (with_reducible repeat (first | apply ra_ | apply rn_ | apply rd_)); exact HL239_0.out))) (Kd.R_lt (by (with_reducible repeat (first | apply ra_ | apply rn_ | apply rd_)); exact HO243.out))) (Kd.R_lt (by (with_reducible repeat (first | apply ra_ | apply rn_ | apply rd_)); exact HL244_0.out))) (below_size (by repeat (first | (with_reducible first | exact HB.out | apply ba_ | apply pn_ | apply b1_ | refine below_set ?_ GE213.out) | exact HB.out))))
          have n8_ := am (blk_below (g := gb213) (o := .cells #[.slice A0_0 l0_0.length c0_0, .int .i64 a0_1, .slice A0_2 l0_2.length c0_2, .slice A0_3 l0_3.length c0_3, .int .i64 a0_4] 37 (0, 0)) (by (with_reducible repeat (first | refine blk_drewN ?_ _ | refine blk_drew ?_ | refine blk_alloc ?_ _)); exact BK213.out) hb)
          have n9_ := am (cb_ (by repeat (first | (with_reducible exact HR234_0.out) | (with_reducible refine ca_ ?_ _) | (with_reducible refine cn_ ?_ _) | (with_reducible refine cd_ ?_) | exact HR234_0.out)) hb); have n10_ := am (cb_ (by repeat (first | (with_reducible exact HR239_0.out) | (with_reducible refine ca_ ?_ _) | (with_reducible refine cn_ ?_ _) | (with_reducible refine cd_ ?_) | exact HR239_0.out)) hb); have n11_ := am (cb_ (by repeat (first | (with_reducible exact HR244_0.out) | (with_reducible refine ca_ ?_ _) | (with_reducible refine cn_ ?_ _) | (with_reducible refine cd_ ?_) | exact HR244_0.out)) hb); have n12_ := am (below_step (by repeat (first | (with_reducible first | exact HB.out | apply ba_ | apply pn_ | apply b1_ | refine below_set ?_ GE213.out) | exact HB.out)) hb); clear HO_4 HO_5 HL234_0 HO238 HL239_0 HO243 HL244_0 BK213 HR234_0 HR239_0 HR244_0 HB; have HO_4 := n0_; have HO_5 := n1_; have HL234_0 := n2_; have HO238 := n3_; have HL239_0 := n4_; have HO243 := n5_; have HL244_0 := n6_; have HO248 := n7_; have BK213 := n8_; have HR234_0 := n9_; have HR239_0 := n10_; have HR244_0 := n11_; have HB := n12_; clear n0_ n1_ n2_ n3_ n4_ n5_ n6_ n7_ n8_ n9_ n10_ n11_ n12_
          (try clear hb)
          (try clear hb2)
          (try clear hk)
          (try clear hi)
          (try clear ho0)
          refine hK.out _ _ ⟨(blk_cell BK213.out 0).trans rfl, (blk_cell BK213.out 1).trans rfl, (blk_cell BK213.out 2).trans rfl, (blk_cell BK213.out 3).trans rfl, (blk_cell BK213.out 4).trans rfl, HS5_⟩ (fun hHeld => ?_)
          clear hK K
          refine norm_ (a' := ?_) ?_ ?_
          rotate_left
          ·show Act.put _ (some 103) _ = _
           simp only [Act.put, sb1, sb2, sb3, i64_w, i32_w]; rfl
          refine pure_ (i := 8) (N := some 95) (v := ?_) (a' := ?_) #[T,T,T,T,T,T,T,T,T,F,F,F,F] rfl rfl (any_of HT_.out (by kernel_rfl)) (fun _ _ _ h => h) (.inl ⟨by rfl, ?_⟩) ?_ ?_
          rotate_left
          ·intro w'; go_simp; with_reducible rfl
          rotate_left
          ·simp only [Act.put, sb1, sb2, sb3, i64_w, i32_w]; rfl
          refine pure_ (i := 9) (N := some 104) (v := ?_) (a' := ?_) #[T,T,T,T,T,T,T,T,T,T,F,F,F] rfl rfl (any_of HT_.out (by kernel_rfl)) (fun _ _ _ h => h) (.inl ⟨by rfl, ?_⟩) ?_ ?_
          rotate_left
          ·intro w'; go_simp; with_reducible rfl
          rotate_left
          ·simp only [Act.put, sb1, sb2, sb3, i64_w, i32_w]; rfl
          refine pure_ (i := 10) (N := some 105) (v := ?_) (a' := ?_) #[T,T,T,T,T,T,T,T,T,T,T,F,F] rfl rfl (any_of HT_.out (by kernel_rfl)) (fun _ _ _ h => h) (.inl ⟨by rfl, ?_⟩) ?_ ?_
          rotate_left
          ·intro w'; go_simp; with_reducible rfl
          rotate_left
          ·simp only [Act.put, sb1, sb2, sb3, i64_w, i32_w]; rfl
          refine pure_ (i := 11) (N := some 15) (v := ?_) (a' := ?_) #[T,T,T,T,T,T,T,T,T,T,T,T,F] rfl rfl (any_of HT_.out (by kernel_rfl)) (fun _ _ _ h => h) (.inl ⟨by rfl, ?_⟩) ?_ ?_
          rotate_left
          ·intro w'; go_simp; with_reducible rfl
          rotate_left
          ·simp only [Act.put, sb1, sb2, sb3, i64_w, i32_w]; rfl
          refine pure_ (i := 12) (N := some 16) (v := ?_) (a' := ?_) #[T,T,T,T,T,T,T,T,T,T,T,T,T] rfl rfl (any_of HT_.out (by kernel_rfl)) (fun _ _ _ h => h) (.inl ⟨by rfl, ?_⟩) ?_ ?_
          rotate_left
          ·intro w'; go_simp; with_reducible rfl
          rotate_left
          ·simp only [Act.put, sb1, sb2, sb3, i64_w, i32_w]; rfl
          refine done_ (done_of HT_.out (by kernel_rfl)) ?_
          try go_wp2; replace HO_4 := am (sd_ HO_4.out); replace HO_5 := am (rd_ HO_5.out); replace HL234_0 := am (rd_ HL234_0.out); replace HO238 := am (rd_ HO238.out); replace HL239_0 := am (rd_ HL239_0.out); replace HO243 := am (rd_ HO243.out); replace HL244_0 := am (rd_ HL244_0.out); replace HO248 := am (rd_ HO248.out); replace BK213 := am (blk_drew BK213.out); replace HR234_0 := am (cd_ HR234_0.out); replace HR239_0 := am (cd_ HR239_0.out); replace HR244_0 := am (cd_ HR244_0.out); replace HB := am (b1_ HB.out)
          have p249 : 0 ≤ (x10_2 : Int) := of_decide_eq_true (by first | (with_reducible assumption) | assumption)
          have q249 : x10_2 < (t215.length : Int) := of_decide_eq_true (by first | (with_reducible assumption) | assumption)
          obtain ⟨ad249, A249_0, c249_0, e249, hx249_0, hl249_0, hi249_0⟩ := at_L1 (sr_ HO_4.out).2.2 x10_2 p249 q249
          obtain rfl : ad234 = ad249 := (by injection e249)
          obtain ⟨ce249, hce249, hMe249, hcc249⟩ := Kd.S_get HO_4.out [] x10_2 p249 (by first | exact q249 | exact of_decide_eq_true (by first | (with_reducible assumption) | assumption) | (have e_ := (sr_ HO_4.out).1; omega))
          obtain ⟨ve249_0, rfl, ge249_0⟩ := hMe249
          have hv249_0 := hcc249 0 _ rfl
          rw [Nat.add_zero, show ((Kd.slice 3 (Kd.int .i64))).sz = 1 from rfl, Nat.mul_one] at hv249_0
          replace hv249_0 := Option.some.inj (hv249_0.symm.trans hx249_0)
          rw [hv249_0] at ge249_0
          have HL249_0 := am (show Kd.R (Kd.int .i64) 3 _ _ _ _ (rd_L1 t215 x10_2) from ge249_0); clear hv249_0 ge249_0 hcc249 hce249; have HR249_0 := am hi249_0; have HC249_0 := am hl249_0; clear hi249_0 hl249_0; replace p249 := eq_true p249; replace q249 := eq_true q249
          refine start_ (n := 13) (S := fun w' => w'.cell? ⟨gb213, 0, none⟩ = some (.slice A0_0 l0_0.length c0_0) ∧ w'.cell? ⟨gb213, 1, none⟩ = some (.int .i64 a0_1) ∧ w'.cell? ⟨gb213, 2, none⟩ = some (.slice A0_2 l0_2.length c0_2) ∧ w'.cell? ⟨gb213, 3, none⟩ = some (.slice A0_3 l0_3.length c0_3) ∧ w'.cell? ⟨gb213, 4, none⟩ = some (.int .i64 a0_4) ∧ w'.cell? (ad234.add (x10_2).toNat) = some (.slice A249_0 (rd_L1 t215 x10_2).length c249_0)) (ds := []) #[F,F,F,F,F,F,F,F,F,F,F,F,F] (by kernel_rfl) rfl rfl ⟨(blk_cell BK213.out 0).trans rfl, (blk_cell BK213.out 1).trans rfl, (blk_cell BK213.out 2).trans rfl, (blk_cell BK213.out 3).trans rfl, (blk_cell BK213.out 4).trans rfl, hx249_0⟩ (fun hHeld => ?_); refine with_tabW proofmarklaw18_PropTells.tab14 proofmarklaw18_PropTells.bits14 (fun HT_ HW_ => ?_)
          generalize w59.drew = w60 at HO_4 HO_5 HL234_0 HO238 HL239_0 HO243 HL244_0 HO248 BK213 HR234_0 HR239_0 HR244_0 HB HL249_0 HR249_0 hx249_0 hHeld ⊢
          refine pure_ (i := 0) (N := some 107) (v := ?_) (a' := ?_) #[T,F,F,F,F,F,F,F,F,F,F,F,F] rfl rfl (any_of HT_.out (by kernel_rfl)) (fun _ _ _ h => h) (.inl ⟨by rfl, ?_⟩) ?_ ?_
          rotate_left
          ·intro w'; go_simp; with_reducible rfl
          rotate_left
          ·simp only [Act.put, sb1, sb2, sb3, i64_w, i32_w]; rfl
          refine pure_ (i := 1) (N := some 108) (v := ?_) (a' := ?_) #[T,T,F,F,F,F,F,F,F,F,F,F,F] rfl rfl (any_of HT_.out (by kernel_rfl)) (fun _ _ _ h => h) (.inl ⟨by rfl, ?_⟩) ?_ ?_
          rotate_left
          ·intro w'; go_simp; with_reducible rfl
          rotate_left
          ·simp only [Act.put, sb1, sb2, sb3, i64_w, i32_w]; rfl
          refine pure_ (i := 2) (N := some 109) (v := ?_) (a' := ?_) #[T,T,T,F,F,F,F,F,F,F,F,F,F] rfl rfl (any_of HT_.out (by kernel_rfl)) (fun _ _ _ h => h) (.inl ⟨by rfl, ?_⟩) ?_ ?_
          rotate_left
          ·intro w'; go_simp; with_reducible rfl
          rotate_left
          ·simp only [Act.put, sb1, sb2, sb3, i64_w, i32_w]; rfl
          refine pure_ (i := 4) (N := some 111) (v := ?_) (a' := ?_) #[T,T,T,F,T,F,F,F,F,F,F,F,F] rfl rfl (any_of HT_.out (by kernel_rfl)) (fun _ _ _ h => h) (.inl ⟨by rfl, ?_⟩) ?_ ?_
          rotate_left
          ·intro w'; go_simp; with_reducible rfl
          rotate_left
          ·simp only [Act.put, sb1, sb2, sb3, i64_w, i32_w]; rfl
          refine pure_ (i := 5) (N := some 112) (v := ?_) (a' := ?_) #[T,T,T,F,T,T,F,F,F,F,F,F,F] rfl rfl (any_of HT_.out (by kernel_rfl)) (fun _ _ _ h => h) (.inl ⟨by rfl, ?_⟩) ?_ ?_
          rotate_left
          ·intro w'; go_simp; with_reducible rfl
          rotate_left
          ·simp only [Act.put, sb1, sb2, sb3, i64_w, i32_w]; rfl
          refine take_ (i := 3) (N := some 110) (v := ?_) (a' := ?_) #[T,T,T,T,T,T,F,F,F,F,F,F,F] rfl rfl (take_ofW HT_.out HW_.out (by kernel_rfl)) (fun _ _ _ h => h) (.inl ⟨by rfl, ?_⟩) hHeld ?_ ?_
          rotate_left
          ·rintro w' ⟨s0, s1, s2, s3, s4, s5⟩
           go_simp; with_reducible rfl
          rotate_left
          ·simp only [Act.put, sb1, sb2, sb3, i64_w, i32_w]; rfl
          refine take_ (i := 6) (N := some 113) (v := ?_) (a' := ?_) #[T,T,T,T,T,T,T,F,F,F,F,F,F] rfl rfl (take_ofW HT_.out HW_.out (by kernel_rfl)) (fun _ _ _ h => h) (.inl ⟨by rfl, ?_⟩) hHeld ?_ ?_
          rotate_left
          ·rintro w' ⟨s0, s1, s2, s3, s4, s5⟩
           go_simp; with_reducible rfl
          rotate_left
          ·simp only [Act.put, sb1, sb2, sb3, i64_w, i32_w]; rfl
          refine one_ (i := 7) (N := some 114) #[T,T,T,T,T,T,T,T,F,F,F,F,F] rfl rfl (one_of HT_.out (by kernel_rfl)) (by decide) (fun K hK => ?_)
          refine goes_ Try.func37 (by kernel_rfl) rfl #[.slice A249_0 (rd_L1 t215 x10_2).length c249_0, .slice Ao16 t218.length co16, .int .i64 a0_4] (by rfl) rfl rfl (by (try simp only [ma_, mc_, mn_]); first | done | rfl | (simp only [ld_, lt_]; rfl)) ?_
          with_reducible refine (proofmarkref18_Resolve.calls k2 _ _ (rd_L1 t215 x10_2) _ _ t218 a0_4 t250 t251 _ ?side1 ?side2 ?side3 ?side4 A47.out).mono ?_
          (case side1 => repeat (first | exact (by repeat (first | (with_reducible exact HR249_0.out) | (with_reducible refine ca_ ?_ _) | (with_reducible refine cn_ ?_ _) | (with_reducible refine cd_ ?_) | exact HR249_0.out)) | (with_reducible refine ca_ ?_ _) | (with_reducible refine cn_ ?_ _) | (with_reducible refine cd_ ?_)))
          (case side2 => exact HC249_0.out)
          (case side3 => repeat (first | exact (Kd.R_reads' HO_5.out).2.2 | (with_reducible refine ca_ ?_ _) | (with_reducible refine cn_ ?_ _) | (with_reducible refine cd_ ?_)))
          (case side4 => exact (Kd.R_reads' HO_5.out).2.1)
          rintro e w61 ⟨v252, rfl, ho0, hb⟩
          have HS5_ := (hb.cell (World.block_lt_of_cell? _ _ (hHeld.2.2.2.2.2))).trans (hHeld.2.2.2.2.2)
          refine ⟨_, rfl, ?_⟩
          have n0_ := am (Kd.S_elder' (by (with_reducible repeat (first | apply sa_ | apply sn_ | apply sd_)); exact HO_4.out) (rb_ ho0) hb)
          have n1_ := am (re_ (by (with_reducible repeat (first | apply ra_ | apply rn_ | apply rd_)); exact HO_5.out) (rb_ ho0) hb)
          have n2_ := am (re_ (by (with_reducible repeat (first | apply ra_ | apply rn_ | apply rd_)); exact HL234_0.out) (rb_ ho0) hb)
          have n3_ := am (re_ (by (with_reducible repeat (first | apply ra_ | apply rn_ | apply rd_)); exact HO238.out) (rb_ ho0) hb)
          have n4_ := am (re_ (by (with_reducible repeat (first | apply ra_ | apply rn_ | apply rd_)); exact HL239_0.out) (rb_ ho0) hb)
          have n5_ := am (re_ (by (with_reducible repeat (first | apply ra_ | apply rn_ | apply rd_)); exact HO243.out) (rb_ ho0) hb)
          have n6_ := am (re_ (by (with_reducible repeat (first | apply ra_ | apply rn_ | apply rd_)); exact HL244_0.out) (rb_ ho0) hb)
          have n7_ := am (re_ (by (with_reducible repeat (first | apply ra_ | apply rn_ | apply rd_)); exact HO248.out) (rb_ ho0) hb)
          have n8_ := am (re_ (by (with_reducible repeat (first | apply ra_ | apply rn_ | apply rd_)); exact HL249_0.out) (rb_ ho0) hb)
          have n9_ := am (Kd.R_lower (rw_ (rw_ (rw_ (rw_ (rw_ (rw_ (rw_ (rw_ ho0 (Kd.R_lt (by (with_reducible repeat (first | apply ra_ | apply rn_ | apply rd_)); exact HO_5.out))) (Kd.R_lt (by (with_reducible repeat (first | apply ra_ | apply rn_ | apply rd_)); exact HL234_0.out))) (Kd.R_lt (by (with_reducible repeat (first | apply ra_ | apply rn_ | apply rd_)); exact HO238.out))) (Kd.R_lt (by (with_reducible repeat (first | apply ra_ | apply rn_ | apply rd_)); exact HL239_0.out))) (Kd.R_lt (by (with_reducible repeat (first | apply ra_ | apply rn_ | apply rd_)); exact HO243.out))) (Kd.R_lt (by (with_reducible repeat (first | apply ra_ | apply rn_ | apply rd_)); exact HL244_0.out))) (Kd.R_lt (by (with_reducible repeat (first | apply ra_ | apply rn_ | apply rd_)); exact HO248.out))) (Kd.R_lt (by (with_reducible repeat (first | apply ra_ | apply rn_ | apply rd_)); exact HL249_0.out))) (below_size (by repeat (first | (with_reducible first | exact HB.out | apply ba_ | apply pn_ | apply b1_ | refine below_set ?_ GE213.out) | exact HB.out))))
          have n10_ := am (blk_below (g := gb213) (o := .cells #[.slice A0_0 l0_0.length c0_0, .int .i64 a0_1, .slice A0_2 l0_2.length c0_2, .slice A0_3 l0_3.length c0_3, .int .i64 a0_4] 37 (0, 0)) (by (with_reducible repeat (first | refine blk_drewN ?_ _ | refine blk_drew ?_ | refine blk_alloc ?_ _)); exact BK213.out) hb)
          have n11_ := am (cb_ (by repeat (first | (with_reducible exact HR234_0.out) | (with_reducible refine ca_ ?_ _) | (with_reducible refine cn_ ?_ _) | (with_reducible refine cd_ ?_) | exact HR234_0.out)) hb); have n12_ := am (cb_ (by repeat (first | (with_reducible exact HR239_0.out) | (with_reducible refine ca_ ?_ _) | (with_reducible refine cn_ ?_ _) | (with_reducible refine cd_ ?_) | exact HR239_0.out)) hb); have n13_ := am (cb_ (by repeat (first | (with_reducible exact HR244_0.out) | (with_reducible refine ca_ ?_ _) | (with_reducible refine cn_ ?_ _) | (with_reducible refine cd_ ?_) | exact HR244_0.out)) hb); have n14_ := am (cb_ (by repeat (first | (with_reducible exact HR249_0.out) | (with_reducible refine ca_ ?_ _) | (with_reducible refine cn_ ?_ _) | (with_reducible refine cd_ ?_) | exact HR249_0.out)) hb); have n15_ := am (below_step (by repeat (first | (with_reducible first | exact HB.out | apply ba_ | apply pn_ | apply b1_ | refine below_set ?_ GE213.out) | exact HB.out)) hb); clear HO_4 HO_5 HL234_0 HO238 HL239_0 HO243 HL244_0 HO248 HL249_0 BK213 HR234_0 HR239_0 HR244_0 HR249_0 HB; have HO_4 := n0_; have HO_5 := n1_; have HL234_0 := n2_; have HO238 := n3_; have HL239_0 := n4_; have HO243 := n5_; have HL244_0 := n6_; have HO248 := n7_; have HL249_0 := n8_; have HO253 := n9_; have BK213 := n10_; have HR234_0 := n11_; have HR239_0 := n12_; have HR244_0 := n13_; have HR249_0 := n14_; have HB := n15_; clear n0_ n1_ n2_ n3_ n4_ n5_ n6_ n7_ n8_ n9_ n10_ n11_ n12_ n13_ n14_ n15_
          (try clear hb)
          (try clear hb2)
          (try clear hk)
          (try clear hi)
          (try clear ho0)
          refine hK.out _ _ ⟨(blk_cell BK213.out 0).trans rfl, (blk_cell BK213.out 1).trans rfl, (blk_cell BK213.out 2).trans rfl, (blk_cell BK213.out 3).trans rfl, (blk_cell BK213.out 4).trans rfl, HS5_⟩ (fun hHeld => ?_)
          clear hK K
          refine norm_ (a' := ?_) ?_ ?_
          rotate_left
          ·show Act.put _ (some 114) _ = _
           simp only [Act.put, sb1, sb2, sb3, i64_w, i32_w]; rfl
          refine pure_ (i := 8) (N := some 106) (v := ?_) (a' := ?_) #[T,T,T,T,T,T,T,T,T,F,F,F,F] rfl rfl (any_of HT_.out (by kernel_rfl)) (fun _ _ _ h => h) (.inl ⟨by rfl, ?_⟩) ?_ ?_
          rotate_left
          ·intro w'; go_simp; with_reducible rfl
          rotate_left
          ·simp only [Act.put, sb1, sb2, sb3, i64_w, i32_w]; rfl
          refine pure_ (i := 9) (N := some 115) (v := ?_) (a' := ?_) #[T,T,T,T,T,T,T,T,T,T,F,F,F] rfl rfl (any_of HT_.out (by kernel_rfl)) (fun _ _ _ h => h) (.inl ⟨by rfl, ?_⟩) ?_ ?_
          rotate_left
          ·intro w'; go_simp; with_reducible rfl
          rotate_left
          ·simp only [Act.put, sb1, sb2, sb3, i64_w, i32_w]; rfl
          refine pure_ (i := 10) (N := some 116) (v := ?_) (a' := ?_) #[T,T,T,T,T,T,T,T,T,T,T,F,F] rfl rfl (any_of HT_.out (by kernel_rfl)) (fun _ _ _ h => h) (.inl ⟨by rfl, ?_⟩) ?_ ?_
          rotate_left
          ·intro w'; go_simp; with_reducible rfl
          rotate_left
          ·simp only [Act.put, sb1, sb2, sb3, i64_w, i32_w]; rfl
          refine pure_ (i := 11) (N := some 17) (v := ?_) (a' := ?_) #[T,T,T,T,T,T,T,T,T,T,T,T,F] rfl rfl (any_of HT_.out (by kernel_rfl)) (fun _ _ _ h => h) (.inl ⟨by rfl, ?_⟩) ?_ ?_
          rotate_left
          ·intro w'; go_simp; with_reducible rfl
          rotate_left
          ·simp only [Act.put, sb1, sb2, sb3, i64_w, i32_w]; rfl
          refine pure_ (i := 12) (N := some 18) (v := ?_) (a' := ?_) #[T,T,T,T,T,T,T,T,T,T,T,T,T] rfl rfl (any_of HT_.out (by kernel_rfl)) (fun _ _ _ h => h) (.inl ⟨by rfl, ?_⟩) ?_ ?_
          rotate_left
          ·intro w'; go_simp; with_reducible rfl
          rotate_left
          ·simp only [Act.put, sb1, sb2, sb3, i64_w, i32_w]; rfl
          refine done_ (done_of HT_.out (by kernel_rfl)) ?_
          try go_wp2
          go_ret
          exact ⟨by first | rfl | (simp [errW_none, errW_some] <;> rfl) | (simp [*, errW_none, errW_some] <;> rfl), by repeat (first | (with_reducible first | exact HB.out | apply ba_ | apply pn_ | apply b1_ | refine below_set ?_ GE213.out) | exact HB.out)⟩
         ·rw [if_neg c55] at H
          have c55b0 : (t246 != t251) = false := by simpa using c55
          (try (have c55b1 : decide (t246 = t251) = true := by simpa using c55))
          (try (have c55b2 : (t246 == t251) = true := by simpa using c55))
          clear c55; replace H := Option.bind_eq_some_iff.mp H
          obtain ⟨t254, A620, H⟩ := H
          replace H : (if t254 = true then ((proofmarkref18_Same.f k2 t245 t250).bind fun t255 => (if t255 = true then (proofmarklaw18_PropTells.l0 k2 t214 t215 t218 (wrap64 (x10_2 + 1)) l0_0 a0_1 l0_2 l0_3 a0_4) else (some false))) else (some false)) = some r := H
          have A62 := am A620; clear A620
          by_cases c63 : t254 = true
          ·subst c63
           have H1 : ((proofmarkref18_Same.f k2 t245 t250).bind fun t255 => (if t255 = true then (proofmarklaw18_PropTells.l0 k2 t214 t215 t218 (wrap64 (x10_2 + 1)) l0_0 a0_1 l0_2 l0_3 a0_4) else (some false))) = some r := by rw [if_pos rfl] at H; exact H
           clear H; have H := H1; clear H1; replace H := Option.bind_eq_some_iff.mp H
           obtain ⟨t255, A640, H⟩ := H
           replace H : (if t255 = true then (proofmarklaw18_PropTells.l0 k2 t214 t215 t218 (wrap64 (x10_2 + 1)) l0_0 a0_1 l0_2 l0_3 a0_4) else (some false)) = some r := H
           have A64 := am A640; clear A640
           by_cases c65 : t255 = true
           ·subst c65
            have H1 : (proofmarklaw18_PropTells.l0 k2 t214 t215 t218 (wrap64 (x10_2 + 1)) l0_0 a0_1 l0_2 l0_3 a0_4) = some r := by rw [if_pos rfl] at H; exact H
            clear H; have H := H1; clear H1; have H' := am H; clear H
            have p234 : 0 ≤ (x10_2 : Int) := of_decide_eq_true (by first | (with_reducible assumption) | assumption)
            have q234 : x10_2 < (t215.length : Int) := of_decide_eq_true (by first | (with_reducible assumption) | assumption)
            obtain ⟨ad234, A234_0, c234_0, e234, hx234_0, hl234_0, hi234_0⟩ := at_L1 (sr_ HO_4.out).2.2 x10_2 p234 q234
            cases e234
            obtain ⟨ce234, hce234, hMe234, hcc234⟩ := Kd.S_get HO_4.out [] x10_2 p234 (by first | exact q234 | exact of_decide_eq_true (by first | (with_reducible assumption) | assumption) | (have e_ := (sr_ HO_4.out).1; omega))
            obtain ⟨ve234_0, rfl, ge234_0⟩ := hMe234
            have hv234_0 := hcc234 0 _ rfl
            rw [Nat.add_zero, show ((Kd.slice 3 (Kd.int .i64))).sz = 1 from rfl, Nat.mul_one] at hv234_0
            replace hv234_0 := Option.some.inj (hv234_0.symm.trans hx234_0)
            rw [hv234_0] at ge234_0
            have HL234_0 := am (show Kd.R (Kd.int .i64) 3 _ _ _ _ (rd_L1 t215 x10_2) from ge234_0); clear hv234_0 ge234_0 hcc234 hce234; have HR234_0 := am hi234_0; have HC234_0 := am hl234_0; clear hi234_0 hl234_0; replace p234 := eq_true p234; replace q234 := eq_true q234
            try go_wp2_with (first | ((with_reducible refine gate_callee (f := 34) rfl ?_); refine goesL_ (some 84) rfl rfl Try.func34 (by kernel_rfl) rfl #[.slice A234_0 (rd_L1 t215 x10_2).length c234_0] rfl (by (try simp only [ma_, mc_, mn_]); first | done | rfl | (simp only [ld_, lt_]; rfl)) ?_; (with_reducible refine (prop_Norm.calls _ _ (rd_L1 t215 x10_2) t235 t236 _ ?side1 ?side2 A44.out).mono ?_); (case side1 => repeat (first | exact (by repeat (first | (with_reducible exact HR234_0.out) | (with_reducible refine ca_ ?_ _) | (with_reducible refine cn_ ?_ _) | (with_reducible refine cd_ ?_) | exact HR234_0.out)) | (with_reducible refine ca_ ?_ _) | (with_reducible refine cn_ ?_ _) | (with_reducible refine cd_ ?_))); (case side2 => exact HC234_0.out); rintro e w66 ⟨v237, rfl, ho0, hb⟩; refine ⟨_, rfl, ?_⟩; have n0_ := am (Kd.S_elder' (by (with_reducible repeat (first | apply sa_ | apply sn_ | apply sd_)); exact HO_4.out) (rb_ ho0) hb); have n1_ := am (re_ (by (with_reducible repeat (first | apply ra_ | apply rn_ | apply rd_)); exact HO_5.out) (rb_ ho0) hb); have n2_ := am (re_ (by (with_reducible repeat (first | apply ra_ | apply rn_ | apply rd_)); exact HL234_0.out) (rb_ ho0) hb); have n3_ := am (Kd.R_lower (rw_ (rw_ ho0 (Kd.R_lt (by (with_reducible repeat (first | apply ra_ | apply rn_ | apply rd_)); exact HO_5.out))) (Kd.R_lt (by (with_reducible repeat (first | apply ra_ | apply rn_ | apply rd_)); exact HL234_0.out))) (below_size (by repeat (first | (with_reducible first | exact HB.out | apply ba_ | apply pn_ | apply b1_ | refine below_set ?_ GE213.out) | exact HB.out)))); have n4_ := am (blk_below (g := gb213) (o := .cells #[.slice A0_0 l0_0.length c0_0, .int .i64 a0_1, .slice A0_2 l0_2.length c0_2, .slice A0_3 l0_3.length c0_3, .int .i64 a0_4] 37 (0, 0)) (by (with_reducible repeat (first | refine blk_drewN ?_ _ | refine blk_drew ?_ | refine blk_alloc ?_ _)); exact BK213.out) hb); have n5_ := am (cb_ (by repeat (first | (with_reducible exact HR234_0.out) | (with_reducible refine ca_ ?_ _) | (with_reducible refine cn_ ?_ _) | (with_reducible refine cd_ ?_) | exact HR234_0.out)) hb); have n6_ := am (below_step (by repeat (first | (with_reducible first | exact HB.out | apply ba_ | apply pn_ | apply b1_ | refine below_set ?_ GE213.out) | exact HB.out)) hb); clear HO_4; clear HO_5; clear HL234_0; clear BK213; clear HR234_0; clear HB; have HO_4 := n0_; have HO_5 := n1_; have HL234_0 := n2_; have HO238 := n3_; have BK213 := n4_; have HR234_0 := n5_; have HB := n6_; clear n0_ n1_ n2_ n3_ n4_ n5_ n6_; (try clear hb); (try clear hb2); (try clear hk); (try clear hi); (try clear ho0); have p239 : 0 ≤ (x10_2 : Int) := of_decide_eq_true (by first | (with_reducible assumption) | assumption); have q239 : x10_2 < (t215.length : Int) := of_decide_eq_true (by first | (with_reducible assumption) | assumption); obtain ⟨ad239, A239_0, c239_0, e239, hx239_0, hl239_0, hi239_0⟩ := at_L1 (sr_ HO_4.out).2.2 x10_2 p239 q239; obtain rfl : ad234 = ad239 := (by injection e239); obtain ⟨ce239, hce239, hMe239, hcc239⟩ := Kd.S_get HO_4.out [] x10_2 p239 (by first | exact q239 | exact of_decide_eq_true (by first | (with_reducible assumption) | assumption) | (have e_ := (sr_ HO_4.out).1; omega)); obtain ⟨ve239_0, rfl, ge239_0⟩ := hMe239; have hv239_0 := hcc239 0 _ rfl; rw [Nat.add_zero, show ((Kd.slice 3 (Kd.int .i64))).sz = 1 from rfl, Nat.mul_one] at hv239_0; replace hv239_0 := Option.some.inj (hv239_0.symm.trans hx239_0); rw [hv239_0] at ge239_0; have HL239_0 := am (show Kd.R (Kd.int .i64) 3 _ _ _ _ (rd_L1 t215 x10_2) from ge239_0); clear hv239_0 ge239_0; clear hcc239 hce239; have HR239_0 := am hi239_0; have HC239_0 := am hl239_0; clear hi239_0 hl239_0; replace p239 := eq_true p239; replace q239 := eq_true q239) | ((with_reducible refine gate_callee (f := 35) rfl ?_); refine goesL_ (some 92) rfl rfl Try.func35 (by kernel_rfl) rfl #[.slice A239_0 (rd_L1 t215 x10_2).length c239_0] rfl (by (try simp only [ma_, mc_, mn_]); first | done | rfl | (simp only [ld_, lt_]; rfl)) ?_; (with_reducible refine (proofmarkref18_Norm.calls k2 _ _ (rd_L1 t215 x10_2) t240 t241 _ ?side1 ?side2 A45.out).mono ?_); (case side1 => repeat (first | exact (by repeat (first | (with_reducible exact HR239_0.out) | (with_reducible refine ca_ ?_ _) | (with_reducible refine cn_ ?_ _) | (with_reducible refine cd_ ?_) | exact HR239_0.out)) | (with_reducible refine ca_ ?_ _) | (with_reducible refine cn_ ?_ _) | (with_reducible refine cd_ ?_))); (case side2 => exact HC239_0.out); rintro e w67 ⟨v242, rfl, ho0, hb⟩; refine ⟨_, rfl, ?_⟩; have n0_ := am (Kd.S_elder' (by (with_reducible repeat (first | apply sa_ | apply sn_ | apply sd_)); exact HO_4.out) (rb_ ho0) hb); have n1_ := am (re_ (by (with_reducible repeat (first | apply ra_ | apply rn_ | apply rd_)); exact HO_5.out) (rb_ ho0) hb); have n2_ := am (re_ (by (with_reducible repeat (first | apply ra_ | apply rn_ | apply rd_)); exact HL234_0.out) (rb_ ho0) hb); have n3_ := am (re_ (by (with_reducible repeat (first | apply ra_ | apply rn_ | apply rd_)); exact HO238.out) (rb_ ho0) hb); have n4_ := am (re_ (by (with_reducible repeat (first | apply ra_ | apply rn_ | apply rd_)); exact HL239_0.out) (rb_ ho0) hb); have n5_ := am (Kd.R_lower (rw_ (rw_ (rw_ (rw_ ho0 (Kd.R_lt (by (with_reducible repeat (first | apply ra_ | apply rn_ | apply rd_)); exact HO_5.out))) (Kd.R_lt (by (with_reducible repeat (first | apply ra_ | apply rn_ | apply rd_)); exact HL234_0.out))) (Kd.R_lt (by (with_reducible repeat (first | apply ra_ | apply rn_ | apply rd_)); exact HO238.out))) (Kd.R_lt (by (with_reducible repeat (first | apply ra_ | apply rn_ | apply rd_)); exact HL239_0.out))) (below_size (by repeat (first | (with_reducible first | exact HB.out | apply ba_ | apply pn_ | apply b1_ | refine below_set ?_ GE213.out) | exact HB.out)))); have n6_ := am (blk_below (g := gb213) (o := .cells #[.slice A0_0 l0_0.length c0_0, .int .i64 a0_1, .slice A0_2 l0_2.length c0_2, .slice A0_3 l0_3.length c0_3, .int .i64 a0_4] 37 (0, 0)) (by (with_reducible repeat (first | refine blk_drewN ?_ _ | refine blk_drew ?_ | refine blk_alloc ?_ _)); exact BK213.out) hb); have n7_ := am (cb_ (by repeat (first | (with_reducible exact HR234_0.out) | (with_reducible refine ca_ ?_ _) | (with_reducible refine cn_ ?_ _) | (with_reducible refine cd_ ?_) | exact HR234_0.out)) hb); have n8_ := am (cb_ (by repeat (first | (with_reducible exact HR239_0.out) | (with_reducible refine ca_ ?_ _) | (with_reducible refine cn_ ?_ _) | (with_reducible refine cd_ ?_) | exact HR239_0.out)) hb); have n9_ := am (below_step (by repeat (first | (with_reducible first | exact HB.out | apply ba_ | apply pn_ | apply b1_ | refine below_set ?_ GE213.out) | exact HB.out)) hb); clear HO_4; clear HO_5; clear HL234_0; clear HO238; clear HL239_0; clear BK213; clear HR234_0; clear HR239_0; clear HB; have HO_4 := n0_; have HO_5 := n1_; have HL234_0 := n2_; have HO238 := n3_; have HL239_0 := n4_; have HO243 := n5_; have BK213 := n6_; have HR234_0 := n7_; have HR239_0 := n8_; have HB := n9_; clear n0_ n1_ n2_ n3_ n4_ n5_ n6_ n7_ n8_ n9_; (try clear hb); (try clear hb2); (try clear hk); (try clear hi); (try clear ho0)))
            replace HO_4 := am (sd_ HO_4.out); replace HO_5 := am (rd_ HO_5.out); replace HL234_0 := am (rd_ HL234_0.out); replace HO238 := am (rd_ HO238.out); replace HL239_0 := am (rd_ HL239_0.out); replace HO243 := am (rd_ HO243.out); replace BK213 := am (blk_drew BK213.out); replace HR234_0 := am (cd_ HR234_0.out); replace HR239_0 := am (cd_ HR239_0.out); replace HB := am (b1_ HB.out)
            have p244 : 0 ≤ (x10_2 : Int) := of_decide_eq_true (by first | (with_reducible assumption) | assumption)
            have q244 : x10_2 < (t215.length : Int) := of_decide_eq_true (by first | (with_reducible assumption) | assumption)
            obtain ⟨ad244, A244_0, c244_0, e244, hx244_0, hl244_0, hi244_0⟩ := at_L1 (sr_ HO_4.out).2.2 x10_2 p244 q244
            obtain rfl : ad234 = ad244 := (by injection e244)
            obtain ⟨ce244, hce244, hMe244, hcc244⟩ := Kd.S_get HO_4.out [] x10_2 p244 (by first | exact q244 | exact of_decide_eq_true (by first | (with_reducible assumption) | assumption) | (have e_ := (sr_ HO_4.out).1; omega))
            obtain ⟨ve244_0, rfl, ge244_0⟩ := hMe244
            have hv244_0 := hcc244 0 _ rfl
            rw [Nat.add_zero, show ((Kd.slice 3 (Kd.int .i64))).sz = 1 from rfl, Nat.mul_one] at hv244_0
            replace hv244_0 := Option.some.inj (hv244_0.symm.trans hx244_0)
            rw [hv244_0] at ge244_0
            have HL244_0 := am (show Kd.R (Kd.int .i64) 3 _ _ _ _ (rd_L1 t215 x10_2) from ge244_0); clear hv244_0 ge244_0 hcc244 hce244; have HR244_0 := am hi244_0; have HC244_0 := am hl244_0; clear hi244_0 hl244_0; replace p244 := eq_true p244; replace q244 := eq_true q244
            refine start_ (n := 13) (S := fun w' => w'.cell? ⟨gb213, 0, none⟩ = some (.slice A0_0 l0_0.length c0_0) ∧ w'.cell? ⟨gb213, 1, none⟩ = some (.int .i64 a0_1) ∧ w'.cell? ⟨gb213, 2, none⟩ = some (.slice A0_2 l0_2.length c0_2) ∧ w'.cell? ⟨gb213, 3, none⟩ = some (.slice A0_3 l0_3.length c0_3) ∧ w'.cell? ⟨gb213, 4, none⟩ = some (.int .i64 a0_4) ∧ w'.cell? (ad234.add (x10_2).toNat) = some (.slice A244_0 (rd_L1 t215 x10_2).length c244_0)) (ds := []) #[F,F,F,F,F,F,F,F,F,F,F,F,F] (by kernel_rfl) rfl rfl ⟨(blk_cell BK213.out 0).trans rfl, (blk_cell BK213.out 1).trans rfl, (blk_cell BK213.out 2).trans rfl, (blk_cell BK213.out 3).trans rfl, (blk_cell BK213.out 4).trans rfl, hx244_0⟩ (fun hHeld => ?_); refine with_tabW proofmarklaw18_PropTells.tab13 proofmarklaw18_PropTells.bits13 (fun HT_ HW_ => ?_)
            generalize w67.drew = w68 at HO_4 HO_5 HL234_0 HO238 HL239_0 HO243 BK213 HR234_0 HR239_0 HB HL244_0 HR244_0 hx244_0 hHeld ⊢
            refine pure_ (i := 0) (N := some 96) (v := ?_) (a' := ?_) #[T,F,F,F,F,F,F,F,F,F,F,F,F] rfl rfl (any_of HT_.out (by kernel_rfl)) (fun _ _ _ h => h) (.inl ⟨by rfl, ?_⟩) ?_ ?_
            rotate_left
            ·intro w'; go_simp; with_reducible rfl
            rotate_left
            ·simp only [Act.put, sb1, sb2, sb3, i64_w, i32_w]; rfl
            refine pure_ (i := 1) (N := some 97) (v := ?_) (a' := ?_) #[T,T,F,F,F,F,F,F,F,F,F,F,F] rfl rfl (any_of HT_.out (by kernel_rfl)) (fun _ _ _ h => h) (.inl ⟨by rfl, ?_⟩) ?_ ?_
            rotate_left
            ·intro w'; go_simp; with_reducible rfl
            rotate_left
            ·simp only [Act.put, sb1, sb2, sb3, i64_w, i32_w]; rfl
            refine pure_ (i := 2) (N := some 98) (v := ?_) (a' := ?_) #[T,T,T,F,F,F,F,F,F,F,F,F,F] rfl rfl (any_of HT_.out (by kernel_rfl)) (fun _ _ _ h => h) (.inl ⟨by rfl, ?_⟩) ?_ ?_
            rotate_left
            ·intro w'; go_simp; with_reducible rfl
            rotate_left
            ·simp only [Act.put, sb1, sb2, sb3, i64_w, i32_w]; rfl
            refine pure_ (i := 4) (N := some 100) (v := ?_) (a' := ?_) #[T,T,T,F,T,F,F,F,F,F,F,F,F] rfl rfl (any_of HT_.out (by kernel_rfl)) (fun _ _ _ h => h) (.inl ⟨by rfl, ?_⟩) ?_ ?_
            rotate_left
            ·intro w'; go_simp; with_reducible rfl
            rotate_left
            ·simp only [Act.put, sb1, sb2, sb3, i64_w, i32_w]; rfl
            refine pure_ (i := 5) (N := some 101) (v := ?_) (a' := ?_) #[T,T,T,F,T,T,F,F,F,F,F,F,F] rfl rfl (any_of HT_.out (by kernel_rfl)) (fun _ _ _ h => h) (.inl ⟨by rfl, ?_⟩) ?_ ?_
            rotate_left
            ·intro w'; go_simp; with_reducible rfl
            rotate_left
            ·simp only [Act.put, sb1, sb2, sb3, i64_w, i32_w]; rfl
            refine take_ (i := 3) (N := some 99) (v := ?_) (a' := ?_) #[T,T,T,T,T,T,F,F,F,F,F,F,F] rfl rfl (take_ofW HT_.out HW_.out (by kernel_rfl)) (fun _ _ _ h => h) (.inl ⟨by rfl, ?_⟩) hHeld ?_ ?_
            rotate_left
            ·rintro w' ⟨s0, s1, s2, s3, s4, s5⟩
             go_simp; with_reducible rfl
            rotate_left
            ·simp only [Act.put, sb1, sb2, sb3, i64_w, i32_w]; rfl
            refine take_ (i := 6) (N := some 102) (v := ?_) (a' := ?_) #[T,T,T,T,T,T,T,F,F,F,F,F,F] rfl rfl (take_ofW HT_.out HW_.out (by kernel_rfl)) (fun _ _ _ h => h) (.inl ⟨by rfl, ?_⟩) hHeld ?_ ?_
            rotate_left
            ·rintro w' ⟨s0, s1, s2, s3, s4, s5⟩
             go_simp; with_reducible rfl
            rotate_left
            ·simp only [Act.put, sb1, sb2, sb3, i64_w, i32_w]; rfl
            refine one_ (i := 7) (N := some 103) #[T,T,T,T,T,T,T,T,F,F,F,F,F] rfl rfl (one_of HT_.out (by kernel_rfl)) (by decide) (fun K hK => ?_)
            refine goes_ Try.func36 (by kernel_rfl) rfl #[.slice A244_0 (rd_L1 t215 x10_2).length c244_0, .slice Ao16 t218.length co16, .int .i64 a0_4] (by rfl) rfl rfl (by (try simp only [ma_, mc_, mn_]); first | done | rfl | (simp only [ld_, lt_]; rfl)) ?_
            with_reducible refine (prop_Resolve.calls _ _ (rd_L1 t215 x10_2) _ _ t218 a0_4 t245 t246 _ ?side1 ?side2 ?side3 ?side4 A46.out).mono ?_
            (case side1 => repeat (first | exact (by repeat (first | (with_reducible exact HR244_0.out) | (with_reducible refine ca_ ?_ _) | (with_reducible refine cn_ ?_ _) | (with_reducible refine cd_ ?_) | exact HR244_0.out)) | (with_reducible refine ca_ ?_ _) | (with_reducible refine cn_ ?_ _) | (with_reducible refine cd_ ?_)))
            (case side2 => exact HC244_0.out)
            (case side3 => repeat (first | exact (Kd.R_reads' HO_5.out).2.2 | (with_reducible refine ca_ ?_ _) | (with_reducible refine cn_ ?_ _) | (with_reducible refine cd_ ?_)))
            (case side4 => exact (Kd.R_reads' HO_5.out).2.1)
            rintro e w69 ⟨v247, rfl, ho0, hb⟩
            have HS5_ := (hb.cell (World.block_lt_of_cell? _ _ (hHeld.2.2.2.2.2))).trans (hHeld.2.2.2.2.2)
            refine ⟨_, rfl, ?_⟩
            have n0_ := am (Kd.S_elder' (by (with_reducible repeat (first | apply sa_ | apply sn_ | apply sd_)); exact HO_4.out) (rb_ ho0) hb)
            have n1_ := am (re_ (by (with_reducible repeat (first | apply ra_ | apply rn_ | apply rd_)); exact HO_5.out) (rb_ ho0) hb)
            have n2_ := am (re_ (by (with_reducible repeat (first | apply ra_ | apply rn_ | apply rd_)); exact HL234_0.out) (rb_ ho0) hb)
            have n3_ := am (re_ (by (with_reducible repeat (first | apply ra_ | apply rn_ | apply rd_)); exact HO238.out) (rb_ ho0) hb)
            have n4_ := am (re_ (by (with_reducible repeat (first | apply ra_ | apply rn_ | apply rd_)); exact HL239_0.out) (rb_ ho0) hb)
            have n5_ := am (re_ (by (with_reducible repeat (first | apply ra_ | apply rn_ | apply rd_)); exact HO243.out) (rb_ ho0) hb)
            have n6_ := am (re_ (by (with_reducible repeat (first | apply ra_ | apply rn_ | apply rd_)); exact HL244_0.out) (rb_ ho0) hb)
            have n7_ := am (Kd.R_lower (rw_ (rw_ (rw_ (rw_ (rw_ (rw_ ho0 (Kd.R_lt (by (with_reducible repeat (first | apply ra_ | apply rn_ | apply rd_)); exact HO_5.out))) (Kd.R_lt (by (with_reducible repeat (first | apply ra_ | apply rn_ | apply rd_)); exact HL234_0.out))) (Kd.R_lt (by (with_reducible repeat (first | apply ra_ | apply rn_ | apply rd_)); exact HO238.out))) (Kd.R_lt (by (with_reducible repeat (first | apply ra_ | apply rn_ | apply rd_)); exact HL239_0.out))) (Kd.R_lt (by (with_reducible repeat (first | apply ra_ | apply rn_ | apply rd_)); exact HO243.out))) (Kd.R_lt (by (with_reducible repeat (first | apply ra_ | apply rn_ | apply rd_)); exact HL244_0.out))) (below_size (by repeat (first | (with_reducible first | exact HB.out | apply ba_ | apply pn_ | apply b1_ | refine below_set ?_ GE213.out) | exact HB.out))))
            have n8_ := am (blk_below (g := gb213) (o := .cells #[.slice A0_0 l0_0.length c0_0, .int .i64 a0_1, .slice A0_2 l0_2.length c0_2, .slice A0_3 l0_3.length c0_3, .int .i64 a0_4] 37 (0, 0)) (by (with_reducible repeat (first | refine blk_drewN ?_ _ | refine blk_drew ?_ | refine blk_alloc ?_ _)); exact BK213.out) hb)
            have n9_ := am (cb_ (by repeat (first | (with_reducible exact HR234_0.out) | (with_reducible refine ca_ ?_ _) | (with_reducible refine cn_ ?_ _) | (with_reducible refine cd_ ?_) | exact HR234_0.out)) hb); have n10_ := am (cb_ (by repeat (first | (with_reducible exact HR239_0.out) | (with_reducible refine ca_ ?_ _) | (with_reducible refine cn_ ?_ _) | (with_reducible refine cd_ ?_) | exact HR239_0.out)) hb); have n11_ := am (cb_ (by repeat (first | (with_reducible exact HR244_0.out) | (with_reducible refine ca_ ?_ _) | (with_reducible refine cn_ ?_ _) | (with_reducible refine cd_ ?_) | exact HR244_0.out)) hb); have n12_ := am (below_step (by repeat (first | (with_reducible first | exact HB.out | apply ba_ | apply pn_ | apply b1_ | refine below_set ?_ GE213.out) | exact HB.out)) hb); clear HO_4 HO_5 HL234_0 HO238 HL239_0 HO243 HL244_0 BK213 HR234_0 HR239_0 HR244_0 HB; have HO_4 := n0_; have HO_5 := n1_; have HL234_0 := n2_; have HO238 := n3_; have HL239_0 := n4_; have HO243 := n5_; have HL244_0 := n6_; have HO248 := n7_; have BK213 := n8_; have HR234_0 := n9_; have HR239_0 := n10_; have HR244_0 := n11_; have HB := n12_; clear n0_ n1_ n2_ n3_ n4_ n5_ n6_ n7_ n8_ n9_ n10_ n11_ n12_
            (try clear hb)
            (try clear hb2)
            (try clear hk)
            (try clear hi)
            (try clear ho0)
            refine hK.out _ _ ⟨(blk_cell BK213.out 0).trans rfl, (blk_cell BK213.out 1).trans rfl, (blk_cell BK213.out 2).trans rfl, (blk_cell BK213.out 3).trans rfl, (blk_cell BK213.out 4).trans rfl, HS5_⟩ (fun hHeld => ?_)
            clear hK K
            refine norm_ (a' := ?_) ?_ ?_
            rotate_left
            ·show Act.put _ (some 103) _ = _
             simp only [Act.put, sb1, sb2, sb3, i64_w, i32_w]; rfl
            refine pure_ (i := 8) (N := some 95) (v := ?_) (a' := ?_) #[T,T,T,T,T,T,T,T,T,F,F,F,F] rfl rfl (any_of HT_.out (by kernel_rfl)) (fun _ _ _ h => h) (.inl ⟨by rfl, ?_⟩) ?_ ?_
            rotate_left
            ·intro w'; go_simp; with_reducible rfl
            rotate_left
            ·simp only [Act.put, sb1, sb2, sb3, i64_w, i32_w]; rfl
            refine pure_ (i := 9) (N := some 104) (v := ?_) (a' := ?_) #[T,T,T,T,T,T,T,T,T,T,F,F,F] rfl rfl (any_of HT_.out (by kernel_rfl)) (fun _ _ _ h => h) (.inl ⟨by rfl, ?_⟩) ?_ ?_
            rotate_left
            ·intro w'; go_simp; with_reducible rfl
            rotate_left
            ·simp only [Act.put, sb1, sb2, sb3, i64_w, i32_w]; rfl
            refine pure_ (i := 10) (N := some 105) (v := ?_) (a' := ?_) #[T,T,T,T,T,T,T,T,T,T,T,F,F] rfl rfl (any_of HT_.out (by kernel_rfl)) (fun _ _ _ h => h) (.inl ⟨by rfl, ?_⟩) ?_ ?_
            rotate_left
            ·intro w'; go_simp; with_reducible rfl
            rotate_left
            ·simp only [Act.put, sb1, sb2, sb3, i64_w, i32_w]; rfl
            refine pure_ (i := 11) (N := some 15) (v := ?_) (a' := ?_) #[T,T,T,T,T,T,T,T,T,T,T,T,F] rfl rfl (any_of HT_.out (by kernel_rfl)) (fun _ _ _ h => h) (.inl ⟨by rfl, ?_⟩) ?_ ?_
            rotate_left
            ·intro w'; go_simp; with_reducible rfl
            rotate_left
            ·simp only [Act.put, sb1, sb2, sb3, i64_w, i32_w]; rfl
            refine pure_ (i := 12) (N := some 16) (v := ?_) (a' := ?_) #[T,T,T,T,T,T,T,T,T,T,T,T,T] rfl rfl (any_of HT_.out (by kernel_rfl)) (fun _ _ _ h => h) (.inl ⟨by rfl, ?_⟩) ?_ ?_
            rotate_left
            ·intro w'; go_simp; with_reducible rfl
            rotate_left
            ·simp only [Act.put, sb1, sb2, sb3, i64_w, i32_w]; rfl
            refine done_ (done_of HT_.out (by kernel_rfl)) ?_
            try go_wp2; replace HO_4 := am (sd_ HO_4.out); replace HO_5 := am (rd_ HO_5.out); replace HL234_0 := am (rd_ HL234_0.out); replace HO238 := am (rd_ HO238.out); replace HL239_0 := am (rd_ HL239_0.out); replace HO243 := am (rd_ HO243.out); replace HL244_0 := am (rd_ HL244_0.out); replace HO248 := am (rd_ HO248.out); replace BK213 := am (blk_drew BK213.out); replace HR234_0 := am (cd_ HR234_0.out); replace HR239_0 := am (cd_ HR239_0.out); replace HR244_0 := am (cd_ HR244_0.out); replace HB := am (b1_ HB.out)
            have p249 : 0 ≤ (x10_2 : Int) := of_decide_eq_true (by first | (with_reducible assumption) | assumption)
            have q249 : x10_2 < (t215.length : Int) := of_decide_eq_true (by first | (with_reducible assumption) | assumption)
            obtain ⟨ad249, A249_0, c249_0, e249, hx249_0, hl249_0, hi249_0⟩ := at_L1 (sr_ HO_4.out).2.2 x10_2 p249 q249
            obtain rfl : ad234 = ad249 := (by injection e249)
            obtain ⟨ce249, hce249, hMe249, hcc249⟩ := Kd.S_get HO_4.out [] x10_2 p249 (by first | exact q249 | exact of_decide_eq_true (by first | (with_reducible assumption) | assumption) | (have e_ := (sr_ HO_4.out).1; omega))
            obtain ⟨ve249_0, rfl, ge249_0⟩ := hMe249
            have hv249_0 := hcc249 0 _ rfl
            rw [Nat.add_zero, show ((Kd.slice 3 (Kd.int .i64))).sz = 1 from rfl, Nat.mul_one] at hv249_0
            replace hv249_0 := Option.some.inj (hv249_0.symm.trans hx249_0)
            rw [hv249_0] at ge249_0
            have HL249_0 := am (show Kd.R (Kd.int .i64) 3 _ _ _ _ (rd_L1 t215 x10_2) from ge249_0); clear hv249_0 ge249_0 hcc249 hce249; have HR249_0 := am hi249_0; have HC249_0 := am hl249_0; clear hi249_0 hl249_0; replace p249 := eq_true p249; replace q249 := eq_true q249
            refine start_ (n := 13) (S := fun w' => w'.cell? ⟨gb213, 0, none⟩ = some (.slice A0_0 l0_0.length c0_0) ∧ w'.cell? ⟨gb213, 1, none⟩ = some (.int .i64 a0_1) ∧ w'.cell? ⟨gb213, 2, none⟩ = some (.slice A0_2 l0_2.length c0_2) ∧ w'.cell? ⟨gb213, 3, none⟩ = some (.slice A0_3 l0_3.length c0_3) ∧ w'.cell? ⟨gb213, 4, none⟩ = some (.int .i64 a0_4) ∧ w'.cell? (ad234.add (x10_2).toNat) = some (.slice A249_0 (rd_L1 t215 x10_2).length c249_0)) (ds := []) #[F,F,F,F,F,F,F,F,F,F,F,F,F] (by kernel_rfl) rfl rfl ⟨(blk_cell BK213.out 0).trans rfl, (blk_cell BK213.out 1).trans rfl, (blk_cell BK213.out 2).trans rfl, (blk_cell BK213.out 3).trans rfl, (blk_cell BK213.out 4).trans rfl, hx249_0⟩ (fun hHeld => ?_); refine with_tabW proofmarklaw18_PropTells.tab14 proofmarklaw18_PropTells.bits14 (fun HT_ HW_ => ?_)
            generalize w69.drew = w70 at HO_4 HO_5 HL234_0 HO238 HL239_0 HO243 HL244_0 HO248 BK213 HR234_0 HR239_0 HR244_0 HB HL249_0 HR249_0 hx249_0 hHeld ⊢
            refine pure_ (i := 0) (N := some 107) (v := ?_) (a' := ?_) #[T,F,F,F,F,F,F,F,F,F,F,F,F] rfl rfl (any_of HT_.out (by kernel_rfl)) (fun _ _ _ h => h) (.inl ⟨by rfl, ?_⟩) ?_ ?_
            rotate_left
            ·intro w'; go_simp; with_reducible rfl
            rotate_left
            ·simp only [Act.put, sb1, sb2, sb3, i64_w, i32_w]; rfl
            refine pure_ (i := 1) (N := some 108) (v := ?_) (a' := ?_) #[T,T,F,F,F,F,F,F,F,F,F,F,F] rfl rfl (any_of HT_.out (by kernel_rfl)) (fun _ _ _ h => h) (.inl ⟨by rfl, ?_⟩) ?_ ?_
            rotate_left
            ·intro w'; go_simp; with_reducible rfl
            rotate_left
            ·simp only [Act.put, sb1, sb2, sb3, i64_w, i32_w]; rfl
            refine pure_ (i := 2) (N := some 109) (v := ?_) (a' := ?_) #[T,T,T,F,F,F,F,F,F,F,F,F,F] rfl rfl (any_of HT_.out (by kernel_rfl)) (fun _ _ _ h => h) (.inl ⟨by rfl, ?_⟩) ?_ ?_
            rotate_left
            ·intro w'; go_simp; with_reducible rfl
            rotate_left
            ·simp only [Act.put, sb1, sb2, sb3, i64_w, i32_w]; rfl
            refine pure_ (i := 4) (N := some 111) (v := ?_) (a' := ?_) #[T,T,T,F,T,F,F,F,F,F,F,F,F] rfl rfl (any_of HT_.out (by kernel_rfl)) (fun _ _ _ h => h) (.inl ⟨by rfl, ?_⟩) ?_ ?_
            rotate_left
            ·intro w'; go_simp; with_reducible rfl
            rotate_left
            ·simp only [Act.put, sb1, sb2, sb3, i64_w, i32_w]; rfl
            refine pure_ (i := 5) (N := some 112) (v := ?_) (a' := ?_) #[T,T,T,F,T,T,F,F,F,F,F,F,F] rfl rfl (any_of HT_.out (by kernel_rfl)) (fun _ _ _ h => h) (.inl ⟨by rfl, ?_⟩) ?_ ?_
            rotate_left
            ·intro w'; go_simp; with_reducible rfl
            rotate_left
            ·simp only [Act.put, sb1, sb2, sb3, i64_w, i32_w]; rfl
            refine take_ (i := 3) (N := some 110) (v := ?_) (a' := ?_) #[T,T,T,T,T,T,F,F,F,F,F,F,F] rfl rfl (take_ofW HT_.out HW_.out (by kernel_rfl)) (fun _ _ _ h => h) (.inl ⟨by rfl, ?_⟩) hHeld ?_ ?_
            rotate_left
            ·rintro w' ⟨s0, s1, s2, s3, s4, s5⟩
             go_simp; with_reducible rfl
            rotate_left
            ·simp only [Act.put, sb1, sb2, sb3, i64_w, i32_w]; rfl
            refine take_ (i := 6) (N := some 113) (v := ?_) (a' := ?_) #[T,T,T,T,T,T,T,F,F,F,F,F,F] rfl rfl (take_ofW HT_.out HW_.out (by kernel_rfl)) (fun _ _ _ h => h) (.inl ⟨by rfl, ?_⟩) hHeld ?_ ?_
            rotate_left
            ·rintro w' ⟨s0, s1, s2, s3, s4, s5⟩
             go_simp; with_reducible rfl
            rotate_left
            ·simp only [Act.put, sb1, sb2, sb3, i64_w, i32_w]; rfl
            refine one_ (i := 7) (N := some 114) #[T,T,T,T,T,T,T,T,F,F,F,F,F] rfl rfl (one_of HT_.out (by kernel_rfl)) (by decide) (fun K hK => ?_)
            refine goes_ Try.func37 (by kernel_rfl) rfl #[.slice A249_0 (rd_L1 t215 x10_2).length c249_0, .slice Ao16 t218.length co16, .int .i64 a0_4] (by rfl) rfl rfl (by (try simp only [ma_, mc_, mn_]); first | done | rfl | (simp only [ld_, lt_]; rfl)) ?_
            with_reducible refine (proofmarkref18_Resolve.calls k2 _ _ (rd_L1 t215 x10_2) _ _ t218 a0_4 t250 t251 _ ?side1 ?side2 ?side3 ?side4 A47.out).mono ?_
            (case side1 => repeat (first | exact (by repeat (first | (with_reducible exact HR249_0.out) | (with_reducible refine ca_ ?_ _) | (with_reducible refine cn_ ?_ _) | (with_reducible refine cd_ ?_) | exact HR249_0.out)) | (with_reducible refine ca_ ?_ _) | (with_reducible refine cn_ ?_ _) | (with_reducible refine cd_ ?_)))
            (case side2 => exact HC249_0.out)
            (case side3 => repeat (first | exact (Kd.R_reads' HO_5.out).2.2 | (with_reducible refine ca_ ?_ _) | (with_reducible refine cn_ ?_ _) | (with_reducible refine cd_ ?_)))
            (case side4 => exact (Kd.R_reads' HO_5.out).2.1)
            rintro e w71 ⟨v252, rfl, ho0, hb⟩
            have HS5_ := (hb.cell (World.block_lt_of_cell? _ _ (hHeld.2.2.2.2.2))).trans (hHeld.2.2.2.2.2)
            refine ⟨_, rfl, ?_⟩
            have n0_ := am (Kd.S_elder' (by (with_reducible repeat (first | apply sa_ | apply sn_ | apply sd_)); exact HO_4.out) (rb_ ho0) hb)
            have n1_ := am (re_ (by (with_reducible repeat (first | apply ra_ | apply rn_ | apply rd_)); exact HO_5.out) (rb_ ho0) hb)
            have n2_ := am (re_ (by (with_reducible repeat (first | apply ra_ | apply rn_ | apply rd_)); exact HL234_0.out) (rb_ ho0) hb)
            have n3_ := am (re_ (by (with_reducible repeat (first | apply ra_ | apply rn_ | apply rd_)); exact HO238.out) (rb_ ho0) hb)
            have n4_ := am (re_ (by (with_reducible repeat (first | apply ra_ | apply rn_ | apply rd_)); exact HL239_0.out) (rb_ ho0) hb)
            have n5_ := am (re_ (by (with_reducible repeat (first | apply ra_ | apply rn_ | apply rd_)); exact HO243.out) (rb_ ho0) hb)
            have n6_ := am (re_ (by (with_reducible repeat (first | apply ra_ | apply rn_ | apply rd_)); exact HL244_0.out) (rb_ ho0) hb)
            have n7_ := am (re_ (by (with_reducible repeat (first | apply ra_ | apply rn_ | apply rd_)); exact HO248.out) (rb_ ho0) hb)
            have n8_ := am (re_ (by (with_reducible repeat (first | apply ra_ | apply rn_ | apply rd_)); exact HL249_0.out) (rb_ ho0) hb)
            have n9_ := am (Kd.R_lower (rw_ (rw_ (rw_ (rw_ (rw_ (rw_ (rw_ (rw_ ho0 (Kd.R_lt (by (with_reducible repeat (first | apply ra_ | apply rn_ | apply rd_)); exact HO_5.out))) (Kd.R_lt (by (with_reducible repeat (first | apply ra_ | apply rn_ | apply rd_)); exact HL234_0.out))) (Kd.R_lt (by (with_reducible repeat (first | apply ra_ | apply rn_ | apply rd_)); exact HO238.out))) (Kd.R_lt (by (with_reducible repeat (first | apply ra_ | apply rn_ | apply rd_)); exact HL239_0.out))) (Kd.R_lt (by (with_reducible repeat (first | apply ra_ | apply rn_ | apply rd_)); exact HO243.out))) (Kd.R_lt (by (with_reducible repeat (first | apply ra_ | apply rn_ | apply rd_)); exact HL244_0.out))) (Kd.R_lt (by (with_reducible repeat (first | apply ra_ | apply rn_ | apply rd_)); exact HO248.out))) (Kd.R_lt (by (with_reducible repeat (first | apply ra_ | apply rn_ | apply rd_)); exact HL249_0.out))) (below_size (by repeat (first | (with_reducible first | exact HB.out | apply ba_ | apply pn_ | apply b1_ | refine below_set ?_ GE213.out) | exact HB.out))))
            have n10_ := am (blk_below (g := gb213) (o := .cells #[.slice A0_0 l0_0.length c0_0, .int .i64 a0_1, .slice A0_2 l0_2.length c0_2, .slice A0_3 l0_3.length c0_3, .int .i64 a0_4] 37 (0, 0)) (by (with_reducible repeat (first | refine blk_drewN ?_ _ | refine blk_drew ?_ | refine blk_alloc ?_ _)); exact BK213.out) hb)
            have n11_ := am (cb_ (by repeat (first | (with_reducible exact HR234_0.out) | (with_reducible refine ca_ ?_ _) | (with_reducible refine cn_ ?_ _) | (with_reducible refine cd_ ?_) | exact HR234_0.out)) hb); have n12_ := am (cb_ (by repeat (first | (with_reducible exact HR239_0.out) | (with_reducible refine ca_ ?_ _) | (with_reducible refine cn_ ?_ _) | (with_reducible refine cd_ ?_) | exact HR239_0.out)) hb); have n13_ := am (cb_ (by repeat (first | (with_reducible exact HR244_0.out) | (with_reducible refine ca_ ?_ _) | (with_reducible refine cn_ ?_ _) | (with_reducible refine cd_ ?_) | exact HR244_0.out)) hb); have n14_ := am (cb_ (by repeat (first | (with_reducible exact HR249_0.out) | (with_reducible refine ca_ ?_ _) | (with_reducible refine cn_ ?_ _) | (with_reducible refine cd_ ?_) | exact HR249_0.out)) hb); have n15_ := am (below_step (by repeat (first | (with_reducible first | exact HB.out | apply ba_ | apply pn_ | apply b1_ | refine below_set ?_ GE213.out) | exact HB.out)) hb); clear HO_4 HO_5 HL234_0 HO238 HL239_0 HO243 HL244_0 HO248 HL249_0 BK213 HR234_0 HR239_0 HR244_0 HR249_0 HB; have HO_4 := n0_; have HO_5 := n1_; have HL234_0 := n2_; have HO238 := n3_; have HL239_0 := n4_; have HO243 := n5_; have HL244_0 := n6_; have HO248 := n7_; have HL249_0 := n8_; have HO253 := n9_; have BK213 := n10_; have HR234_0 := n11_; have HR239_0 := n12_; have HR244_0 := n13_; have HR249_0 := n14_; have HB := n15_; clear n0_ n1_ n2_ n3_ n4_ n5_ n6_ n7_ n8_ n9_ n10_ n11_ n12_ n13_ n14_ n15_
            (try clear hb)
            (try clear hb2)
            (try clear hk)
            (try clear hi)
            (try clear ho0)
            refine hK.out _ _ ⟨(blk_cell BK213.out 0).trans rfl, (blk_cell BK213.out 1).trans rfl, (blk_cell BK213.out 2).trans rfl, (blk_cell BK213.out 3).trans rfl, (blk_cell BK213.out 4).trans rfl, HS5_⟩ (fun hHeld => ?_)
            clear hK K
            refine norm_ (a' := ?_) ?_ ?_
            rotate_left
            ·show Act.put _ (some 114) _ = _
             simp only [Act.put, sb1, sb2, sb3, i64_w, i32_w]; rfl
            refine pure_ (i := 8) (N := some 106) (v := ?_) (a' := ?_) #[T,T,T,T,T,T,T,T,T,F,F,F,F] rfl rfl (any_of HT_.out (by kernel_rfl)) (fun _ _ _ h => h) (.inl ⟨by rfl, ?_⟩) ?_ ?_
            rotate_left
            ·intro w'; go_simp; with_reducible rfl
            rotate_left
            ·simp only [Act.put, sb1, sb2, sb3, i64_w, i32_w]; rfl
            refine pure_ (i := 9) (N := some 115) (v := ?_) (a' := ?_) #[T,T,T,T,T,T,T,T,T,T,F,F,F] rfl rfl (any_of HT_.out (by kernel_rfl)) (fun _ _ _ h => h) (.inl ⟨by rfl, ?_⟩) ?_ ?_
            rotate_left
            ·intro w'; go_simp; with_reducible rfl
            rotate_left
            ·simp only [Act.put, sb1, sb2, sb3, i64_w, i32_w]; rfl
            refine pure_ (i := 10) (N := some 116) (v := ?_) (a' := ?_) #[T,T,T,T,T,T,T,T,T,T,T,F,F] rfl rfl (any_of HT_.out (by kernel_rfl)) (fun _ _ _ h => h) (.inl ⟨by rfl, ?_⟩) ?_ ?_
            rotate_left
            ·intro w'; go_simp; with_reducible rfl
            rotate_left
            ·simp only [Act.put, sb1, sb2, sb3, i64_w, i32_w]; rfl
            refine pure_ (i := 11) (N := some 17) (v := ?_) (a' := ?_) #[T,T,T,T,T,T,T,T,T,T,T,T,F] rfl rfl (any_of HT_.out (by kernel_rfl)) (fun _ _ _ h => h) (.inl ⟨by rfl, ?_⟩) ?_ ?_
            rotate_left
            ·intro w'; go_simp; with_reducible rfl
            rotate_left
            ·simp only [Act.put, sb1, sb2, sb3, i64_w, i32_w]; rfl
            refine pure_ (i := 12) (N := some 18) (v := ?_) (a' := ?_) #[T,T,T,T,T,T,T,T,T,T,T,T,T] rfl rfl (any_of HT_.out (by kernel_rfl)) (fun _ _ _ h => h) (.inl ⟨by rfl, ?_⟩) ?_ ?_
            rotate_left
            ·intro w'; go_simp; with_reducible rfl
            rotate_left
            ·simp only [Act.put, sb1, sb2, sb3, i64_w, i32_w]; rfl
            refine done_ (done_of HT_.out (by kernel_rfl)) ?_
            obtain ⟨Ao72, co72, eo72⟩ := Kd.R_slice HO238.out
            subst eo72
            obtain ⟨Ao73, co73, eo73⟩ := Kd.R_slice HO243.out
            subst eo73
            try go_wp2_with (first | (go_at_call 33; (with_reducible refine (proofmarkref18_Same.calls k2 _ _ t235 _ _ t240 true _ ?side1 ?side2 ?side3 ?side4 A62.out).mono ?_); (case side1 => repeat (first | exact (Kd.R_reads' HO238.out).2.2 | (with_reducible refine ca_ ?_ _) | (with_reducible refine cn_ ?_ _) | (with_reducible refine cd_ ?_))); (case side2 => exact (Kd.R_reads' HO238.out).2.1); (case side3 => repeat (first | exact (Kd.R_reads' HO243.out).2.2 | (with_reducible refine ca_ ?_ _) | (with_reducible refine cn_ ?_ _) | (with_reducible refine cd_ ?_))); (case side4 => exact (Kd.R_reads' HO243.out).2.1); rintro e w' ⟨rfl, ⟨nd, rfl⟩⟩; obtain ⟨Ao74, co74, eo74⟩ := Kd.R_slice HO248.out; subst eo74; obtain ⟨Ao75, co75, eo75⟩ := Kd.R_slice HO253.out; subst eo75) | (go_at_call 33; (with_reducible refine (proofmarkref18_Same.calls k2 _ _ t245 _ _ t250 true _ ?side1 ?side2 ?side3 ?side4 A64.out).mono ?_); (case side1 => repeat (first | exact (Kd.R_reads' HO248.out).2.2 | (with_reducible refine ca_ ?_ _) | (with_reducible refine cn_ ?_ _) | (with_reducible refine cd_ ?_))); (case side2 => exact (Kd.R_reads' HO248.out).2.1); (case side3 => repeat (first | exact (Kd.R_reads' HO253.out).2.2 | (with_reducible refine ca_ ?_ _) | (with_reducible refine cn_ ?_ _) | (with_reducible refine cd_ ?_))); (case side4 => exact (Kd.R_reads' HO253.out).2.1); rintro e w' ⟨rfl, ⟨nd, rfl⟩⟩))
            go_roundg k2
            case measure => have := HJ6.out; have := HK2.out; omega
            case rel => exact ⟨(wrap64 (x10_2 + 1)), (by first | rfl | (simp; done) | (simp [*]; done) | (simp [bne_nil_]; done)), H', ⟨by have := HJ6.out; have := HK2.out; omega⟩, ⟨by (with_reducible repeat (first | apply sa_ | apply sn_ | apply sd_)); exact Kd.S_mono HO_4.out (fun _ hk => hk.1.1.1.1)⟩, ⟨by (with_reducible repeat (first | apply ra_ | apply rn_ | apply rd_)); exact Kd.R_mono HO_5.out (fun _ hk => trivial)⟩, ⟨by (with_reducible repeat (first | refine blk_drewN ?_ _ | refine blk_drew ?_ | refine blk_alloc ?_ _)); exact BK213.out⟩, ⟨by repeat (first | (with_reducible first | exact HB.out | apply ba_ | apply pn_ | apply b1_ | refine below_set ?_ GE213.out) | exact HB.out)⟩⟩
           ·replace c65 := Bool.eq_false_iff.mpr c65; subst c65
            have H1 : (some false) = some r := by rw [if_neg (show ¬ (false = true) by decide)] at H; exact H
            clear H; have H := H1; clear H1
            obtain rfl := Option.some.inj H
            have p234 : 0 ≤ (x10_2 : Int) := of_decide_eq_true (by first | (with_reducible assumption) | assumption)
            have q234 : x10_2 < (t215.length : Int) := of_decide_eq_true (by first | (with_reducible assumption) | assumption)
            obtain ⟨ad234, A234_0, c234_0, e234, hx234_0, hl234_0, hi234_0⟩ := at_L1 (sr_ HO_4.out).2.2 x10_2 p234 q234
            cases e234
            obtain ⟨ce234, hce234, hMe234, hcc234⟩ := Kd.S_get HO_4.out [] x10_2 p234 (by first | exact q234 | exact of_decide_eq_true (by first | (with_reducible assumption) | assumption) | (have e_ := (sr_ HO_4.out).1; omega))
            obtain ⟨ve234_0, rfl, ge234_0⟩ := hMe234
            have hv234_0 := hcc234 0 _ rfl
            rw [Nat.add_zero, show ((Kd.slice 3 (Kd.int .i64))).sz = 1 from rfl, Nat.mul_one] at hv234_0
            replace hv234_0 := Option.some.inj (hv234_0.symm.trans hx234_0)
            rw [hv234_0] at ge234_0
            have HL234_0 := am (show Kd.R (Kd.int .i64) 3 _ _ _ _ (rd_L1 t215 x10_2) from ge234_0); clear hv234_0 ge234_0 hcc234 hce234; have HR234_0 := am hi234_0; have HC234_0 := am hl234_0; clear hi234_0 hl234_0; replace p234 := eq_true p234; replace q234 := eq_true q234
            try go_wp2_with (first | ((with_reducible refine gate_callee (f := 34) rfl ?_); refine goesL_ (some 84) rfl rfl Try.func34 (by kernel_rfl) rfl #[.slice A234_0 (rd_L1 t215 x10_2).length c234_0] rfl (by (try simp only [ma_, mc_, mn_]); first | done | rfl | (simp only [ld_, lt_]; rfl)) ?_; (with_reducible refine (prop_Norm.calls _ _ (rd_L1 t215 x10_2) t235 t236 _ ?side1 ?side2 A44.out).mono ?_); (case side1 => repeat (first | exact (by repeat (first | (with_reducible exact HR234_0.out) | (with_reducible refine ca_ ?_ _) | (with_reducible refine cn_ ?_ _) | (with_reducible refine cd_ ?_) | exact HR234_0.out)) | (with_reducible refine ca_ ?_ _) | (with_reducible refine cn_ ?_ _) | (with_reducible refine cd_ ?_))); (case side2 => exact HC234_0.out); rintro e w76 ⟨v237, rfl, ho0, hb⟩; refine ⟨_, rfl, ?_⟩; have n0_ := am (Kd.S_elder' (by (with_reducible repeat (first | apply sa_ | apply sn_ | apply sd_)); exact HO_4.out) (rb_ ho0) hb); have n1_ := am (re_ (by (with_reducible repeat (first | apply ra_ | apply rn_ | apply rd_)); exact HO_5.out) (rb_ ho0) hb); have n2_ := am (re_ (by (with_reducible repeat (first | apply ra_ | apply rn_ | apply rd_)); exact HL234_0.out) (rb_ ho0) hb); have n3_ := am (Kd.R_lower (rw_ (rw_ ho0 (Kd.R_lt (by (with_reducible repeat (first | apply ra_ | apply rn_ | apply rd_)); exact HO_5.out))) (Kd.R_lt (by (with_reducible repeat (first | apply ra_ | apply rn_ | apply rd_)); exact HL234_0.out))) (below_size (by repeat (first | (with_reducible first | exact HB.out | apply ba_ | apply pn_ | apply b1_ | refine below_set ?_ GE213.out) | exact HB.out)))); have n4_ := am (blk_below (g := gb213) (o := .cells #[.slice A0_0 l0_0.length c0_0, .int .i64 a0_1, .slice A0_2 l0_2.length c0_2, .slice A0_3 l0_3.length c0_3, .int .i64 a0_4] 37 (0, 0)) (by (with_reducible repeat (first | refine blk_drewN ?_ _ | refine blk_drew ?_ | refine blk_alloc ?_ _)); exact BK213.out) hb); have n5_ := am (cb_ (by repeat (first | (with_reducible exact HR234_0.out) | (with_reducible refine ca_ ?_ _) | (with_reducible refine cn_ ?_ _) | (with_reducible refine cd_ ?_) | exact HR234_0.out)) hb); have n6_ := am (below_step (by repeat (first | (with_reducible first | exact HB.out | apply ba_ | apply pn_ | apply b1_ | refine below_set ?_ GE213.out) | exact HB.out)) hb); clear HO_4; clear HO_5; clear HL234_0; clear BK213; clear HR234_0; clear HB; have HO_4 := n0_; have HO_5 := n1_; have HL234_0 := n2_; have HO238 := n3_; have BK213 := n4_; have HR234_0 := n5_; have HB := n6_; clear n0_ n1_ n2_ n3_ n4_ n5_ n6_; (try clear hb); (try clear hb2); (try clear hk); (try clear hi); (try clear ho0); have p239 : 0 ≤ (x10_2 : Int) := of_decide_eq_true (by first | (with_reducible assumption) | assumption); have q239 : x10_2 < (t215.length : Int) := of_decide_eq_true (by first | (with_reducible assumption) | assumption); obtain ⟨ad239, A239_0, c239_0, e239, hx239_0, hl239_0, hi239_0⟩ := at_L1 (sr_ HO_4.out).2.2 x10_2 p239 q239; obtain rfl : ad234 = ad239 := (by injection e239); obtain ⟨ce239, hce239, hMe239, hcc239⟩ := Kd.S_get HO_4.out [] x10_2 p239 (by first | exact q239 | exact of_decide_eq_true (by first | (with_reducible assumption) | assumption) | (have e_ := (sr_ HO_4.out).1; omega)); obtain ⟨ve239_0, rfl, ge239_0⟩ := hMe239; have hv239_0 := hcc239 0 _ rfl; rw [Nat.add_zero, show ((Kd.slice 3 (Kd.int .i64))).sz = 1 from rfl, Nat.mul_one] at hv239_0; replace hv239_0 := Option.some.inj (hv239_0.symm.trans hx239_0); rw [hv239_0] at ge239_0; have HL239_0 := am (show Kd.R (Kd.int .i64) 3 _ _ _ _ (rd_L1 t215 x10_2) from ge239_0); clear hv239_0 ge239_0; clear hcc239 hce239; have HR239_0 := am hi239_0; have HC239_0 := am hl239_0; clear hi239_0 hl239_0; replace p239 := eq_true p239; replace q239 := eq_true q239) | ((with_reducible refine gate_callee (f := 35) rfl ?_); refine goesL_ (some 92) rfl rfl Try.func35 (by kernel_rfl) rfl #[.slice A239_0 (rd_L1 t215 x10_2).length c239_0] rfl (by (try simp only [ma_, mc_, mn_]); first | done | rfl | (simp only [ld_, lt_]; rfl)) ?_; (with_reducible refine (proofmarkref18_Norm.calls k2 _ _ (rd_L1 t215 x10_2) t240 t241 _ ?side1 ?side2 A45.out).mono ?_); (case side1 => repeat (first | exact (by repeat (first | (with_reducible exact HR239_0.out) | (with_reducible refine ca_ ?_ _) | (with_reducible refine cn_ ?_ _) | (with_reducible refine cd_ ?_) | exact HR239_0.out)) | (with_reducible refine ca_ ?_ _) | (with_reducible refine cn_ ?_ _) | (with_reducible refine cd_ ?_))); (case side2 => exact HC239_0.out); rintro e w77 ⟨v242, rfl, ho0, hb⟩; refine ⟨_, rfl, ?_⟩; have n0_ := am (Kd.S_elder' (by (with_reducible repeat (first | apply sa_ | apply sn_ | apply sd_)); exact HO_4.out) (rb_ ho0) hb); have n1_ := am (re_ (by (with_reducible repeat (first | apply ra_ | apply rn_ | apply rd_)); exact HO_5.out) (rb_ ho0) hb); have n2_ := am (re_ (by (with_reducible repeat (first | apply ra_ | apply rn_ | apply rd_)); exact HL234_0.out) (rb_ ho0) hb); have n3_ := am (re_ (by (with_reducible repeat (first | apply ra_ | apply rn_ | apply rd_)); exact HO238.out) (rb_ ho0) hb); have n4_ := am (re_ (by (with_reducible repeat (first | apply ra_ | apply rn_ | apply rd_)); exact HL239_0.out) (rb_ ho0) hb); have n5_ := am (Kd.R_lower (rw_ (rw_ (rw_ (rw_ ho0 (Kd.R_lt (by (with_reducible repeat (first | apply ra_ | apply rn_ | apply rd_)); exact HO_5.out))) (Kd.R_lt (by (with_reducible repeat (first | apply ra_ | apply rn_ | apply rd_)); exact HL234_0.out))) (Kd.R_lt (by (with_reducible repeat (first | apply ra_ | apply rn_ | apply rd_)); exact HO238.out))) (Kd.R_lt (by (with_reducible repeat (first | apply ra_ | apply rn_ | apply rd_)); exact HL239_0.out))) (below_size (by repeat (first | (with_reducible first | exact HB.out | apply ba_ | apply pn_ | apply b1_ | refine below_set ?_ GE213.out) | exact HB.out)))); have n6_ := am (blk_below (g := gb213) (o := .cells #[.slice A0_0 l0_0.length c0_0, .int .i64 a0_1, .slice A0_2 l0_2.length c0_2, .slice A0_3 l0_3.length c0_3, .int .i64 a0_4] 37 (0, 0)) (by (with_reducible repeat (first | refine blk_drewN ?_ _ | refine blk_drew ?_ | refine blk_alloc ?_ _)); exact BK213.out) hb); have n7_ := am (cb_ (by repeat (first | (with_reducible exact HR234_0.out) | (with_reducible refine ca_ ?_ _) | (with_reducible refine cn_ ?_ _) | (with_reducible refine cd_ ?_) | exact HR234_0.out)) hb); have n8_ := am (cb_ (by repeat (first | (with_reducible exact HR239_0.out) | (with_reducible refine ca_ ?_ _) | (with_reducible refine cn_ ?_ _) | (with_reducible refine cd_ ?_) | exact HR239_0.out)) hb); have n9_ := am (below_step (by repeat (first | (with_reducible first | exact HB.out | apply ba_ | apply pn_ | apply b1_ | refine below_set ?_ GE213.out) | exact HB.out)) hb); clear HO_4; clear HO_5; clear HL234_0; clear HO238; clear HL239_0; clear BK213; clear HR234_0; clear HR239_0; clear HB; have HO_4 := n0_; have HO_5 := n1_; have HL234_0 := n2_; have HO238 := n3_; have HL239_0 := n4_; have HO243 := n5_; have BK213 := n6_; have HR234_0 := n7_; have HR239_0 := n8_; have HB := n9_; clear n0_ n1_ n2_ n3_ n4_ n5_ n6_ n7_ n8_ n9_; (try clear hb); (try clear hb2); (try clear hk); (try clear hi); (try clear ho0)))
            replace HO_4 := am (sd_ HO_4.out); replace HO_5 := am (rd_ HO_5.out); replace HL234_0 := am (rd_ HL234_0.out); replace HO238 := am (rd_ HO238.out); replace HL239_0 := am (rd_ HL239_0.out); replace HO243 := am (rd_ HO243.out); replace BK213 := am (blk_drew BK213.out); replace HR234_0 := am (cd_ HR234_0.out); replace HR239_0 := am (cd_ HR239_0.out); replace HB := am (b1_ HB.out)
            have p244 : 0 ≤ (x10_2 : Int) := of_decide_eq_true (by first | (with_reducible assumption) | assumption)
            have q244 : x10_2 < (t215.length : Int) := of_decide_eq_true (by first | (with_reducible assumption) | assumption)
            obtain ⟨ad244, A244_0, c244_0, e244, hx244_0, hl244_0, hi244_0⟩ := at_L1 (sr_ HO_4.out).2.2 x10_2 p244 q244
            obtain rfl : ad234 = ad244 := (by injection e244)
            obtain ⟨ce244, hce244, hMe244, hcc244⟩ := Kd.S_get HO_4.out [] x10_2 p244 (by first | exact q244 | exact of_decide_eq_true (by first | (with_reducible assumption) | assumption) | (have e_ := (sr_ HO_4.out).1; omega))
            obtain ⟨ve244_0, rfl, ge244_0⟩ := hMe244
            have hv244_0 := hcc244 0 _ rfl
            rw [Nat.add_zero, show ((Kd.slice 3 (Kd.int .i64))).sz = 1 from rfl, Nat.mul_one] at hv244_0
            replace hv244_0 := Option.some.inj (hv244_0.symm.trans hx244_0)
            rw [hv244_0] at ge244_0
            have HL244_0 := am (show Kd.R (Kd.int .i64) 3 _ _ _ _ (rd_L1 t215 x10_2) from ge244_0); clear hv244_0 ge244_0 hcc244 hce244; have HR244_0 := am hi244_0; have HC244_0 := am hl244_0; clear hi244_0 hl244_0; replace p244 := eq_true p244; replace q244 := eq_true q244
            refine start_ (n := 13) (S := fun w' => w'.cell? ⟨gb213, 0, none⟩ = some (.slice A0_0 l0_0.length c0_0) ∧ w'.cell? ⟨gb213, 1, none⟩ = some (.int .i64 a0_1) ∧ w'.cell? ⟨gb213, 2, none⟩ = some (.slice A0_2 l0_2.length c0_2) ∧ w'.cell? ⟨gb213, 3, none⟩ = some (.slice A0_3 l0_3.length c0_3) ∧ w'.cell? ⟨gb213, 4, none⟩ = some (.int .i64 a0_4) ∧ w'.cell? (ad234.add (x10_2).toNat) = some (.slice A244_0 (rd_L1 t215 x10_2).length c244_0)) (ds := []) #[F,F,F,F,F,F,F,F,F,F,F,F,F] (by kernel_rfl) rfl rfl ⟨(blk_cell BK213.out 0).trans rfl, (blk_cell BK213.out 1).trans rfl, (blk_cell BK213.out 2).trans rfl, (blk_cell BK213.out 3).trans rfl, (blk_cell BK213.out 4).trans rfl, hx244_0⟩ (fun hHeld => ?_); refine with_tabW proofmarklaw18_PropTells.tab13 proofmarklaw18_PropTells.bits13 (fun HT_ HW_ => ?_)
            generalize w77.drew = w78 at HO_4 HO_5 HL234_0 HO238 HL239_0 HO243 BK213 HR234_0 HR239_0 HB HL244_0 HR244_0 hx244_0 hHeld ⊢
            refine pure_ (i := 0) (N := some 96) (v := ?_) (a' := ?_) #[T,F,F,F,F,F,F,F,F,F,F,F,F] rfl rfl (any_of HT_.out (by kernel_rfl)) (fun _ _ _ h => h) (.inl ⟨by rfl, ?_⟩) ?_ ?_
            rotate_left
            ·intro w'; go_simp; with_reducible rfl
            rotate_left
            ·simp only [Act.put, sb1, sb2, sb3, i64_w, i32_w]; rfl
            refine pure_ (i := 1) (N := some 97) (v := ?_) (a' := ?_) #[T,T,F,F,F,F,F,F,F,F,F,F,F] rfl rfl (any_of HT_.out (by kernel_rfl)) (fun _ _ _ h => h) (.inl ⟨by rfl, ?_⟩) ?_ ?_
            rotate_left
            ·intro w'; go_simp; with_reducible rfl
            rotate_left
            ·simp only [Act.put, sb1, sb2, sb3, i64_w, i32_w]; rfl
            refine pure_ (i := 2) (N := some 98) (v := ?_) (a' := ?_) #[T,T,T,F,F,F,F,F,F,F,F,F,F] rfl rfl (any_of HT_.out (by kernel_rfl)) (fun _ _ _ h => h) (.inl ⟨by rfl, ?_⟩) ?_ ?_
            rotate_left
            ·intro w'; go_simp; with_reducible rfl
            rotate_left
            ·simp only [Act.put, sb1, sb2, sb3, i64_w, i32_w]; rfl
            refine pure_ (i := 4) (N := some 100) (v := ?_) (a' := ?_) #[T,T,T,F,T,F,F,F,F,F,F,F,F] rfl rfl (any_of HT_.out (by kernel_rfl)) (fun _ _ _ h => h) (.inl ⟨by rfl, ?_⟩) ?_ ?_
            rotate_left
            ·intro w'; go_simp; with_reducible rfl
            rotate_left
            ·simp only [Act.put, sb1, sb2, sb3, i64_w, i32_w]; rfl
            refine pure_ (i := 5) (N := some 101) (v := ?_) (a' := ?_) #[T,T,T,F,T,T,F,F,F,F,F,F,F] rfl rfl (any_of HT_.out (by kernel_rfl)) (fun _ _ _ h => h) (.inl ⟨by rfl, ?_⟩) ?_ ?_
            rotate_left
            ·intro w'; go_simp; with_reducible rfl
            rotate_left
            ·simp only [Act.put, sb1, sb2, sb3, i64_w, i32_w]; rfl
            refine take_ (i := 3) (N := some 99) (v := ?_) (a' := ?_) #[T,T,T,T,T,T,F,F,F,F,F,F,F] rfl rfl (take_ofW HT_.out HW_.out (by kernel_rfl)) (fun _ _ _ h => h) (.inl ⟨by rfl, ?_⟩) hHeld ?_ ?_
            rotate_left
            ·rintro w' ⟨s0, s1, s2, s3, s4, s5⟩
             go_simp; with_reducible rfl
            rotate_left
            ·simp only [Act.put, sb1, sb2, sb3, i64_w, i32_w]; rfl
            refine take_ (i := 6) (N := some 102) (v := ?_) (a' := ?_) #[T,T,T,T,T,T,T,F,F,F,F,F,F] rfl rfl (take_ofW HT_.out HW_.out (by kernel_rfl)) (fun _ _ _ h => h) (.inl ⟨by rfl, ?_⟩) hHeld ?_ ?_
            rotate_left
            ·rintro w' ⟨s0, s1, s2, s3, s4, s5⟩
             go_simp; with_reducible rfl
            rotate_left
            ·simp only [Act.put, sb1, sb2, sb3, i64_w, i32_w]; rfl
            refine one_ (i := 7) (N := some 103) #[T,T,T,T,T,T,T,T,F,F,F,F,F] rfl rfl (one_of HT_.out (by kernel_rfl)) (by decide) (fun K hK => ?_)
            refine goes_ Try.func36 (by kernel_rfl) rfl #[.slice A244_0 (rd_L1 t215 x10_2).length c244_0, .slice Ao16 t218.length co16, .int .i64 a0_4] (by rfl) rfl rfl (by (try simp only [ma_, mc_, mn_]); first | done | rfl | (simp only [ld_, lt_]; rfl)) ?_
            with_reducible refine (prop_Resolve.calls _ _ (rd_L1 t215 x10_2) _ _ t218 a0_4 t245 t246 _ ?side1 ?side2 ?side3 ?side4 A46.out).mono ?_
            (case side1 => repeat (first | exact (by repeat (first | (with_reducible exact HR244_0.out) | (with_reducible refine ca_ ?_ _) | (with_reducible refine cn_ ?_ _) | (with_reducible refine cd_ ?_) | exact HR244_0.out)) | (with_reducible refine ca_ ?_ _) | (with_reducible refine cn_ ?_ _) | (with_reducible refine cd_ ?_)))
            (case side2 => exact HC244_0.out)
            (case side3 => repeat (first | exact (Kd.R_reads' HO_5.out).2.2 | (with_reducible refine ca_ ?_ _) | (with_reducible refine cn_ ?_ _) | (with_reducible refine cd_ ?_)))
            (case side4 => exact (Kd.R_reads' HO_5.out).2.1)
            rintro e w79 ⟨v247, rfl, ho0, hb⟩
            have HS5_ := (hb.cell (World.block_lt_of_cell? _ _ (hHeld.2.2.2.2.2))).trans (hHeld.2.2.2.2.2)
            refine ⟨_, rfl, ?_⟩
            have n0_ := am (Kd.S_elder' (by (with_reducible repeat (first | apply sa_ | apply sn_ | apply sd_)); exact HO_4.out) (rb_ ho0) hb)
            have n1_ := am (re_ (by (with_reducible repeat (first | apply ra_ | apply rn_ | apply rd_)); exact HO_5.out) (rb_ ho0) hb)
            have n2_ := am (re_ (by (with_reducible repeat (first | apply ra_ | apply rn_ | apply rd_)); exact HL234_0.out) (rb_ ho0) hb)
            have n3_ := am (re_ (by (with_reducible repeat (first | apply ra_ | apply rn_ | apply rd_)); exact HO238.out) (rb_ ho0) hb)
            have n4_ := am (re_ (by (with_reducible repeat (first | apply ra_ | apply rn_ | apply rd_)); exact HL239_0.out) (rb_ ho0) hb)
            have n5_ := am (re_ (by (with_reducible repeat (first | apply ra_ | apply rn_ | apply rd_)); exact HO243.out) (rb_ ho0) hb)
            have n6_ := am (re_ (by (with_reducible repeat (first | apply ra_ | apply rn_ | apply rd_)); exact HL244_0.out) (rb_ ho0) hb)
            have n7_ := am (Kd.R_lower (rw_ (rw_ (rw_ (rw_ (rw_ (rw_ ho0 (Kd.R_lt (by (with_reducible repeat (first | apply ra_ | apply rn_ | apply rd_)); exact HO_5.out))) (Kd.R_lt (by (with_reducible repeat (first | apply ra_ | apply rn_ | apply rd_)); exact HL234_0.out))) (Kd.R_lt (by (with_reducible repeat (first | apply ra_ | apply rn_ | apply rd_)); exact HO238.out))) (Kd.R_lt (by (with_reducible repeat (first | apply ra_ | apply rn_ | apply rd_)); exact HL239_0.out))) (Kd.R_lt (by (with_reducible repeat (first | apply ra_ | apply rn_ | apply rd_)); exact HO243.out))) (Kd.R_lt (by (with_reducible repeat (first | apply ra_ | apply rn_ | apply rd_)); exact HL244_0.out))) (below_size (by repeat (first | (with_reducible first | exact HB.out | apply ba_ | apply pn_ | apply b1_ | refine below_set ?_ GE213.out) | exact HB.out))))
            have n8_ := am (blk_below (g := gb213) (o := .cells #[.slice A0_0 l0_0.length c0_0, .int .i64 a0_1, .slice A0_2 l0_2.length c0_2, .slice A0_3 l0_3.length c0_3, .int .i64 a0_4] 37 (0, 0)) (by (with_reducible repeat (first | refine blk_drewN ?_ _ | refine blk_drew ?_ | refine blk_alloc ?_ _)); exact BK213.out) hb)
            have n9_ := am (cb_ (by repeat (first | (with_reducible exact HR234_0.out) | (with_reducible refine ca_ ?_ _) | (with_reducible refine cn_ ?_ _) | (with_reducible refine cd_ ?_) | exact HR234_0.out)) hb); have n10_ := am (cb_ (by repeat (first | (with_reducible exact HR239_0.out) | (with_reducible refine ca_ ?_ _) | (with_reducible refine cn_ ?_ _) | (with_reducible refine cd_ ?_) | exact HR239_0.out)) hb); have n11_ := am (cb_ (by repeat (first | (with_reducible exact HR244_0.out) | (with_reducible refine ca_ ?_ _) | (with_reducible refine cn_ ?_ _) | (with_reducible refine cd_ ?_) | exact HR244_0.out)) hb); have n12_ := am (below_step (by repeat (first | (with_reducible first | exact HB.out | apply ba_ | apply pn_ | apply b1_ | refine below_set ?_ GE213.out) | exact HB.out)) hb); clear HO_4 HO_5 HL234_0 HO238 HL239_0 HO243 HL244_0 BK213 HR234_0 HR239_0 HR244_0 HB; have HO_4 := n0_; have HO_5 := n1_; have HL234_0 := n2_; have HO238 := n3_; have HL239_0 := n4_; have HO243 := n5_; have HL244_0 := n6_; have HO248 := n7_; have BK213 := n8_; have HR234_0 := n9_; have HR239_0 := n10_; have HR244_0 := n11_; have HB := n12_; clear n0_ n1_ n2_ n3_ n4_ n5_ n6_ n7_ n8_ n9_ n10_ n11_ n12_
            (try clear hb)
            (try clear hb2)
            (try clear hk)
            (try clear hi)
            (try clear ho0)
            refine hK.out _ _ ⟨(blk_cell BK213.out 0).trans rfl, (blk_cell BK213.out 1).trans rfl, (blk_cell BK213.out 2).trans rfl, (blk_cell BK213.out 3).trans rfl, (blk_cell BK213.out 4).trans rfl, HS5_⟩ (fun hHeld => ?_)
            clear hK K
            refine norm_ (a' := ?_) ?_ ?_
            rotate_left
            ·show Act.put _ (some 103) _ = _
             simp only [Act.put, sb1, sb2, sb3, i64_w, i32_w]; rfl
            refine pure_ (i := 8) (N := some 95) (v := ?_) (a' := ?_) #[T,T,T,T,T,T,T,T,T,F,F,F,F] rfl rfl (any_of HT_.out (by kernel_rfl)) (fun _ _ _ h => h) (.inl ⟨by rfl, ?_⟩) ?_ ?_
            rotate_left
            ·intro w'; go_simp; with_reducible rfl
            rotate_left
            ·simp only [Act.put, sb1, sb2, sb3, i64_w, i32_w]; rfl
            refine pure_ (i := 9) (N := some 104) (v := ?_) (a' := ?_) #[T,T,T,T,T,T,T,T,T,T,F,F,F] rfl rfl (any_of HT_.out (by kernel_rfl)) (fun _ _ _ h => h) (.inl ⟨by rfl, ?_⟩) ?_ ?_
            rotate_left
            ·intro w'; go_simp; with_reducible rfl
            rotate_left
            ·simp only [Act.put, sb1, sb2, sb3, i64_w, i32_w]; rfl
            refine pure_ (i := 10) (N := some 105) (v := ?_) (a' := ?_) #[T,T,T,T,T,T,T,T,T,T,T,F,F] rfl rfl (any_of HT_.out (by kernel_rfl)) (fun _ _ _ h => h) (.inl ⟨by rfl, ?_⟩) ?_ ?_
            rotate_left
            ·intro w'; go_simp; with_reducible rfl
            rotate_left
            ·simp only [Act.put, sb1, sb2, sb3, i64_w, i32_w]; rfl
            refine pure_ (i := 11) (N := some 15) (v := ?_) (a' := ?_) #[T,T,T,T,T,T,T,T,T,T,T,T,F] rfl rfl (any_of HT_.out (by kernel_rfl)) (fun _ _ _ h => h) (.inl ⟨by rfl, ?_⟩) ?_ ?_
            rotate_left
            ·intro w'; go_simp; with_reducible rfl
            rotate_left
            ·simp only [Act.put, sb1, sb2, sb3, i64_w, i32_w]; rfl
            refine pure_ (i := 12) (N := some 16) (v := ?_) (a' := ?_) #[T,T,T,T,T,T,T,T,T,T,T,T,T] rfl rfl (any_of HT_.out (by kernel_rfl)) (fun _ _ _ h => h) (.inl ⟨by rfl, ?_⟩) ?_ ?_
            rotate_left
            ·intro w'; go_simp; with_reducible rfl
            rotate_left
            ·simp only [Act.put, sb1, sb2, sb3, i64_w, i32_w]; rfl
            refine done_ (done_of HT_.out (by kernel_rfl)) ?_
            try go_wp2; replace HO_4 := am (sd_ HO_4.out); replace HO_5 := am (rd_ HO_5.out); replace HL234_0 := am (rd_ HL234_0.out); replace HO238 := am (rd_ HO238.out); replace HL239_0 := am (rd_ HL239_0.out); replace HO243 := am (rd_ HO243.out); replace HL244_0 := am (rd_ HL244_0.out); replace HO248 := am (rd_ HO248.out); replace BK213 := am (blk_drew BK213.out); replace HR234_0 := am (cd_ HR234_0.out); replace HR239_0 := am (cd_ HR239_0.out); replace HR244_0 := am (cd_ HR244_0.out); replace HB := am (b1_ HB.out)
            have p249 : 0 ≤ (x10_2 : Int) := of_decide_eq_true (by first | (with_reducible assumption) | assumption)
            have q249 : x10_2 < (t215.length : Int) := of_decide_eq_true (by first | (with_reducible assumption) | assumption)
            obtain ⟨ad249, A249_0, c249_0, e249, hx249_0, hl249_0, hi249_0⟩ := at_L1 (sr_ HO_4.out).2.2 x10_2 p249 q249
            obtain rfl : ad234 = ad249 := (by injection e249)
            obtain ⟨ce249, hce249, hMe249, hcc249⟩ := Kd.S_get HO_4.out [] x10_2 p249 (by first | exact q249 | exact of_decide_eq_true (by first | (with_reducible assumption) | assumption) | (have e_ := (sr_ HO_4.out).1; omega))
            obtain ⟨ve249_0, rfl, ge249_0⟩ := hMe249
            have hv249_0 := hcc249 0 _ rfl
            rw [Nat.add_zero, show ((Kd.slice 3 (Kd.int .i64))).sz = 1 from rfl, Nat.mul_one] at hv249_0
            replace hv249_0 := Option.some.inj (hv249_0.symm.trans hx249_0)
            rw [hv249_0] at ge249_0
            have HL249_0 := am (show Kd.R (Kd.int .i64) 3 _ _ _ _ (rd_L1 t215 x10_2) from ge249_0); clear hv249_0 ge249_0 hcc249 hce249; have HR249_0 := am hi249_0; have HC249_0 := am hl249_0; clear hi249_0 hl249_0; replace p249 := eq_true p249; replace q249 := eq_true q249
            refine start_ (n := 13) (S := fun w' => w'.cell? ⟨gb213, 0, none⟩ = some (.slice A0_0 l0_0.length c0_0) ∧ w'.cell? ⟨gb213, 1, none⟩ = some (.int .i64 a0_1) ∧ w'.cell? ⟨gb213, 2, none⟩ = some (.slice A0_2 l0_2.length c0_2) ∧ w'.cell? ⟨gb213, 3, none⟩ = some (.slice A0_3 l0_3.length c0_3) ∧ w'.cell? ⟨gb213, 4, none⟩ = some (.int .i64 a0_4) ∧ w'.cell? (ad234.add (x10_2).toNat) = some (.slice A249_0 (rd_L1 t215 x10_2).length c249_0)) (ds := []) #[F,F,F,F,F,F,F,F,F,F,F,F,F] (by kernel_rfl) rfl rfl ⟨(blk_cell BK213.out 0).trans rfl, (blk_cell BK213.out 1).trans rfl, (blk_cell BK213.out 2).trans rfl, (blk_cell BK213.out 3).trans rfl, (blk_cell BK213.out 4).trans rfl, hx249_0⟩ (fun hHeld => ?_); refine with_tabW proofmarklaw18_PropTells.tab14 proofmarklaw18_PropTells.bits14 (fun HT_ HW_ => ?_)
            generalize w79.drew = w80 at HO_4 HO_5 HL234_0 HO238 HL239_0 HO243 HL244_0 HO248 BK213 HR234_0 HR239_0 HR244_0 HB HL249_0 HR249_0 hx249_0 hHeld ⊢
            refine pure_ (i := 0) (N := some 107) (v := ?_) (a' := ?_) #[T,F,F,F,F,F,F,F,F,F,F,F,F] rfl rfl (any_of HT_.out (by kernel_rfl)) (fun _ _ _ h => h) (.inl ⟨by rfl, ?_⟩) ?_ ?_
            rotate_left
            ·intro w'; go_simp; with_reducible rfl
            rotate_left
            ·simp only [Act.put, sb1, sb2, sb3, i64_w, i32_w]; rfl
            refine pure_ (i := 1) (N := some 108) (v := ?_) (a' := ?_) #[T,T,F,F,F,F,F,F,F,F,F,F,F] rfl rfl (any_of HT_.out (by kernel_rfl)) (fun _ _ _ h => h) (.inl ⟨by rfl, ?_⟩) ?_ ?_
            rotate_left
            ·intro w'; go_simp; with_reducible rfl
            rotate_left
            ·simp only [Act.put, sb1, sb2, sb3, i64_w, i32_w]; rfl
            refine pure_ (i := 2) (N := some 109) (v := ?_) (a' := ?_) #[T,T,T,F,F,F,F,F,F,F,F,F,F] rfl rfl (any_of HT_.out (by kernel_rfl)) (fun _ _ _ h => h) (.inl ⟨by rfl, ?_⟩) ?_ ?_
            rotate_left
            ·intro w'; go_simp; with_reducible rfl
            rotate_left
            ·simp only [Act.put, sb1, sb2, sb3, i64_w, i32_w]; rfl
            refine pure_ (i := 4) (N := some 111) (v := ?_) (a' := ?_) #[T,T,T,F,T,F,F,F,F,F,F,F,F] rfl rfl (any_of HT_.out (by kernel_rfl)) (fun _ _ _ h => h) (.inl ⟨by rfl, ?_⟩) ?_ ?_
            rotate_left
            ·intro w'; go_simp; with_reducible rfl
            rotate_left
            ·simp only [Act.put, sb1, sb2, sb3, i64_w, i32_w]; rfl
            refine pure_ (i := 5) (N := some 112) (v := ?_) (a' := ?_) #[T,T,T,F,T,T,F,F,F,F,F,F,F] rfl rfl (any_of HT_.out (by kernel_rfl)) (fun _ _ _ h => h) (.inl ⟨by rfl, ?_⟩) ?_ ?_
            rotate_left
            ·intro w'; go_simp; with_reducible rfl
            rotate_left
            ·simp only [Act.put, sb1, sb2, sb3, i64_w, i32_w]; rfl
            refine take_ (i := 3) (N := some 110) (v := ?_) (a' := ?_) #[T,T,T,T,T,T,F,F,F,F,F,F,F] rfl rfl (take_ofW HT_.out HW_.out (by kernel_rfl)) (fun _ _ _ h => h) (.inl ⟨by rfl, ?_⟩) hHeld ?_ ?_
            rotate_left
            ·rintro w' ⟨s0, s1, s2, s3, s4, s5⟩
             go_simp; with_reducible rfl
            rotate_left
            ·simp only [Act.put, sb1, sb2, sb3, i64_w, i32_w]; rfl
            refine take_ (i := 6) (N := some 113) (v := ?_) (a' := ?_) #[T,T,T,T,T,T,T,F,F,F,F,F,F] rfl rfl (take_ofW HT_.out HW_.out (by kernel_rfl)) (fun _ _ _ h => h) (.inl ⟨by rfl, ?_⟩) hHeld ?_ ?_
            rotate_left
            ·rintro w' ⟨s0, s1, s2, s3, s4, s5⟩
             go_simp; with_reducible rfl
            rotate_left
            ·simp only [Act.put, sb1, sb2, sb3, i64_w, i32_w]; rfl
            refine one_ (i := 7) (N := some 114) #[T,T,T,T,T,T,T,T,F,F,F,F,F] rfl rfl (one_of HT_.out (by kernel_rfl)) (by decide) (fun K hK => ?_)
            refine goes_ Try.func37 (by kernel_rfl) rfl #[.slice A249_0 (rd_L1 t215 x10_2).length c249_0, .slice Ao16 t218.length co16, .int .i64 a0_4] (by rfl) rfl rfl (by (try simp only [ma_, mc_, mn_]); first | done | rfl | (simp only [ld_, lt_]; rfl)) ?_
            with_reducible refine (proofmarkref18_Resolve.calls k2 _ _ (rd_L1 t215 x10_2) _ _ t218 a0_4 t250 t251 _ ?side1 ?side2 ?side3 ?side4 A47.out).mono ?_
            (case side1 => repeat (first | exact (by repeat (first | (with_reducible exact HR249_0.out) | (with_reducible refine ca_ ?_ _) | (with_reducible refine cn_ ?_ _) | (with_reducible refine cd_ ?_) | exact HR249_0.out)) | (with_reducible refine ca_ ?_ _) | (with_reducible refine cn_ ?_ _) | (with_reducible refine cd_ ?_)))
            (case side2 => exact HC249_0.out)
            (case side3 => repeat (first | exact (Kd.R_reads' HO_5.out).2.2 | (with_reducible refine ca_ ?_ _) | (with_reducible refine cn_ ?_ _) | (with_reducible refine cd_ ?_)))
            (case side4 => exact (Kd.R_reads' HO_5.out).2.1)
            rintro e w81 ⟨v252, rfl, ho0, hb⟩
            have HS5_ := (hb.cell (World.block_lt_of_cell? _ _ (hHeld.2.2.2.2.2))).trans (hHeld.2.2.2.2.2)
            refine ⟨_, rfl, ?_⟩
            have n0_ := am (Kd.S_elder' (by (with_reducible repeat (first | apply sa_ | apply sn_ | apply sd_)); exact HO_4.out) (rb_ ho0) hb)
            have n1_ := am (re_ (by (with_reducible repeat (first | apply ra_ | apply rn_ | apply rd_)); exact HO_5.out) (rb_ ho0) hb)
            have n2_ := am (re_ (by (with_reducible repeat (first | apply ra_ | apply rn_ | apply rd_)); exact HL234_0.out) (rb_ ho0) hb)
            have n3_ := am (re_ (by (with_reducible repeat (first | apply ra_ | apply rn_ | apply rd_)); exact HO238.out) (rb_ ho0) hb)
            have n4_ := am (re_ (by (with_reducible repeat (first | apply ra_ | apply rn_ | apply rd_)); exact HL239_0.out) (rb_ ho0) hb)
            have n5_ := am (re_ (by (with_reducible repeat (first | apply ra_ | apply rn_ | apply rd_)); exact HO243.out) (rb_ ho0) hb)
            have n6_ := am (re_ (by (with_reducible repeat (first | apply ra_ | apply rn_ | apply rd_)); exact HL244_0.out) (rb_ ho0) hb)
            have n7_ := am (re_ (by (with_reducible repeat (first | apply ra_ | apply rn_ | apply rd_)); exact HO248.out) (rb_ ho0) hb)
            have n8_ := am (re_ (by (with_reducible repeat (first | apply ra_ | apply rn_ | apply rd_)); exact HL249_0.out) (rb_ ho0) hb)
            have n9_ := am (Kd.R_lower (rw_ (rw_ (rw_ (rw_ (rw_ (rw_ (rw_ (rw_ ho0 (Kd.R_lt (by (with_reducible repeat (first | apply ra_ | apply rn_ | apply rd_)); exact HO_5.out))) (Kd.R_lt (by (with_reducible repeat (first | apply ra_ | apply rn_ | apply rd_)); exact HL234_0.out))) (Kd.R_lt (by (with_reducible repeat (first | apply ra_ | apply rn_ | apply rd_)); exact HO238.out))) (Kd.R_lt (by (with_reducible repeat (first | apply ra_ | apply rn_ | apply rd_)); exact HL239_0.out))) (Kd.R_lt (by (with_reducible repeat (first | apply ra_ | apply rn_ | apply rd_)); exact HO243.out))) (Kd.R_lt (by (with_reducible repeat (first | apply ra_ | apply rn_ | apply rd_)); exact HL244_0.out))) (Kd.R_lt (by (with_reducible repeat (first | apply ra_ | apply rn_ | apply rd_)); exact HO248.out))) (Kd.R_lt (by (with_reducible repeat (first | apply ra_ | apply rn_ | apply rd_)); exact HL249_0.out))) (below_size (by repeat (first | (with_reducible first | exact HB.out | apply ba_ | apply pn_ | apply b1_ | refine below_set ?_ GE213.out) | exact HB.out))))
            have n10_ := am (blk_below (g := gb213) (o := .cells #[.slice A0_0 l0_0.length c0_0, .int .i64 a0_1, .slice A0_2 l0_2.length c0_2, .slice A0_3 l0_3.length c0_3, .int .i64 a0_4] 37 (0, 0)) (by (with_reducible repeat (first | refine blk_drewN ?_ _ | refine blk_drew ?_ | refine blk_alloc ?_ _)); exact BK213.out) hb)
            have n11_ := am (cb_ (by repeat (first | (with_reducible exact HR234_0.out) | (with_reducible refine ca_ ?_ _) | (with_reducible refine cn_ ?_ _) | (with_reducible refine cd_ ?_) | exact HR234_0.out)) hb); have n12_ := am (cb_ (by repeat (first | (with_reducible exact HR239_0.out) | (with_reducible refine ca_ ?_ _) | (with_reducible refine cn_ ?_ _) | (with_reducible refine cd_ ?_) | exact HR239_0.out)) hb); have n13_ := am (cb_ (by repeat (first | (with_reducible exact HR244_0.out) | (with_reducible refine ca_ ?_ _) | (with_reducible refine cn_ ?_ _) | (with_reducible refine cd_ ?_) | exact HR244_0.out)) hb); have n14_ := am (cb_ (by repeat (first | (with_reducible exact HR249_0.out) | (with_reducible refine ca_ ?_ _) | (with_reducible refine cn_ ?_ _) | (with_reducible refine cd_ ?_) | exact HR249_0.out)) hb); have n15_ := am (below_step (by repeat (first | (with_reducible first | exact HB.out | apply ba_ | apply pn_ | apply b1_ | refine below_set ?_ GE213.out) | exact HB.out)) hb); clear HO_4 HO_5 HL234_0 HO238 HL239_0 HO243 HL244_0 HO248 HL249_0 BK213 HR234_0 HR239_0 HR244_0 HR249_0 HB; have HO_4 := n0_; have HO_5 := n1_; have HL234_0 := n2_; have HO238 := n3_; have HL239_0 := n4_; have HO243 := n5_; have HL244_0 := n6_; have HO248 := n7_; have HL249_0 := n8_; have HO253 := n9_; have BK213 := n10_; have HR234_0 := n11_; have HR239_0 := n12_; have HR244_0 := n13_; have HR249_0 := n14_; have HB := n15_; clear n0_ n1_ n2_ n3_ n4_ n5_ n6_ n7_ n8_ n9_ n10_ n11_ n12_ n13_ n14_ n15_
            (try clear hb)
            (try clear hb2)
            (try clear hk)
            (try clear hi)
            (try clear ho0)
            refine hK.out _ _ ⟨(blk_cell BK213.out 0).trans rfl, (blk_cell BK213.out 1).trans rfl, (blk_cell BK213.out 2).trans rfl, (blk_cell BK213.out 3).trans rfl, (blk_cell BK213.out 4).trans rfl, HS5_⟩ (fun hHeld => ?_)
            clear hK K
            refine norm_ (a' := ?_) ?_ ?_
            rotate_left
            ·show Act.put _ (some 114) _ = _
             simp only [Act.put, sb1, sb2, sb3, i64_w, i32_w]; rfl
            refine pure_ (i := 8) (N := some 106) (v := ?_) (a' := ?_) #[T,T,T,T,T,T,T,T,T,F,F,F,F] rfl rfl (any_of HT_.out (by kernel_rfl)) (fun _ _ _ h => h) (.inl ⟨by rfl, ?_⟩) ?_ ?_
            rotate_left
            ·intro w'; go_simp; with_reducible rfl
            rotate_left
            ·simp only [Act.put, sb1, sb2, sb3, i64_w, i32_w]; rfl
            refine pure_ (i := 9) (N := some 115) (v := ?_) (a' := ?_) #[T,T,T,T,T,T,T,T,T,T,F,F,F] rfl rfl (any_of HT_.out (by kernel_rfl)) (fun _ _ _ h => h) (.inl ⟨by rfl, ?_⟩) ?_ ?_
            rotate_left
            ·intro w'; go_simp; with_reducible rfl
            rotate_left
            ·simp only [Act.put, sb1, sb2, sb3, i64_w, i32_w]; rfl
            refine pure_ (i := 10) (N := some 116) (v := ?_) (a' := ?_) #[T,T,T,T,T,T,T,T,T,T,T,F,F] rfl rfl (any_of HT_.out (by kernel_rfl)) (fun _ _ _ h => h) (.inl ⟨by rfl, ?_⟩) ?_ ?_
            rotate_left
            ·intro w'; go_simp; with_reducible rfl
            rotate_left
            ·simp only [Act.put, sb1, sb2, sb3, i64_w, i32_w]; rfl
            refine pure_ (i := 11) (N := some 17) (v := ?_) (a' := ?_) #[T,T,T,T,T,T,T,T,T,T,T,T,F] rfl rfl (any_of HT_.out (by kernel_rfl)) (fun _ _ _ h => h) (.inl ⟨by rfl, ?_⟩) ?_ ?_
            rotate_left
            ·intro w'; go_simp; with_reducible rfl
            rotate_left
            ·simp only [Act.put, sb1, sb2, sb3, i64_w, i32_w]; rfl
            refine pure_ (i := 12) (N := some 18) (v := ?_) (a' := ?_) #[T,T,T,T,T,T,T,T,T,T,T,T,T] rfl rfl (any_of HT_.out (by kernel_rfl)) (fun _ _ _ h => h) (.inl ⟨by rfl, ?_⟩) ?_ ?_
            rotate_left
            ·intro w'; go_simp; with_reducible rfl
            rotate_left
            ·simp only [Act.put, sb1, sb2, sb3, i64_w, i32_w]; rfl
            refine done_ (done_of HT_.out (by kernel_rfl)) ?_
            obtain ⟨Ao82, co82, eo82⟩ := Kd.R_slice HO238.out
            subst eo82
            obtain ⟨Ao83, co83, eo83⟩ := Kd.R_slice HO243.out
            subst eo83
            try go_wp2_with (first | (go_at_call 33; (with_reducible refine (proofmarkref18_Same.calls k2 _ _ t235 _ _ t240 true _ ?side1 ?side2 ?side3 ?side4 A62.out).mono ?_); (case side1 => repeat (first | exact (Kd.R_reads' HO238.out).2.2 | (with_reducible refine ca_ ?_ _) | (with_reducible refine cn_ ?_ _) | (with_reducible refine cd_ ?_))); (case side2 => exact (Kd.R_reads' HO238.out).2.1); (case side3 => repeat (first | exact (Kd.R_reads' HO243.out).2.2 | (with_reducible refine ca_ ?_ _) | (with_reducible refine cn_ ?_ _) | (with_reducible refine cd_ ?_))); (case side4 => exact (Kd.R_reads' HO243.out).2.1); rintro e w' ⟨rfl, ⟨nd, rfl⟩⟩; obtain ⟨Ao84, co84, eo84⟩ := Kd.R_slice HO248.out; subst eo84; obtain ⟨Ao85, co85, eo85⟩ := Kd.R_slice HO253.out; subst eo85) | (go_at_call 33; (with_reducible refine (proofmarkref18_Same.calls k2 _ _ t245 _ _ t250 false _ ?side1 ?side2 ?side3 ?side4 A64.out).mono ?_); (case side1 => repeat (first | exact (Kd.R_reads' HO248.out).2.2 | (with_reducible refine ca_ ?_ _) | (with_reducible refine cn_ ?_ _) | (with_reducible refine cd_ ?_))); (case side2 => exact (Kd.R_reads' HO248.out).2.1); (case side3 => repeat (first | exact (Kd.R_reads' HO253.out).2.2 | (with_reducible refine ca_ ?_ _) | (with_reducible refine cn_ ?_ _) | (with_reducible refine cd_ ?_))); (case side4 => exact (Kd.R_reads' HO253.out).2.1); rintro e w' ⟨rfl, ⟨nd, rfl⟩⟩))
            go_ret
            exact ⟨by first | rfl | (simp [errW_none, errW_some] <;> rfl) | (simp [*, errW_none, errW_some] <;> rfl), by repeat (first | (with_reducible first | exact HB.out | apply ba_ | apply pn_ | apply b1_ | refine below_set ?_ GE213.out) | exact HB.out)⟩
          ·replace c63 := Bool.eq_false_iff.mpr c63; subst c63
           have H1 : (some false) = some r := by rw [if_neg (show ¬ (false = true) by decide)] at H; exact H
           clear H; have H := H1; clear H1
           obtain rfl := Option.some.inj H
           have p234 : 0 ≤ (x10_2 : Int) := of_decide_eq_true (by first | (with_reducible assumption) | assumption)
           have q234 : x10_2 < (t215.length : Int) := of_decide_eq_true (by first | (with_reducible assumption) | assumption)
           obtain ⟨ad234, A234_0, c234_0, e234, hx234_0, hl234_0, hi234_0⟩ := at_L1 (sr_ HO_4.out).2.2 x10_2 p234 q234
           cases e234
           obtain ⟨ce234, hce234, hMe234, hcc234⟩ := Kd.S_get HO_4.out [] x10_2 p234 (by first | exact q234 | exact of_decide_eq_true (by first | (with_reducible assumption) | assumption) | (have e_ := (sr_ HO_4.out).1; omega))
           obtain ⟨ve234_0, rfl, ge234_0⟩ := hMe234
           have hv234_0 := hcc234 0 _ rfl
           rw [Nat.add_zero, show ((Kd.slice 3 (Kd.int .i64))).sz = 1 from rfl, Nat.mul_one] at hv234_0
           replace hv234_0 := Option.some.inj (hv234_0.symm.trans hx234_0)
           rw [hv234_0] at ge234_0
           have HL234_0 := am (show Kd.R (Kd.int .i64) 3 _ _ _ _ (rd_L1 t215 x10_2) from ge234_0); clear hv234_0 ge234_0 hcc234 hce234; have HR234_0 := am hi234_0; have HC234_0 := am hl234_0; clear hi234_0 hl234_0; replace p234 := eq_true p234; replace q234 := eq_true q234
           try go_wp2_with (first | ((with_reducible refine gate_callee (f := 34) rfl ?_); refine goesL_ (some 84) rfl rfl Try.func34 (by kernel_rfl) rfl #[.slice A234_0 (rd_L1 t215 x10_2).length c234_0] rfl (by (try simp only [ma_, mc_, mn_]); first | done | rfl | (simp only [ld_, lt_]; rfl)) ?_; (with_reducible refine (prop_Norm.calls _ _ (rd_L1 t215 x10_2) t235 t236 _ ?side1 ?side2 A44.out).mono ?_); (case side1 => repeat (first | exact (by repeat (first | (with_reducible exact HR234_0.out) | (with_reducible refine ca_ ?_ _) | (with_reducible refine cn_ ?_ _) | (with_reducible refine cd_ ?_) | exact HR234_0.out)) | (with_reducible refine ca_ ?_ _) | (with_reducible refine cn_ ?_ _) | (with_reducible refine cd_ ?_))); (case side2 => exact HC234_0.out); rintro e w86 ⟨v237, rfl, ho0, hb⟩; refine ⟨_, rfl, ?_⟩; have n0_ := am (Kd.S_elder' (by (with_reducible repeat (first | apply sa_ | apply sn_ | apply sd_)); exact HO_4.out) (rb_ ho0) hb); have n1_ := am (re_ (by (with_reducible repeat (first | apply ra_ | apply rn_ | apply rd_)); exact HO_5.out) (rb_ ho0) hb); have n2_ := am (re_ (by (with_reducible repeat (first | apply ra_ | apply rn_ | apply rd_)); exact HL234_0.out) (rb_ ho0) hb); have n3_ := am (Kd.R_lower (rw_ (rw_ ho0 (Kd.R_lt (by (with_reducible repeat (first | apply ra_ | apply rn_ | apply rd_)); exact HO_5.out))) (Kd.R_lt (by (with_reducible repeat (first | apply ra_ | apply rn_ | apply rd_)); exact HL234_0.out))) (below_size (by repeat (first | (with_reducible first | exact HB.out | apply ba_ | apply pn_ | apply b1_ | refine below_set ?_ GE213.out) | exact HB.out)))); have n4_ := am (blk_below (g := gb213) (o := .cells #[.slice A0_0 l0_0.length c0_0, .int .i64 a0_1, .slice A0_2 l0_2.length c0_2, .slice A0_3 l0_3.length c0_3, .int .i64 a0_4] 37 (0, 0)) (by (with_reducible repeat (first | refine blk_drewN ?_ _ | refine blk_drew ?_ | refine blk_alloc ?_ _)); exact BK213.out) hb); have n5_ := am (cb_ (by repeat (first | (with_reducible exact HR234_0.out) | (with_reducible refine ca_ ?_ _) | (with_reducible refine cn_ ?_ _) | (with_reducible refine cd_ ?_) | exact HR234_0.out)) hb); have n6_ := am (below_step (by repeat (first | (with_reducible first | exact HB.out | apply ba_ | apply pn_ | apply b1_ | refine below_set ?_ GE213.out) | exact HB.out)) hb); clear HO_4; clear HO_5; clear HL234_0; clear BK213; clear HR234_0; clear HB; have HO_4 := n0_; have HO_5 := n1_; have HL234_0 := n2_; have HO238 := n3_; have BK213 := n4_; have HR234_0 := n5_; have HB := n6_; clear n0_ n1_ n2_ n3_ n4_ n5_ n6_; (try clear hb); (try clear hb2); (try clear hk); (try clear hi); (try clear ho0); have p239 : 0 ≤ (x10_2 : Int) := of_decide_eq_true (by first | (with_reducible assumption) | assumption); have q239 : x10_2 < (t215.length : Int) := of_decide_eq_true (by first | (with_reducible assumption) | assumption); obtain ⟨ad239, A239_0, c239_0, e239, hx239_0, hl239_0, hi239_0⟩ := at_L1 (sr_ HO_4.out).2.2 x10_2 p239 q239; obtain rfl : ad234 = ad239 := (by injection e239); obtain ⟨ce239, hce239, hMe239, hcc239⟩ := Kd.S_get HO_4.out [] x10_2 p239 (by first | exact q239 | exact of_decide_eq_true (by first | (with_reducible assumption) | assumption) | (have e_ := (sr_ HO_4.out).1; omega)); obtain ⟨ve239_0, rfl, ge239_0⟩ := hMe239; have hv239_0 := hcc239 0 _ rfl; rw [Nat.add_zero, show ((Kd.slice 3 (Kd.int .i64))).sz = 1 from rfl, Nat.mul_one] at hv239_0; replace hv239_0 := Option.some.inj (hv239_0.symm.trans hx239_0); rw [hv239_0] at ge239_0; have HL239_0 := am (show Kd.R (Kd.int .i64) 3 _ _ _ _ (rd_L1 t215 x10_2) from ge239_0); clear hv239_0 ge239_0; clear hcc239 hce239; have HR239_0 := am hi239_0; have HC239_0 := am hl239_0; clear hi239_0 hl239_0; replace p239 := eq_true p239; replace q239 := eq_true q239) | ((with_reducible refine gate_callee (f := 35) rfl ?_); refine goesL_ (some 92) rfl rfl Try.func35 (by kernel_rfl) rfl #[.slice A239_0 (rd_L1 t215 x10_2).length c239_0] rfl (by (try simp only [ma_, mc_, mn_]); first | done | rfl | (simp only [ld_, lt_]; rfl)) ?_; (with_reducible refine (proofmarkref18_Norm.calls k2 _ _ (rd_L1 t215 x10_2) t240 t241 _ ?side1 ?side2 A45.out).mono ?_); (case side1 => repeat (first | exact (by repeat (first | (with_reducible exact HR239_0.out) | (with_reducible refine ca_ ?_ _) | (with_reducible refine cn_ ?_ _) | (with_reducible refine cd_ ?_) | exact HR239_0.out)) | (with_reducible refine ca_ ?_ _) | (with_reducible refine cn_ ?_ _) | (with_reducible refine cd_ ?_))); (case side2 => exact HC239_0.out); rintro e w87 ⟨v242, rfl, ho0, hb⟩; refine ⟨_, rfl, ?_⟩; have n0_ := am (Kd.S_elder' (by (with_reducible repeat (first | apply sa_ | apply sn_ | apply sd_)); exact HO_4.out) (rb_ ho0) hb); have n1_ := am (re_ (by (with_reducible repeat (first | apply ra_ | apply rn_ | apply rd_)); exact HO_5.out) (rb_ ho0) hb); have n2_ := am (re_ (by (with_reducible repeat (first | apply ra_ | apply rn_ | apply rd_)); exact HL234_0.out) (rb_ ho0) hb); have n3_ := am (re_ (by (with_reducible repeat (first | apply ra_ | apply rn_ | apply rd_)); exact HO238.out) (rb_ ho0) hb); have n4_ := am (re_ (by (with_reducible repeat (first | apply ra_ | apply rn_ | apply rd_)); exact HL239_0.out) (rb_ ho0) hb); have n5_ := am (Kd.R_lower (rw_ (rw_ (rw_ (rw_ ho0 (Kd.R_lt (by (with_reducible repeat (first | apply ra_ | apply rn_ | apply rd_)); exact HO_5.out))) (Kd.R_lt (by (with_reducible repeat (first | apply ra_ | apply rn_ | apply rd_)); exact HL234_0.out))) (Kd.R_lt (by (with_reducible repeat (first | apply ra_ | apply rn_ | apply rd_)); exact HO238.out))) (Kd.R_lt (by (with_reducible repeat (first | apply ra_ | apply rn_ | apply rd_)); exact HL239_0.out))) (below_size (by repeat (first | (with_reducible first | exact HB.out | apply ba_ | apply pn_ | apply b1_ | refine below_set ?_ GE213.out) | exact HB.out)))); have n6_ := am (blk_below (g := gb213) (o := .cells #[.slice A0_0 l0_0.length c0_0, .int .i64 a0_1, .slice A0_2 l0_2.length c0_2, .slice A0_3 l0_3.length c0_3, .int .i64 a0_4] 37 (0, 0)) (by (with_reducible repeat (first | refine blk_drewN ?_ _ | refine blk_drew ?_ | refine blk_alloc ?_ _)); exact BK213.out) hb); have n7_ := am (cb_ (by repeat (first | (with_reducible exact HR234_0.out) | (with_reducible refine ca_ ?_ _) | (with_reducible refine cn_ ?_ _) | (with_reducible refine cd_ ?_) | exact HR234_0.out)) hb); have n8_ := am (cb_ (by repeat (first | (with_reducible exact HR239_0.out) | (with_reducible refine ca_ ?_ _) | (with_reducible refine cn_ ?_ _) | (with_reducible refine cd_ ?_) | exact HR239_0.out)) hb); have n9_ := am (below_step (by repeat (first | (with_reducible first | exact HB.out | apply ba_ | apply pn_ | apply b1_ | refine below_set ?_ GE213.out) | exact HB.out)) hb); clear HO_4; clear HO_5; clear HL234_0; clear HO238; clear HL239_0; clear BK213; clear HR234_0; clear HR239_0; clear HB; have HO_4 := n0_; have HO_5 := n1_; have HL234_0 := n2_; have HO238 := n3_; have HL239_0 := n4_; have HO243 := n5_; have BK213 := n6_; have HR234_0 := n7_; have HR239_0 := n8_; have HB := n9_; clear n0_ n1_ n2_ n3_ n4_ n5_ n6_ n7_ n8_ n9_; (try clear hb); (try clear hb2); (try clear hk); (try clear hi); (try clear ho0)))
           replace HO_4 := am (sd_ HO_4.out); replace HO_5 := am (rd_ HO_5.out); replace HL234_0 := am (rd_ HL234_0.out); replace HO238 := am (rd_ HO238.out); replace HL239_0 := am (rd_ HL239_0.out); replace HO243 := am (rd_ HO243.out); replace BK213 := am (blk_drew BK213.out); replace HR234_0 := am (cd_ HR234_0.out); replace HR239_0 := am (cd_ HR239_0.out); replace HB := am (b1_ HB.out)
           have p244 : 0 ≤ (x10_2 : Int) := of_decide_eq_true (by first | (with_reducible assumption) | assumption)
           have q244 : x10_2 < (t215.length : Int) := of_decide_eq_true (by first | (with_reducible assumption) | assumption)
           obtain ⟨ad244, A244_0, c244_0, e244, hx244_0, hl244_0, hi244_0⟩ := at_L1 (sr_ HO_4.out).2.2 x10_2 p244 q244
           obtain rfl : ad234 = ad244 := (by injection e244)
           obtain ⟨ce244, hce244, hMe244, hcc244⟩ := Kd.S_get HO_4.out [] x10_2 p244 (by first | exact q244 | exact of_decide_eq_true (by first | (with_reducible assumption) | assumption) | (have e_ := (sr_ HO_4.out).1; omega))
           obtain ⟨ve244_0, rfl, ge244_0⟩ := hMe244
           have hv244_0 := hcc244 0 _ rfl
           rw [Nat.add_zero, show ((Kd.slice 3 (Kd.int .i64))).sz = 1 from rfl, Nat.mul_one] at hv244_0
           replace hv244_0 := Option.some.inj (hv244_0.symm.trans hx244_0)
           rw [hv244_0] at ge244_0
           have HL244_0 := am (show Kd.R (Kd.int .i64) 3 _ _ _ _ (rd_L1 t215 x10_2) from ge244_0); clear hv244_0 ge244_0 hcc244 hce244; have HR244_0 := am hi244_0; have HC244_0 := am hl244_0; clear hi244_0 hl244_0; replace p244 := eq_true p244; replace q244 := eq_true q244
           refine start_ (n := 13) (S := fun w' => w'.cell? ⟨gb213, 0, none⟩ = some (.slice A0_0 l0_0.length c0_0) ∧ w'.cell? ⟨gb213, 1, none⟩ = some (.int .i64 a0_1) ∧ w'.cell? ⟨gb213, 2, none⟩ = some (.slice A0_2 l0_2.length c0_2) ∧ w'.cell? ⟨gb213, 3, none⟩ = some (.slice A0_3 l0_3.length c0_3) ∧ w'.cell? ⟨gb213, 4, none⟩ = some (.int .i64 a0_4) ∧ w'.cell? (ad234.add (x10_2).toNat) = some (.slice A244_0 (rd_L1 t215 x10_2).length c244_0)) (ds := []) #[F,F,F,F,F,F,F,F,F,F,F,F,F] (by kernel_rfl) rfl rfl ⟨(blk_cell BK213.out 0).trans rfl, (blk_cell BK213.out 1).trans rfl, (blk_cell BK213.out 2).trans rfl, (blk_cell BK213.out 3).trans rfl, (blk_cell BK213.out 4).trans rfl, hx244_0⟩ (fun hHeld => ?_); refine with_tabW proofmarklaw18_PropTells.tab13 proofmarklaw18_PropTells.bits13 (fun HT_ HW_ => ?_)
           generalize w87.drew = w88 at HO_4 HO_5 HL234_0 HO238 HL239_0 HO243 BK213 HR234_0 HR239_0 HB HL244_0 HR244_0 hx244_0 hHeld ⊢
           refine pure_ (i := 0) (N := some 96) (v := ?_) (a' := ?_) #[T,F,F,F,F,F,F,F,F,F,F,F,F] rfl rfl (any_of HT_.out (by kernel_rfl)) (fun _ _ _ h => h) (.inl ⟨by rfl, ?_⟩) ?_ ?_
           rotate_left
           ·intro w'; go_simp; with_reducible rfl
           rotate_left
           ·simp only [Act.put, sb1, sb2, sb3, i64_w, i32_w]; rfl
           refine pure_ (i := 1) (N := some 97) (v := ?_) (a' := ?_) #[T,T,F,F,F,F,F,F,F,F,F,F,F] rfl rfl (any_of HT_.out (by kernel_rfl)) (fun _ _ _ h => h) (.inl ⟨by rfl, ?_⟩) ?_ ?_
           rotate_left
           ·intro w'; go_simp; with_reducible rfl
           rotate_left
           ·simp only [Act.put, sb1, sb2, sb3, i64_w, i32_w]; rfl
           refine pure_ (i := 2) (N := some 98) (v := ?_) (a' := ?_) #[T,T,T,F,F,F,F,F,F,F,F,F,F] rfl rfl (any_of HT_.out (by kernel_rfl)) (fun _ _ _ h => h) (.inl ⟨by rfl, ?_⟩) ?_ ?_
           rotate_left
           ·intro w'; go_simp; with_reducible rfl
           rotate_left
           ·simp only [Act.put, sb1, sb2, sb3, i64_w, i32_w]; rfl
           refine pure_ (i := 4) (N := some 100) (v := ?_) (a' := ?_) #[T,T,T,F,T,F,F,F,F,F,F,F,F] rfl rfl (any_of HT_.out (by kernel_rfl)) (fun _ _ _ h => h) (.inl ⟨by rfl, ?_⟩) ?_ ?_
           rotate_left
           ·intro w'; go_simp; with_reducible rfl
           rotate_left
           ·simp only [Act.put, sb1, sb2, sb3, i64_w, i32_w]; rfl
           refine pure_ (i := 5) (N := some 101) (v := ?_) (a' := ?_) #[T,T,T,F,T,T,F,F,F,F,F,F,F] rfl rfl (any_of HT_.out (by kernel_rfl)) (fun _ _ _ h => h) (.inl ⟨by rfl, ?_⟩) ?_ ?_
           rotate_left
           ·intro w'; go_simp; with_reducible rfl
           rotate_left
           ·simp only [Act.put, sb1, sb2, sb3, i64_w, i32_w]; rfl
           refine take_ (i := 3) (N := some 99) (v := ?_) (a' := ?_) #[T,T,T,T,T,T,F,F,F,F,F,F,F] rfl rfl (take_ofW HT_.out HW_.out (by kernel_rfl)) (fun _ _ _ h => h) (.inl ⟨by rfl, ?_⟩) hHeld ?_ ?_
           rotate_left
           ·rintro w' ⟨s0, s1, s2, s3, s4, s5⟩
            go_simp; with_reducible rfl
           rotate_left
           ·simp only [Act.put, sb1, sb2, sb3, i64_w, i32_w]; rfl
           refine take_ (i := 6) (N := some 102) (v := ?_) (a' := ?_) #[T,T,T,T,T,T,T,F,F,F,F,F,F] rfl rfl (take_ofW HT_.out HW_.out (by kernel_rfl)) (fun _ _ _ h => h) (.inl ⟨by rfl, ?_⟩) hHeld ?_ ?_
           rotate_left
           ·rintro w' ⟨s0, s1, s2, s3, s4, s5⟩
            go_simp; with_reducible rfl
           rotate_left
           ·simp only [Act.put, sb1, sb2, sb3, i64_w, i32_w]; rfl
           refine one_ (i := 7) (N := some 103) #[T,T,T,T,T,T,T,T,F,F,F,F,F] rfl rfl (one_of HT_.out (by kernel_rfl)) (by decide) (fun K hK => ?_)
           refine goes_ Try.func36 (by kernel_rfl) rfl #[.slice A244_0 (rd_L1 t215 x10_2).length c244_0, .slice Ao16 t218.length co16, .int .i64 a0_4] (by rfl) rfl rfl (by (try simp only [ma_, mc_, mn_]); first | done | rfl | (simp only [ld_, lt_]; rfl)) ?_
           with_reducible refine (prop_Resolve.calls _ _ (rd_L1 t215 x10_2) _ _ t218 a0_4 t245 t246 _ ?side1 ?side2 ?side3 ?side4 A46.out).mono ?_
           (case side1 => repeat (first | exact (by repeat (first | (with_reducible exact HR244_0.out) | (with_reducible refine ca_ ?_ _) | (with_reducible refine cn_ ?_ _) | (with_reducible refine cd_ ?_) | exact HR244_0.out)) | (with_reducible refine ca_ ?_ _) | (with_reducible refine cn_ ?_ _) | (with_reducible refine cd_ ?_)))
           (case side2 => exact HC244_0.out)
           (case side3 => repeat (first | exact (Kd.R_reads' HO_5.out).2.2 | (with_reducible refine ca_ ?_ _) | (with_reducible refine cn_ ?_ _) | (with_reducible refine cd_ ?_)))
           (case side4 => exact (Kd.R_reads' HO_5.out).2.1)
           rintro e w89 ⟨v247, rfl, ho0, hb⟩
           have HS5_ := (hb.cell (World.block_lt_of_cell? _ _ (hHeld.2.2.2.2.2))).trans (hHeld.2.2.2.2.2)
           refine ⟨_, rfl, ?_⟩
           have n0_ := am (Kd.S_elder' (by (with_reducible repeat (first | apply sa_ | apply sn_ | apply sd_)); exact HO_4.out) (rb_ ho0) hb)
           have n1_ := am (re_ (by (with_reducible repeat (first | apply ra_ | apply rn_ | apply rd_)); exact HO_5.out) (rb_ ho0) hb)
           have n2_ := am (re_ (by (with_reducible repeat (first | apply ra_ | apply rn_ | apply rd_)); exact HL234_0.out) (rb_ ho0) hb)
           have n3_ := am (re_ (by (with_reducible repeat (first | apply ra_ | apply rn_ | apply rd_)); exact HO238.out) (rb_ ho0) hb)
           have n4_ := am (re_ (by (with_reducible repeat (first | apply ra_ | apply rn_ | apply rd_)); exact HL239_0.out) (rb_ ho0) hb)
           have n5_ := am (re_ (by (with_reducible repeat (first | apply ra_ | apply rn_ | apply rd_)); exact HO243.out) (rb_ ho0) hb)
           have n6_ := am (re_ (by (with_reducible repeat (first | apply ra_ | apply rn_ | apply rd_)); exact HL244_0.out) (rb_ ho0) hb)
           have n7_ := am (Kd.R_lower (rw_ (rw_ (rw_ (rw_ (rw_ (rw_ ho0 (Kd.R_lt (by (with_reducible repeat (first | apply ra_ | apply rn_ | apply rd_)); exact HO_5.out))) (Kd.R_lt (by (with_reducible repeat (first | apply ra_ | apply rn_ | apply rd_)); exact HL234_0.out))) (Kd.R_lt (by (with_reducible repeat (first | apply ra_ | apply rn_ | apply rd_)); exact HO238.out))) (Kd.R_lt (by (with_reducible repeat (first | apply ra_ | apply rn_ | apply rd_)); exact HL239_0.out))) (Kd.R_lt (by (with_reducible repeat (first | apply ra_ | apply rn_ | apply rd_)); exact HO243.out))) (Kd.R_lt (by (with_reducible repeat (first | apply ra_ | apply rn_ | apply rd_)); exact HL244_0.out))) (below_size (by repeat (first | (with_reducible first | exact HB.out | apply ba_ | apply pn_ | apply b1_ | refine below_set ?_ GE213.out) | exact HB.out))))
           have n8_ := am (blk_below (g := gb213) (o := .cells #[.slice A0_0 l0_0.length c0_0, .int .i64 a0_1, .slice A0_2 l0_2.length c0_2, .slice A0_3 l0_3.length c0_3, .int .i64 a0_4] 37 (0, 0)) (by (with_reducible repeat (first | refine blk_drewN ?_ _ | refine blk_drew ?_ | refine blk_alloc ?_ _)); exact BK213.out) hb)
           have n9_ := am (cb_ (by repeat (first | (with_reducible exact HR234_0.out) | (with_reducible refine ca_ ?_ _) | (with_reducible refine cn_ ?_ _) | (with_reducible refine cd_ ?_) | exact HR234_0.out)) hb); have n10_ := am (cb_ (by repeat (first | (with_reducible exact HR239_0.out) | (with_reducible refine ca_ ?_ _) | (with_reducible refine cn_ ?_ _) | (with_reducible refine cd_ ?_) | exact HR239_0.out)) hb); have n11_ := am (cb_ (by repeat (first | (with_reducible exact HR244_0.out) | (with_reducible refine ca_ ?_ _) | (with_reducible refine cn_ ?_ _) | (with_reducible refine cd_ ?_) | exact HR244_0.out)) hb); have n12_ := am (below_step (by repeat (first | (with_reducible first | exact HB.out | apply ba_ | apply pn_ | apply b1_ | refine below_set ?_ GE213.out) | exact HB.out)) hb); clear HO_4 HO_5 HL234_0 HO238 HL239_0 HO243 HL244_0 BK213 HR234_0 HR239_0 HR244_0 HB; have HO_4 := n0_; have HO_5 := n1_; have HL234_0 := n2_; have HO238 := n3_; have HL239_0 := n4_; have HO243 := n5_; have HL244_0 := n6_; have HO248 := n7_; have BK213 := n8_; have HR234_0 := n9_; have HR239_0 := n10_; have HR244_0 := n11_; have HB := n12_; clear n0_ n1_ n2_ n3_ n4_ n5_ n6_ n7_ n8_ n9_ n10_ n11_ n12_
           (try clear hb)
           (try clear hb2)
           (try clear hk)
           (try clear hi)
           (try clear ho0)
           refine hK.out _ _ ⟨(blk_cell BK213.out 0).trans rfl, (blk_cell BK213.out 1).trans rfl, (blk_cell BK213.out 2).trans rfl, (blk_cell BK213.out 3).trans rfl, (blk_cell BK213.out 4).trans rfl, HS5_⟩ (fun hHeld => ?_)
           clear hK K
           refine norm_ (a' := ?_) ?_ ?_
           rotate_left
           ·show Act.put _ (some 103) _ = _
            simp only [Act.put, sb1, sb2, sb3, i64_w, i32_w]; rfl
           refine pure_ (i := 8) (N := some 95) (v := ?_) (a' := ?_) #[T,T,T,T,T,T,T,T,T,F,F,F,F] rfl rfl (any_of HT_.out (by kernel_rfl)) (fun _ _ _ h => h) (.inl ⟨by rfl, ?_⟩) ?_ ?_
           rotate_left
           ·intro w'; go_simp; with_reducible rfl
           rotate_left
           ·simp only [Act.put, sb1, sb2, sb3, i64_w, i32_w]; rfl
           refine pure_ (i := 9) (N := some 104) (v := ?_) (a' := ?_) #[T,T,T,T,T,T,T,T,T,T,F,F,F] rfl rfl (any_of HT_.out (by kernel_rfl)) (fun _ _ _ h => h) (.inl ⟨by rfl, ?_⟩) ?_ ?_
           rotate_left
           ·intro w'; go_simp; with_reducible rfl
           rotate_left
           ·simp only [Act.put, sb1, sb2, sb3, i64_w, i32_w]; rfl
           refine pure_ (i := 10) (N := some 105) (v := ?_) (a' := ?_) #[T,T,T,T,T,T,T,T,T,T,T,F,F] rfl rfl (any_of HT_.out (by kernel_rfl)) (fun _ _ _ h => h) (.inl ⟨by rfl, ?_⟩) ?_ ?_
           rotate_left
           ·intro w'; go_simp; with_reducible rfl
           rotate_left
           ·simp only [Act.put, sb1, sb2, sb3, i64_w, i32_w]; rfl
           refine pure_ (i := 11) (N := some 15) (v := ?_) (a' := ?_) #[T,T,T,T,T,T,T,T,T,T,T,T,F] rfl rfl (any_of HT_.out (by kernel_rfl)) (fun _ _ _ h => h) (.inl ⟨by rfl, ?_⟩) ?_ ?_
           rotate_left
           ·intro w'; go_simp; with_reducible rfl
           rotate_left
           ·simp only [Act.put, sb1, sb2, sb3, i64_w, i32_w]; rfl
           refine pure_ (i := 12) (N := some 16) (v := ?_) (a' := ?_) #[T,T,T,T,T,T,T,T,T,T,T,T,T] rfl rfl (any_of HT_.out (by kernel_rfl)) (fun _ _ _ h => h) (.inl ⟨by rfl, ?_⟩) ?_ ?_
           rotate_left
           ·intro w'; go_simp; with_reducible rfl
           rotate_left
           ·simp only [Act.put, sb1, sb2, sb3, i64_w, i32_w]; rfl
           refine done_ (done_of HT_.out (by kernel_rfl)) ?_
           try go_wp2; replace HO_4 := am (sd_ HO_4.out); replace HO_5 := am (rd_ HO_5.out); replace HL234_0 := am (rd_ HL234_0.out); replace HO238 := am (rd_ HO238.out); replace HL239_0 := am (rd_ HL239_0.out); replace HO243 := am (rd_ HO243.out); replace HL244_0 := am (rd_ HL244_0.out); replace HO248 := am (rd_ HO248.out); replace BK213 := am (blk_drew BK213.out); replace HR234_0 := am (cd_ HR234_0.out); replace HR239_0 := am (cd_ HR239_0.out); replace HR244_0 := am (cd_ HR244_0.out); replace HB := am (b1_ HB.out)
           have p249 : 0 ≤ (x10_2 : Int) := of_decide_eq_true (by first | (with_reducible assumption) | assumption)
           have q249 : x10_2 < (t215.length : Int) := of_decide_eq_true (by first | (with_reducible assumption) | assumption)
           obtain ⟨ad249, A249_0, c249_0, e249, hx249_0, hl249_0, hi249_0⟩ := at_L1 (sr_ HO_4.out).2.2 x10_2 p249 q249
           obtain rfl : ad234 = ad249 := (by injection e249)
           obtain ⟨ce249, hce249, hMe249, hcc249⟩ := Kd.S_get HO_4.out [] x10_2 p249 (by first | exact q249 | exact of_decide_eq_true (by first | (with_reducible assumption) | assumption) | (have e_ := (sr_ HO_4.out).1; omega))
           obtain ⟨ve249_0, rfl, ge249_0⟩ := hMe249
           have hv249_0 := hcc249 0 _ rfl
           rw [Nat.add_zero, show ((Kd.slice 3 (Kd.int .i64))).sz = 1 from rfl, Nat.mul_one] at hv249_0
           replace hv249_0 := Option.some.inj (hv249_0.symm.trans hx249_0)
           rw [hv249_0] at ge249_0
           have HL249_0 := am (show Kd.R (Kd.int .i64) 3 _ _ _ _ (rd_L1 t215 x10_2) from ge249_0); clear hv249_0 ge249_0 hcc249 hce249; have HR249_0 := am hi249_0; have HC249_0 := am hl249_0; clear hi249_0 hl249_0; replace p249 := eq_true p249; replace q249 := eq_true q249
           refine start_ (n := 13) (S := fun w' => w'.cell? ⟨gb213, 0, none⟩ = some (.slice A0_0 l0_0.length c0_0) ∧ w'.cell? ⟨gb213, 1, none⟩ = some (.int .i64 a0_1) ∧ w'.cell? ⟨gb213, 2, none⟩ = some (.slice A0_2 l0_2.length c0_2) ∧ w'.cell? ⟨gb213, 3, none⟩ = some (.slice A0_3 l0_3.length c0_3) ∧ w'.cell? ⟨gb213, 4, none⟩ = some (.int .i64 a0_4) ∧ w'.cell? (ad234.add (x10_2).toNat) = some (.slice A249_0 (rd_L1 t215 x10_2).length c249_0)) (ds := []) #[F,F,F,F,F,F,F,F,F,F,F,F,F] (by kernel_rfl) rfl rfl ⟨(blk_cell BK213.out 0).trans rfl, (blk_cell BK213.out 1).trans rfl, (blk_cell BK213.out 2).trans rfl, (blk_cell BK213.out 3).trans rfl, (blk_cell BK213.out 4).trans rfl, hx249_0⟩ (fun hHeld => ?_); refine with_tabW proofmarklaw18_PropTells.tab14 proofmarklaw18_PropTells.bits14 (fun HT_ HW_ => ?_)
           generalize w89.drew = w90 at HO_4 HO_5 HL234_0 HO238 HL239_0 HO243 HL244_0 HO248 BK213 HR234_0 HR239_0 HR244_0 HB HL249_0 HR249_0 hx249_0 hHeld ⊢
           refine pure_ (i := 0) (N := some 107) (v := ?_) (a' := ?_) #[T,F,F,F,F,F,F,F,F,F,F,F,F] rfl rfl (any_of HT_.out (by kernel_rfl)) (fun _ _ _ h => h) (.inl ⟨by rfl, ?_⟩) ?_ ?_
           rotate_left
           ·intro w'; go_simp; with_reducible rfl
           rotate_left
           ·simp only [Act.put, sb1, sb2, sb3, i64_w, i32_w]; rfl
           refine pure_ (i := 1) (N := some 108) (v := ?_) (a' := ?_) #[T,T,F,F,F,F,F,F,F,F,F,F,F] rfl rfl (any_of HT_.out (by kernel_rfl)) (fun _ _ _ h => h) (.inl ⟨by rfl, ?_⟩) ?_ ?_
           rotate_left
           ·intro w'; go_simp; with_reducible rfl
           rotate_left
           ·simp only [Act.put, sb1, sb2, sb3, i64_w, i32_w]; rfl
           refine pure_ (i := 2) (N := some 109) (v := ?_) (a' := ?_) #[T,T,T,F,F,F,F,F,F,F,F,F,F] rfl rfl (any_of HT_.out (by kernel_rfl)) (fun _ _ _ h => h) (.inl ⟨by rfl, ?_⟩) ?_ ?_
           rotate_left
           ·intro w'; go_simp; with_reducible rfl
           rotate_left
           ·simp only [Act.put, sb1, sb2, sb3, i64_w, i32_w]; rfl
           refine pure_ (i := 4) (N := some 111) (v := ?_) (a' := ?_) #[T,T,T,F,T,F,F,F,F,F,F,F,F] rfl rfl (any_of HT_.out (by kernel_rfl)) (fun _ _ _ h => h) (.inl ⟨by rfl, ?_⟩) ?_ ?_
           rotate_left
           ·intro w'; go_simp; with_reducible rfl
           rotate_left
           ·simp only [Act.put, sb1, sb2, sb3, i64_w, i32_w]; rfl
           refine pure_ (i := 5) (N := some 112) (v := ?_) (a' := ?_) #[T,T,T,F,T,T,F,F,F,F,F,F,F] rfl rfl (any_of HT_.out (by kernel_rfl)) (fun _ _ _ h => h) (.inl ⟨by rfl, ?_⟩) ?_ ?_
           rotate_left
           ·intro w'; go_simp; with_reducible rfl
           rotate_left
           ·simp only [Act.put, sb1, sb2, sb3, i64_w, i32_w]; rfl
           refine take_ (i := 3) (N := some 110) (v := ?_) (a' := ?_) #[T,T,T,T,T,T,F,F,F,F,F,F,F] rfl rfl (take_ofW HT_.out HW_.out (by kernel_rfl)) (fun _ _ _ h => h) (.inl ⟨by rfl, ?_⟩) hHeld ?_ ?_
           rotate_left
           ·rintro w' ⟨s0, s1, s2, s3, s4, s5⟩
            go_simp; with_reducible rfl
           rotate_left
           ·simp only [Act.put, sb1, sb2, sb3, i64_w, i32_w]; rfl
           refine take_ (i := 6) (N := some 113) (v := ?_) (a' := ?_) #[T,T,T,T,T,T,T,F,F,F,F,F,F] rfl rfl (take_ofW HT_.out HW_.out (by kernel_rfl)) (fun _ _ _ h => h) (.inl ⟨by rfl, ?_⟩) hHeld ?_ ?_
           rotate_left
           ·rintro w' ⟨s0, s1, s2, s3, s4, s5⟩
            go_simp; with_reducible rfl
           rotate_left
           ·simp only [Act.put, sb1, sb2, sb3, i64_w, i32_w]; rfl
           refine one_ (i := 7) (N := some 114) #[T,T,T,T,T,T,T,T,F,F,F,F,F] rfl rfl (one_of HT_.out (by kernel_rfl)) (by decide) (fun K hK => ?_)
           refine goes_ Try.func37 (by kernel_rfl) rfl #[.slice A249_0 (rd_L1 t215 x10_2).length c249_0, .slice Ao16 t218.length co16, .int .i64 a0_4] (by rfl) rfl rfl (by (try simp only [ma_, mc_, mn_]); first | done | rfl | (simp only [ld_, lt_]; rfl)) ?_
           with_reducible refine (proofmarkref18_Resolve.calls k2 _ _ (rd_L1 t215 x10_2) _ _ t218 a0_4 t250 t251 _ ?side1 ?side2 ?side3 ?side4 A47.out).mono ?_
           (case side1 => repeat (first | exact (by repeat (first | (with_reducible exact HR249_0.out) | (with_reducible refine ca_ ?_ _) | (with_reducible refine cn_ ?_ _) | (with_reducible refine cd_ ?_) | exact HR249_0.out)) | (with_reducible refine ca_ ?_ _) | (with_reducible refine cn_ ?_ _) | (with_reducible refine cd_ ?_)))
           (case side2 => exact HC249_0.out)
           (case side3 => repeat (first | exact (Kd.R_reads' HO_5.out).2.2 | (with_reducible refine ca_ ?_ _) | (with_reducible refine cn_ ?_ _) | (with_reducible refine cd_ ?_)))
           (case side4 => exact (Kd.R_reads' HO_5.out).2.1)
           rintro e w91 ⟨v252, rfl, ho0, hb⟩
           have HS5_ := (hb.cell (World.block_lt_of_cell? _ _ (hHeld.2.2.2.2.2))).trans (hHeld.2.2.2.2.2)
           refine ⟨_, rfl, ?_⟩
           have n0_ := am (Kd.S_elder' (by (with_reducible repeat (first | apply sa_ | apply sn_ | apply sd_)); exact HO_4.out) (rb_ ho0) hb)
           have n1_ := am (re_ (by (with_reducible repeat (first | apply ra_ | apply rn_ | apply rd_)); exact HO_5.out) (rb_ ho0) hb)
           have n2_ := am (re_ (by (with_reducible repeat (first | apply ra_ | apply rn_ | apply rd_)); exact HL234_0.out) (rb_ ho0) hb)
           have n3_ := am (re_ (by (with_reducible repeat (first | apply ra_ | apply rn_ | apply rd_)); exact HO238.out) (rb_ ho0) hb)
           have n4_ := am (re_ (by (with_reducible repeat (first | apply ra_ | apply rn_ | apply rd_)); exact HL239_0.out) (rb_ ho0) hb)
           have n5_ := am (re_ (by (with_reducible repeat (first | apply ra_ | apply rn_ | apply rd_)); exact HO243.out) (rb_ ho0) hb)
           have n6_ := am (re_ (by (with_reducible repeat (first | apply ra_ | apply rn_ | apply rd_)); exact HL244_0.out) (rb_ ho0) hb)
           have n7_ := am (re_ (by (with_reducible repeat (first | apply ra_ | apply rn_ | apply rd_)); exact HO248.out) (rb_ ho0) hb)
           have n8_ := am (re_ (by (with_reducible repeat (first | apply ra_ | apply rn_ | apply rd_)); exact HL249_0.out) (rb_ ho0) hb)
           have n9_ := am (Kd.R_lower (rw_ (rw_ (rw_ (rw_ (rw_ (rw_ (rw_ (rw_ ho0 (Kd.R_lt (by (with_reducible repeat (first | apply ra_ | apply rn_ | apply rd_)); exact HO_5.out))) (Kd.R_lt (by (with_reducible repeat (first | apply ra_ | apply rn_ | apply rd_)); exact HL234_0.out))) (Kd.R_lt (by (with_reducible repeat (first | apply ra_ | apply rn_ | apply rd_)); exact HO238.out))) (Kd.R_lt (by (with_reducible repeat (first | apply ra_ | apply rn_ | apply rd_)); exact HL239_0.out))) (Kd.R_lt (by (with_reducible repeat (first | apply ra_ | apply rn_ | apply rd_)); exact HO243.out))) (Kd.R_lt (by (with_reducible repeat (first | apply ra_ | apply rn_ | apply rd_)); exact HL244_0.out))) (Kd.R_lt (by (with_reducible repeat (first | apply ra_ | apply rn_ | apply rd_)); exact HO248.out))) (Kd.R_lt (by (with_reducible repeat (first | apply ra_ | apply rn_ | apply rd_)); exact HL249_0.out))) (below_size (by repeat (first | (with_reducible first | exact HB.out | apply ba_ | apply pn_ | apply b1_ | refine below_set ?_ GE213.out) | exact HB.out))))
           have n10_ := am (blk_below (g := gb213) (o := .cells #[.slice A0_0 l0_0.length c0_0, .int .i64 a0_1, .slice A0_2 l0_2.length c0_2, .slice A0_3 l0_3.length c0_3, .int .i64 a0_4] 37 (0, 0)) (by (with_reducible repeat (first | refine blk_drewN ?_ _ | refine blk_drew ?_ | refine blk_alloc ?_ _)); exact BK213.out) hb)
           have n11_ := am (cb_ (by repeat (first | (with_reducible exact HR234_0.out) | (with_reducible refine ca_ ?_ _) | (with_reducible refine cn_ ?_ _) | (with_reducible refine cd_ ?_) | exact HR234_0.out)) hb); have n12_ := am (cb_ (by repeat (first | (with_reducible exact HR239_0.out) | (with_reducible refine ca_ ?_ _) | (with_reducible refine cn_ ?_ _) | (with_reducible refine cd_ ?_) | exact HR239_0.out)) hb); have n13_ := am (cb_ (by repeat (first | (with_reducible exact HR244_0.out) | (with_reducible refine ca_ ?_ _) | (with_reducible refine cn_ ?_ _) | (with_reducible refine cd_ ?_) | exact HR244_0.out)) hb); have n14_ := am (cb_ (by repeat (first | (with_reducible exact HR249_0.out) | (with_reducible refine ca_ ?_ _) | (with_reducible refine cn_ ?_ _) | (with_reducible refine cd_ ?_) | exact HR249_0.out)) hb); have n15_ := am (below_step (by repeat (first | (with_reducible first | exact HB.out | apply ba_ | apply pn_ | apply b1_ | refine below_set ?_ GE213.out) | exact HB.out)) hb); clear HO_4 HO_5 HL234_0 HO238 HL239_0 HO243 HL244_0 HO248 HL249_0 BK213 HR234_0 HR239_0 HR244_0 HR249_0 HB; have HO_4 := n0_; have HO_5 := n1_; have HL234_0 := n2_; have HO238 := n3_; have HL239_0 := n4_; have HO243 := n5_; have HL244_0 := n6_; have HO248 := n7_; have HL249_0 := n8_; have HO253 := n9_; have BK213 := n10_; have HR234_0 := n11_; have HR239_0 := n12_; have HR244_0 := n13_; have HR249_0 := n14_; have HB := n15_; clear n0_ n1_ n2_ n3_ n4_ n5_ n6_ n7_ n8_ n9_ n10_ n11_ n12_ n13_ n14_ n15_
           (try clear hb)
           (try clear hb2)
           (try clear hk)
           (try clear hi)
           (try clear ho0)
           refine hK.out _ _ ⟨(blk_cell BK213.out 0).trans rfl, (blk_cell BK213.out 1).trans rfl, (blk_cell BK213.out 2).trans rfl, (blk_cell BK213.out 3).trans rfl, (blk_cell BK213.out 4).trans rfl, HS5_⟩ (fun hHeld => ?_)
           clear hK K
           refine norm_ (a' := ?_) ?_ ?_
           rotate_left
           ·show Act.put _ (some 114) _ = _
            simp only [Act.put, sb1, sb2, sb3, i64_w, i32_w]; rfl
           refine pure_ (i := 8) (N := some 106) (v := ?_) (a' := ?_) #[T,T,T,T,T,T,T,T,T,F,F,F,F] rfl rfl (any_of HT_.out (by kernel_rfl)) (fun _ _ _ h => h) (.inl ⟨by rfl, ?_⟩) ?_ ?_
           rotate_left
           ·intro w'; go_simp; with_reducible rfl
           rotate_left
           ·simp only [Act.put, sb1, sb2, sb3, i64_w, i32_w]; rfl
           refine pure_ (i := 9) (N := some 115) (v := ?_) (a' := ?_) #[T,T,T,T,T,T,T,T,T,T,F,F,F] rfl rfl (any_of HT_.out (by kernel_rfl)) (fun _ _ _ h => h) (.inl ⟨by rfl, ?_⟩) ?_ ?_
           rotate_left
           ·intro w'; go_simp; with_reducible rfl
           rotate_left
           ·simp only [Act.put, sb1, sb2, sb3, i64_w, i32_w]; rfl
           refine pure_ (i := 10) (N := some 116) (v := ?_) (a' := ?_) #[T,T,T,T,T,T,T,T,T,T,T,F,F] rfl rfl (any_of HT_.out (by kernel_rfl)) (fun _ _ _ h => h) (.inl ⟨by rfl, ?_⟩) ?_ ?_
           rotate_left
           ·intro w'; go_simp; with_reducible rfl
           rotate_left
           ·simp only [Act.put, sb1, sb2, sb3, i64_w, i32_w]; rfl
           refine pure_ (i := 11) (N := some 17) (v := ?_) (a' := ?_) #[T,T,T,T,T,T,T,T,T,T,T,T,F] rfl rfl (any_of HT_.out (by kernel_rfl)) (fun _ _ _ h => h) (.inl ⟨by rfl, ?_⟩) ?_ ?_
           rotate_left
           ·intro w'; go_simp; with_reducible rfl
           rotate_left
           ·simp only [Act.put, sb1, sb2, sb3, i64_w, i32_w]; rfl
           refine pure_ (i := 12) (N := some 18) (v := ?_) (a' := ?_) #[T,T,T,T,T,T,T,T,T,T,T,T,T] rfl rfl (any_of HT_.out (by kernel_rfl)) (fun _ _ _ h => h) (.inl ⟨by rfl, ?_⟩) ?_ ?_
           rotate_left
           ·intro w'; go_simp; with_reducible rfl
           rotate_left
           ·simp only [Act.put, sb1, sb2, sb3, i64_w, i32_w]; rfl
           refine done_ (done_of HT_.out (by kernel_rfl)) ?_
           obtain ⟨Ao92, co92, eo92⟩ := Kd.R_slice HO238.out
           subst eo92
           obtain ⟨Ao93, co93, eo93⟩ := Kd.R_slice HO243.out
           subst eo93
           try go_wp2_with (first | (go_at_call 33; (with_reducible refine (proofmarkref18_Same.calls k2 _ _ t235 _ _ t240 false _ ?side1 ?side2 ?side3 ?side4 A62.out).mono ?_); (case side1 => repeat (first | exact (Kd.R_reads' HO238.out).2.2 | (with_reducible refine ca_ ?_ _) | (with_reducible refine cn_ ?_ _) | (with_reducible refine cd_ ?_))); (case side2 => exact (Kd.R_reads' HO238.out).2.1); (case side3 => repeat (first | exact (Kd.R_reads' HO243.out).2.2 | (with_reducible refine ca_ ?_ _) | (with_reducible refine cn_ ?_ _) | (with_reducible refine cd_ ?_))); (case side4 => exact (Kd.R_reads' HO243.out).2.1); rintro e w' ⟨rfl, ⟨nd, rfl⟩⟩))
           go_ret
           exact ⟨by first | rfl | (simp [errW_none, errW_some] <;> rfl) | (simp [*, errW_none, errW_some] <;> rfl), by repeat (first | (with_reducible first | exact HB.out | apply ba_ | apply pn_ | apply b1_ | refine below_set ?_ GE213.out) | exact HB.out)⟩
       ·rw [if_neg c43] at H
        exact absurd H (by simp)
      ·rw [if_neg c42] at H
       have c42b0 : decide (x10_2 < (t215.length : Int)) = false := decide_eq_false c42
       clear c42
       obtain rfl := Option.some.inj H
       go_wp2
       go_ret
       exact ⟨by first | rfl | (simp [errW_none, errW_some] <;> rfl) | (simp [*, errW_none, errW_some] <;> rfl), by repeat (first | (with_reducible first | exact HB.out | apply ba_ | apply pn_ | apply b1_ | refine below_set ?_ GE213.out) | exact HB.out)⟩

end
end Go.Proofs.Ytdlfmobnmcamaaa.Q
