/- Written by hyb.py, a program of this session that drives the kit's printer over this seat's translation: each function as a plain Lean function, and a proof that the Go code does what it says. Lean checks it. -/
import Derived.Test.YtdlfmobnmcamaaaQx0
import Derived.Test.YtdlfmobnmcamaaaQx9
namespace Go.Proofs.Ytdlfmobnmcamaaa.Q
open Go.RowKit Go.Proofs.YtdlfmobnmcamaaaW.PrintWords Go.Proofs.YtdlfmobnmcamaaaW.PrintLast Go.Proofs.YtdlfmobnmcamaaaW.PrintMore
attribute [local go_sem] max2_int min2_int max_two min_two max_three min_three max_four min_four   -- for this text's walks alone
set_option linter.unusedVariables false
set_option linter.unusedSimpArgs false

noncomputable section
/-! ### proofmarkref18_True: function 56 -/
def proofmarkref18_True.f (l0 : List Bool) (a1 : Int) : Option (Bool) := (proofmarkref18_Of.f a1).bind fun t184 => (if t184 ≥ 1 then (if t184 ≤ (l0.length : Int) then (if 0 ≤ (wrap64 (t184 - 1)) then (if (wrap64 (t184 - 1)) < (l0.length : Int) then (some ((rdOf false l0 (wrap64 (t184 - 1))) == (decide (a1 > 0)))) else (none)) else (none)) else (some false)) else (some false))
set_option maxHeartbeats 8000000 in
set_option maxRecDepth 100000 in
theorem proofmarkref18_True.calls (A0 : Option Addr) (c0 : Nat) (l0 : List Bool) (a1 : Int) (r : Bool) (w : World) (hr0 : Kd.C Kd.bool w A0 l0.length l0) (hc0 : l0.length ≤ c0) (h : proofmarkref18_True.f l0 a1 = some r) :
  Calls Try.prog 56 #[.slice A0 l0.length c0, .int .i64 a1] w fun e w' => e = .returned (.bool r) ∧ Drawn0 w w' := by
 have HR0 := Aside0.mk hr0; have HC0 := Aside0.mk hc0; clear hr0 hc0
 have H : ((proofmarkref18_Of.f a1).bind fun t184 => (if t184 ≥ 1 then (if t184 ≤ (l0.length : Int) then (if 0 ≤ (wrap64 (t184 - 1)) then (if (wrap64 (t184 - 1)) < (l0.length : Int) then (some ((rdOf false l0 (wrap64 (t184 - 1))) == (decide (a1 > 0)))) else (none)) else (none)) else (some false)) else (some false))) = some r := h
 clear h; replace H := Option.bind_eq_some_iff.mp H
 obtain ⟨t184, A30, H⟩ := H
 replace H : (if t184 ≥ 1 then (if t184 ≤ (l0.length : Int) then (if 0 ≤ (wrap64 (t184 - 1)) then (if (wrap64 (t184 - 1)) < (l0.length : Int) then (some ((rdOf false l0 (wrap64 (t184 - 1))) == (decide (a1 > 0)))) else (none)) else (none)) else (some false)) else (some false)) = some r := H
 have A3 := Aside0.mk A30; clear A30
 by_cases c4 : t184 ≥ 1
 ·rw [if_pos c4] at H
  have c4b0 : decide (1 ≤ t184) = true := decide_eq_true c4
  clear c4
  by_cases c5 : t184 ≤ (l0.length : Int)
  ·rw [if_pos c5] at H
   have c5b0 : decide (t184 ≤ (l0.length : Int)) = true := decide_eq_true c5
   clear c5
   obtain ⟨ji6, hji6⟩ : ∃ j_ : Int, (wrap64 (t184 - 1)) = j_ := ⟨_, rfl⟩
   replace H : (if 0 ≤ (ji6) then (if (ji6) < (l0.length : Int) then (some ((rdOf false l0 (ji6)) == (decide (a1 > 0)))) else (none)) else (none)) = some r := by first | (rw [hji6] at H; exact H) | (simp only [hji6] at H ⊢; exact H)
   (try rw [hji6] at A3)
   have hji6w : (IntKind.i64.wrap (t184 - 1)) = ji6 := (i64_w _).trans hji6
   by_cases c7 : 0 ≤ (ji6)
   ·rw [if_pos c7] at H
    have c7b0 : decide (0 ≤ (ji6)) = true := decide_eq_true c7
    clear c7
    by_cases c8 : (ji6) < (l0.length : Int)
    ·rw [if_pos c8] at H
     have c8b0 : decide ((ji6) < (l0.length : Int)) = true := decide_eq_true c8
     clear c8
     obtain rfl := Option.some.inj H
     go_enter Try.func56, Try.ntmps56
     go_wp2_with (first | ((with_reducible refine gate_callee (f := 41) rfl ?_); refine goesL_ (some 7) rfl rfl Try.func41 (by kernel_rfl) rfl #[.int .i64 a1] rfl (by (try simp only [List.map_toArray, List.map_cons, List.map_nil]); first | done | rfl | (simp only [List.length_drop, List.length_take]; rfl)) ?_; (with_reducible refine (proofmarkref18_Of.calls a1 t184 _ A3.out).mono ?_); rintro e w' ⟨rfl, ⟨nd, rfl⟩⟩; refine ⟨_, rfl, ?_⟩; have p185 : 0 ≤ ((ji6) : Int) := of_decide_eq_true (by first | (with_reducible assumption) | assumption); have q185 : (ji6) < (l0.length : Int) := of_decide_eq_true (by first | (with_reducible assumption) | assumption); obtain ⟨ad185, e185, hx185_0⟩ := Kd.at_bool HR0.out (ji6) p185 q185; cases e185; replace p185 := eq_true p185; replace q185 := eq_true q185))
     go_ret
     exact ⟨by first | rfl | (simp; done) | (simp only [← hji6] <;> (first | rfl | simp)) | (simp [*]; done), by repeat (first | exact Drawn0.refl _ | apply Drawn0.step)⟩
    ·rw [if_neg c8] at H
     exact absurd H (by simp)
   ·rw [if_neg c7] at H
    exact absurd H (by simp)
  ·rw [if_neg c5] at H
   have c5b0 : decide (t184 ≤ (l0.length : Int)) = false := decide_eq_false c5
   clear c5
   obtain rfl := Option.some.inj H
   go_enter Try.func56, Try.ntmps56
   go_wp2_with (first | ((with_reducible refine gate_callee (f := 41) rfl ?_); refine goesL_ (some 7) rfl rfl Try.func41 (by kernel_rfl) rfl #[.int .i64 a1] rfl (by (try simp only [List.map_toArray, List.map_cons, List.map_nil]); first | done | rfl | (simp only [List.length_drop, List.length_take]; rfl)) ?_; (with_reducible refine (proofmarkref18_Of.calls a1 t184 _ A3.out).mono ?_); rintro e w' ⟨rfl, ⟨nd, rfl⟩⟩; refine ⟨_, rfl, ?_⟩))
   go_ret
   exact ⟨by first | rfl | (simp; done) | (simp [*]; done), by repeat (first | exact Drawn0.refl _ | apply Drawn0.step)⟩
 ·rw [if_neg c4] at H
  have c4b0 : decide (1 ≤ t184) = false := decide_eq_false c4
  clear c4
  obtain rfl := Option.some.inj H
  go_enter Try.func56, Try.ntmps56
  go_wp2_with (first | ((with_reducible refine gate_callee (f := 41) rfl ?_); refine goesL_ (some 7) rfl rfl Try.func41 (by kernel_rfl) rfl #[.int .i64 a1] rfl (by (try simp only [List.map_toArray, List.map_cons, List.map_nil]); first | done | rfl | (simp only [List.length_drop, List.length_take]; rfl)) ?_; (with_reducible refine (proofmarkref18_Of.calls a1 t184 _ A3.out).mono ?_); rintro e w' ⟨rfl, ⟨nd, rfl⟩⟩; refine ⟨_, rfl, ?_⟩))
  go_ret
  exact ⟨by first | rfl | (simp; done) | (simp [*]; done), by repeat (first | exact Drawn0.refl _ | apply Drawn0.step)⟩

/-! ### proofmarkref18_Met: function 32 -/
mutual
def proofmarkref18_Met.l0 : Nat → List (List Int) → List Bool → Int → Option (Bool)
  | 0, _, _, _ => none
  | k + 1, x0, x1, x5 => if x5 < (x0.length : Int) then (proofmarkref18_Met.l1 k x0 x1 x5 false 0) else (some true)
def proofmarkref18_Met.l1 : Nat → List (List Int) → List Bool → Int → Bool → Int → Option (Bool)
  | 0, _, _, _, _, _ => none
  | k + 1, x0, x1, x5, x6, x7 => if 0 ≤ x5 then (if x5 < (x0.length : Int) then (if x7 < ((rd_L1 x0 x5).length : Int) then (if x6 = true then (proofmarkref18_Met.l1 k x0 x1 x5 true (wrap64 (x7 + 1))) else (if 0 ≤ x7 then ((proofmarkref18_True.f x1 (rd (rd_L1 x0 x5) x7)).bind fun t189 => (proofmarkref18_Met.l1 k x0 x1 x5 t189 (wrap64 (x7 + 1)))) else (none))) else (if x6 = true then (proofmarkref18_Met.l0 k x0 x1 (wrap64 (x5 + 1))) else (some false))) else (none)) else (none)
end
def proofmarkref18_Met.f (k : Nat) (l0 : List (List Int)) (l1 : List Bool) : Option (Bool) := proofmarkref18_Met.l0 k l0 l1 0
theorem proofmarkref18_Met.mono_l : ∀ k, (∀ y0 y1 y2, LeO (proofmarkref18_Met.l0 k y0 y1 y2) (proofmarkref18_Met.l0 (k + 1) y0 y1 y2)) ∧ (∀ y0 y1 y2 y3 y4, LeO (proofmarkref18_Met.l1 k y0 y1 y2 y3 y4) (proofmarkref18_Met.l1 (k + 1) y0 y1 y2 y3 y4))
  | 0 => ⟨fun _ _ _ r h => by simp [proofmarkref18_Met.l0] at h, fun _ _ _ _ _ r h => by simp [proofmarkref18_Met.l1] at h⟩
  | k + 1 => by
    obtain ⟨ih0, ih1⟩ := proofmarkref18_Met.mono_l k
    refine ⟨?_, ?_⟩
    · intro y0 y1 y2
      unfold proofmarkref18_Met.l0
      repeat' first
      | (with_reducible exact ih0 _ _ _)
      | (with_reducible exact ih1 _ _ _ _ _)
      | (with_reducible exact LeO.refl _)
      | (with_reducible exact LeO.none _)
      | (with_reducible refine LeO.ite ?_ ?_)
      | (with_reducible refine LeO.bind ?_ (fun _ => ?_))
      | exact ih0 _ _ _
      | exact ih1 _ _ _ _ _
      | exact LeO.none _
      | refine LeO.ite ?_ ?_
      | refine LeO.bind ?_ (fun _ => ?_)
    · intro y0 y1 y2 y3 y4
      unfold proofmarkref18_Met.l1
      repeat' first
      | (with_reducible exact ih0 _ _ _)
      | (with_reducible exact ih1 _ _ _ _ _)
      | (with_reducible exact LeO.refl _)
      | (with_reducible exact LeO.none _)
      | (with_reducible refine LeO.ite ?_ ?_)
      | (with_reducible refine LeO.bind ?_ (fun _ => ?_))
      | exact ih0 _ _ _
      | exact ih1 _ _ _ _ _
      | exact LeO.none _
      | refine LeO.ite ?_ ?_
      | refine LeO.bind ?_ (fun _ => ?_)
theorem proofmarkref18_Met.mono : ∀ a0 a1 k, LeO (proofmarkref18_Met.f k a0 a1) (proofmarkref18_Met.f (k + 1) a0 a1) := by
  intro a0 a1 k
  obtain ⟨ih0, ih1⟩ := proofmarkref18_Met.mono_l k
  unfold proofmarkref18_Met.f
  repeat' first
      | (with_reducible exact ih0 _ _ _)
      | (with_reducible exact ih1 _ _ _ _ _)
      | (with_reducible exact LeO.refl _)
      | (with_reducible exact LeO.none _)
      | (with_reducible refine LeO.ite ?_ ?_)
      | (with_reducible refine LeO.bind ?_ (fun _ => ?_))
      | exact ih0 _ _ _
      | exact ih1 _ _ _ _ _
      | exact LeO.none _
      | refine LeO.ite ?_ ?_
      | refine LeO.bind ?_ (fun _ => ?_)
set_option maxHeartbeats 8000000 in
set_option maxRecDepth 100000 in
theorem proofmarkref18_Met.calls (k : Nat) (A0 : Option Addr) (c0 : Nat) (l0 : List (List Int)) (A1 : Option Addr) (c1 : Nat) (l1 : List Bool) (r : Bool) (w : World) (hr0 : Kd.C (Kd.slice 3 (Kd.int .i64)) w A0 l0.length l0) (hc0 : l0.length ≤ c0) (hr1 : Kd.C Kd.bool w A1 l1.length l1) (hc1 : l1.length ≤ c1) (h : proofmarkref18_Met.f k l0 l1 = some r) :
  Calls Try.prog 32 #[.slice A0 l0.length c0, .slice A1 l1.length c1] w fun e w' => e = .returned (.bool r) ∧ Drawn0 w w' := by
 have HR0 := Aside0.mk hr0; have HC0 := Aside0.mk hc0; clear hr0 hc0; have HR1 := Aside0.mk hr1; have HC1 := Aside0.mk hc1; clear hr1 hc1
 have H : (proofmarkref18_Met.l0 k l0 l1 0) = some r := h
 clear h; have H' := Aside0.mk H; clear H
 go_enter Try.func32, Try.ntmps32
 go_wp2
 go_loopg [5] k (fun kq v5 w' => ∃ (x5_1 : Int), v5 = .int .i64 x5_1 ∧ Aside0 (proofmarkref18_Met.l0 kq l0 l1 x5_1 = some r) ∧ Aside0 (kq ≤ k) ∧ Drawn0 w w')
 case atStart => exact ⟨(0), (by first | rfl | (simp; done) | (simp [*]; done) | (simp [bne_nil_]; done)), H', ⟨Nat.le_refl _⟩, by repeat (first | exact Drawn0.refl _ | apply Drawn0.step)⟩
 case round =>
  clear H'
  try clear c1
  try clear p2
  obtain ⟨x5_1, rfl, HA, HK1, ⟨m1, rfl⟩⟩ := hrel
  cases gk with
  | zero => exact absurd HA.out (by simp [proofmarkref18_Met.l0])
  | succ k1 =>
   have H := HA.out; clear HA
   simp only [proofmarkref18_Met.l0] at H
   by_cases c3 : x5_1 < (l0.length : Int)
   ·rw [if_pos c3] at H
    have c3b0 : decide (x5_1 < (l0.length : Int)) = true := decide_eq_true c3
    clear c3; have H' := Aside0.mk H; clear H
    go_wp2
    go_loopg [6, 7] k1 (fun kq v6 v7 w' => ∃ (x6_2 : Bool) (x7_2 : Int), v6 = .bool x6_2 ∧ v7 = .int .i64 x7_2 ∧ Aside0 (proofmarkref18_Met.l1 kq l0 l1 x5_1 x6_2 x7_2 = some r) ∧ Aside0 (kq ≤ k1) ∧ Drawn0 w w')
    case atStart => exact ⟨(false), (0), (by first | rfl | (simp; done) | (simp [*]; done) | (simp [bne_nil_]; done)), (by first | rfl | (simp; done) | (simp [*]; done) | (simp [bne_nil_]; done)), H', ⟨Nat.le_refl _⟩, by repeat (first | exact Drawn0.refl _ | apply Drawn0.step)⟩
    case round =>
     clear H'
     try clear c1
     try clear p2
     try clear c3
     try clear c3b0
     try clear p2
     obtain ⟨x6_2, x7_2, rfl, rfl, HA, HK2, ⟨m2, rfl⟩⟩ := hrel
     cases gk with
     | zero => exact absurd HA.out (by simp [proofmarkref18_Met.l1])
     | succ k2 =>
      have H := HA.out; clear HA
      simp only [proofmarkref18_Met.l1] at H
      by_cases c4 : 0 ≤ x5_1
      ·rw [if_pos c4] at H
       have c4b0 : decide (0 ≤ x5_1) = true := decide_eq_true c4
       clear c4
       by_cases c5 : x5_1 < (l0.length : Int)
       ·rw [if_pos c5] at H
        have c5b0 : decide (x5_1 < (l0.length : Int)) = true := decide_eq_true c5
        clear c5
        by_cases c6 : x7_2 < ((rd_L1 l0 x5_1).length : Int)
        ·rw [if_pos c6] at H
         have c6b0 : decide (x7_2 < ((rd_L1 l0 x5_1).length : Int)) = true := decide_eq_true c6
         clear c6
         by_cases c7 : x6_2 = true
         ·subst c7
          have H1 : (proofmarkref18_Met.l1 k2 l0 l1 x5_1 true (wrap64 (x7_2 + 1))) = some r := by rw [if_pos rfl] at H; exact H
          clear H; have H := H1; clear H1; have H' := Aside0.mk H; clear H
          have p186 : 0 ≤ (x5_1 : Int) := of_decide_eq_true (by first | (with_reducible assumption) | assumption)
          have q186 : x5_1 < (l0.length : Int) := of_decide_eq_true (by first | (with_reducible assumption) | assumption)
          obtain ⟨ad186, A186_0, c186_0, e186, hx186_0, hl186_0, hi186_0⟩ := at_L1 HR0.out x5_1 p186 q186
          cases e186
          have HR186_0 := Aside0.mk hi186_0; have HC186_0 := Aside0.mk hl186_0; clear hi186_0 hl186_0; replace p186 := eq_true p186; replace q186 := eq_true q186
          go_wp2
          go_roundg k2
          case measure => have := HK1.out; have := HK2.out; omega
          case rel => exact ⟨(true), (wrap64 (x7_2 + 1)), (by first | rfl | (simp; done) | (simp [*]; done) | (simp [bne_nil_]; done)), (by first | rfl | (simp; done) | (simp [*]; done) | (simp [bne_nil_]; done)), H', ⟨by have := HK1.out; have := HK2.out; omega⟩, by repeat (first | exact Drawn0.refl _ | apply Drawn0.step)⟩
         ·replace c7 := Bool.eq_false_iff.mpr c7; subst c7
          have H1 : (if 0 ≤ x7_2 then ((proofmarkref18_True.f l1 (rd (rd_L1 l0 x5_1) x7_2)).bind fun t189 => (proofmarkref18_Met.l1 k2 l0 l1 x5_1 t189 (wrap64 (x7_2 + 1)))) else (none)) = some r := by rw [if_neg (show ¬ (false = true) by decide)] at H; exact H
          clear H; have H := H1; clear H1
          by_cases c8 : 0 ≤ x7_2
          ·rw [if_pos c8] at H
           have c8b0 : decide (0 ≤ x7_2) = true := decide_eq_true c8
           clear c8; replace H := Option.bind_eq_some_iff.mp H
           obtain ⟨t189, A90, H⟩ := H
           replace H : (proofmarkref18_Met.l1 k2 l0 l1 x5_1 t189 (wrap64 (x7_2 + 1))) = some r := H
           have A9 := Aside0.mk A90; clear A90; have H' := Aside0.mk H; clear H
           have p186 : 0 ≤ (x5_1 : Int) := of_decide_eq_true (by first | (with_reducible assumption) | assumption)
           have q186 : x5_1 < (l0.length : Int) := of_decide_eq_true (by first | (with_reducible assumption) | assumption)
           obtain ⟨ad186, A186_0, c186_0, e186, hx186_0, hl186_0, hi186_0⟩ := at_L1 HR0.out x5_1 p186 q186
           cases e186
           have HR186_0 := Aside0.mk hi186_0; have HC186_0 := Aside0.mk hl186_0; clear hi186_0 hl186_0; replace p186 := eq_true p186; replace q186 := eq_true q186
           have p187 : 0 ≤ (x5_1 : Int) := of_decide_eq_true (by first | (with_reducible assumption) | assumption)
           have q187 : x5_1 < (l0.length : Int) := of_decide_eq_true (by first | (with_reducible assumption) | assumption)
           obtain ⟨ad187, A187_0, c187_0, e187, hx187_0, hl187_0, hi187_0⟩ := at_L1 HR0.out x5_1 p187 q187
           obtain rfl : ad186 = ad187 := (by injection e187)
           have HR187_0 := Aside0.mk hi187_0; have HC187_0 := Aside0.mk hl187_0; clear hi187_0 hl187_0; replace p187 := eq_true p187; replace q187 := eq_true q187
           have ea_ := Option.some.inj (hx186_0.symm.trans hx187_0)
           injection ea_ with ea_ en_ ec_
           subst ea_; subst ec_; clear en_
           have p188 : 0 ≤ (x7_2 : Int) := of_decide_eq_true (by first | (with_reducible assumption) | assumption)
           have q188 : x7_2 < ((rd_L1 l0 x5_1).length : Int) := of_decide_eq_true (by first | (with_reducible assumption) | assumption)
           obtain ⟨ad188, e188, hx188_0⟩ := Kd.at_int HR187_0.out x7_2 p188 q188
           cases e188
           replace p188 := eq_true p188; replace q188 := eq_true q188
           go_wp2_with (first | (go_at_call 56; (with_reducible refine (proofmarkref18_True.calls _ _ l1 (rd (rd_L1 l0 x5_1) x7_2) t189 _ ?side1 ?side2 A9.out).mono ?_); (case side1 => repeat (first | exact HR1.out | (with_reducible refine Kd.C_alloc ?_ _) | (with_reducible refine Kd.C_drewN ?_ _) | (with_reducible refine Kd.C_drew ?_))); (case side2 => exact HC1.out); rintro e w' ⟨rfl, ⟨nd, rfl⟩⟩))
           go_roundg k2
           case measure => have := HK1.out; have := HK2.out; omega
           case rel => exact ⟨(t189), (wrap64 (x7_2 + 1)), (by first | rfl | (simp; done) | (simp [*]; done) | (simp [bne_nil_]; done)), (by first | rfl | (simp; done) | (simp [*]; done) | (simp [bne_nil_]; done)), H', ⟨by have := HK1.out; have := HK2.out; omega⟩, by repeat (first | exact Drawn0.refl _ | apply Drawn0.step)⟩
          ·rw [if_neg c8] at H
           exact absurd H (by simp)
        ·rw [if_neg c6] at H
         have c6b0 : decide (x7_2 < ((rd_L1 l0 x5_1).length : Int)) = false := decide_eq_false c6
         clear c6
         by_cases c10 : x6_2 = true
         ·subst c10
          have H1 : (proofmarkref18_Met.l0 k2 l0 l1 (wrap64 (x5_1 + 1))) = some r := by rw [if_pos rfl] at H; exact H
          clear H; have H := H1; clear H1; have H' := Aside0.mk H; clear H
          have p186 : 0 ≤ (x5_1 : Int) := of_decide_eq_true (by first | (with_reducible assumption) | assumption)
          have q186 : x5_1 < (l0.length : Int) := of_decide_eq_true (by first | (with_reducible assumption) | assumption)
          obtain ⟨ad186, A186_0, c186_0, e186, hx186_0, hl186_0, hi186_0⟩ := at_L1 HR0.out x5_1 p186 q186
          cases e186
          have HR186_0 := Aside0.mk hi186_0; have HC186_0 := Aside0.mk hl186_0; clear hi186_0 hl186_0; replace p186 := eq_true p186; replace q186 := eq_true q186
          go_wp2
          go_roundg k2
          case measure => have := HK1.out; have := HK2.out; omega
          case rel => exact ⟨(wrap64 (x5_1 + 1)), (by first | rfl | (simp; done) | (simp [*]; done) | (simp [bne_nil_]; done)), H', ⟨by have := HK1.out; have := HK2.out; omega⟩, by repeat (first | exact Drawn0.refl _ | apply Drawn0.step)⟩
         ·replace c10 := Bool.eq_false_iff.mpr c10; subst c10
          have H1 : (some false) = some r := by rw [if_neg (show ¬ (false = true) by decide)] at H; exact H
          clear H; have H := H1; clear H1
          obtain rfl := Option.some.inj H
          have p186 : 0 ≤ (x5_1 : Int) := of_decide_eq_true (by first | (with_reducible assumption) | assumption)
          have q186 : x5_1 < (l0.length : Int) := of_decide_eq_true (by first | (with_reducible assumption) | assumption)
          obtain ⟨ad186, A186_0, c186_0, e186, hx186_0, hl186_0, hi186_0⟩ := at_L1 HR0.out x5_1 p186 q186
          cases e186
          have HR186_0 := Aside0.mk hi186_0; have HC186_0 := Aside0.mk hl186_0; clear hi186_0 hl186_0; replace p186 := eq_true p186; replace q186 := eq_true q186
          go_wp2
          go_ret
          exact ⟨by first | rfl | (simp; done) | (simp [*]; done), by repeat (first | exact Drawn0.refl _ | apply Drawn0.step)⟩
       ·rw [if_neg c5] at H
        exact absurd H (by simp)
      ·rw [if_neg c4] at H
       exact absurd H (by simp)
   ·rw [if_neg c3] at H
    have c3b0 : decide (x5_1 < (l0.length : Int)) = false := decide_eq_false c3
    clear c3
    obtain rfl := Option.some.inj H
    go_wp2
    go_ret
    exact ⟨by first | rfl | (simp; done) | (simp [*]; done), by repeat (first | exact Drawn0.refl _ | apply Drawn0.step)⟩

/-! ### proofmarkref18_but: function 68 -/
def proofmarkref18_but.l0 : Nat → List Int → Int → List Int → Int → Option (List Int)
  | 0, _, _, _, _ => none
  | k + 1, x0, x1, x5, x6 => if x6 < (x0.length : Int) then (if 0 ≤ x6 then (if (rd x0 x6) = x1 then (proofmarkref18_but.l0 k x0 x1 x5 (wrap64 (x6 + 1))) else (if x5.length < 17592186044416 then (proofmarkref18_but.l0 k x0 x1 (x5 ++ [rd x0 x6]) (wrap64 (x6 + 1))) else (none))) else (none)) else (some x5)
def proofmarkref18_but.f (k : Nat) (l0 : List Int) (a1 : Int) : Option (List Int) := proofmarkref18_but.l0 k l0 a1 (([] : List Int)) 0
theorem proofmarkref18_but.mono_l : ∀ k, (∀ y0 y1 y2 y3, LeO (proofmarkref18_but.l0 k y0 y1 y2 y3) (proofmarkref18_but.l0 (k + 1) y0 y1 y2 y3))
  | 0 => fun _ _ _ _ r h => by simp [proofmarkref18_but.l0] at h
  | k + 1 => by
    have ih0 := proofmarkref18_but.mono_l k
    · intro y0 y1 y2 y3
      unfold proofmarkref18_but.l0
      repeat' first
      | (with_reducible exact ih0 _ _ _ _)
      | (with_reducible exact LeO.refl _)
      | (with_reducible exact LeO.none _)
      | (with_reducible refine LeO.ite ?_ ?_)
      | (with_reducible refine LeO.bind ?_ (fun _ => ?_))
      | exact ih0 _ _ _ _
      | exact LeO.none _
      | refine LeO.ite ?_ ?_
      | refine LeO.bind ?_ (fun _ => ?_)
theorem proofmarkref18_but.mono : ∀ a0 a1 k, LeO (proofmarkref18_but.f k a0 a1) (proofmarkref18_but.f (k + 1) a0 a1) := by
  intro a0 a1 k
  have ih0 := proofmarkref18_but.mono_l k
  unfold proofmarkref18_but.f
  repeat' first
      | (with_reducible exact ih0 _ _ _ _)
      | (with_reducible exact LeO.refl _)
      | (with_reducible exact LeO.none _)
      | (with_reducible refine LeO.ite ?_ ?_)
      | (with_reducible refine LeO.bind ?_ (fun _ => ?_))
      | exact ih0 _ _ _ _
      | exact LeO.none _
      | refine LeO.ite ?_ ?_
      | refine LeO.bind ?_ (fun _ => ?_)
set_option maxHeartbeats 8000000 in
set_option maxRecDepth 100000 in
theorem proofmarkref18_but.calls (k : Nat) (A0 : Option Addr) (c0 : Nat) (l0 : List Int) (a1 : Int) (r : List Int) (w : World) (hr0 : Kd.C (Kd.int .i64) w A0 l0.length l0) (hc0 : l0.length ≤ c0) (h : proofmarkref18_but.f k l0 a1 = some r) :
  Calls Try.prog 68 #[.slice A0 l0.length c0, .int .i64 a1] w fun e w' => ∃ v0_ : Value, e = .returned (v0_) ∧ Kd.R (Kd.int .i64) 3 w' w.heap.size (fun _ => True) v0_ r ∧ Below w.heap.size w w' := by
 have HR0 := Aside0.mk hr0; have HC0 := Aside0.mk hc0; clear hr0 hc0; have HB := Aside0.mk (Below.refl w.heap.size w)
 have H : (proofmarkref18_but.l0 k l0 a1 (([] : List Int)) 0) = some r := h
 clear h
 obtain ⟨y190, hy190⟩ : ∃ y_ : List Int, y_ = (([] : List Int)) := ⟨_, rfl⟩
 replace H : (proofmarkref18_but.l0 k l0 a1 y190 0) = some r := by first | (rw [hy190]; with_reducible exact H) | (have H2_ := (Option.bind_some _ _).symm.trans H; rw [hy190]; with_reducible exact H2_) | (have H2_ := (Option.bind_some _ _).symm.trans H; with_reducible exact H2_) | with_reducible exact H | (rw [hy190]; exact H) | exact H
 have Ny190 := Aside0.mk hy190; clear hy190; have H' := Aside0.mk H; clear H
 go_enter Try.func68, Try.ntmps68
 go_wp2_with (first | ((with_reducible refine gate_dst (N := 7) rfl ?_); refine Kd.R_lit (Kd.int .i64) _ 3 ?hg (N := 7) ?hd (xs := ([] : List Int)) (inner := []) (ok := fun _ => True) (okp := fun _ => True) ?hr ?hp (fun _ hk => hk) trivial (Below.refl _ _) (Nat.le_refl _) (by simp) ?_; (case hd => rfl); (case hg => rfl); (case hr => first | (go_simp; done) | (go_simp; rfl)); (case hp => exact (Reps.none _ _)); intro v191 w3 ho4 hb hg_ hnew_; clear hg_ hnew_; (first | rw [← Ny190.out] at ho4 | (simp only [Int.reduceToNat] at ho4; rw [← Ny190.out] at ho4)); have n0_ := Aside0.mk (Kd.R_lower ho4 (below_size (by repeat (first | (with_reducible first | exact HB.out | apply below_alloc | apply pw_below_drewN | apply below_drew1) | exact HB.out)))); have n1_ := Aside0.mk (below_step (by repeat (first | (with_reducible first | exact HB.out | apply below_alloc | apply pw_below_drewN | apply below_drew1) | exact HB.out)) hb); clear HB; have HO192 := n0_; have HB := n1_; clear n0_ n1_; clear hb ho4))
 go_loopg [5, 6] k (fun kq v5 v6 w' => ∃ (x5_1 : List Int) (x6_1 : Int), v6 = .int .i64 x6_1 ∧ Aside0 (proofmarkref18_but.l0 kq l0 a1 x5_1 x6_1 = some r) ∧ Aside0 (kq ≤ k) ∧ Aside0 (Kd.R (Kd.int .i64) 3 w' w.heap.size (fun _ => True) v5 x5_1) ∧ Aside0 (Below w.heap.size w w'))
 case atStart => exact ⟨(y190), (0), (by first | rfl | (simp; done) | (simp [*]; done) | (simp [bne_nil_]; done)), H', ⟨Nat.le_refl _⟩, ⟨by (with_reducible repeat (first | apply Kd.R_alloc | apply Kd.R_drewN | apply Kd.R_drew)); exact HO192.out⟩, ⟨by repeat (first | (with_reducible first | exact HB.out | apply below_alloc | apply pw_below_drewN | apply below_drew1) | exact HB.out)⟩⟩
 case round =>
  clear H'
  try clear p2
  obtain ⟨x5_1, x6_1, rfl, HA, HK1, HO_5, HB⟩ := hrel
  cases gk with
  | zero => exact absurd HA.out (by simp [proofmarkref18_but.l0])
  | succ k1 =>
   have H := HA.out; clear HA
   simp only [proofmarkref18_but.l0] at H
   by_cases c5 : x6_1 < (l0.length : Int)
   ·rw [if_pos c5] at H
    have c5b0 : decide (x6_1 < (l0.length : Int)) = true := decide_eq_true c5
    clear c5
    by_cases c6 : 0 ≤ x6_1
    ·rw [if_pos c6] at H
     have c6b0 : decide (0 ≤ x6_1) = true := decide_eq_true c6
     clear c6
     by_cases c7 : (rd l0 x6_1) = a1
     ·rw [if_pos c7] at H
      have c7b0 : ((rd l0 x6_1) == a1) = true := beq_iff_eq.mpr c7
      have c7b1 : ((rd l0 x6_1) != a1) = false := bne_eq_false_iff_eq.mpr c7
      clear c7; have H' := Aside0.mk H; clear H
      have p193 : 0 ≤ (x6_1 : Int) := of_decide_eq_true (by first | (with_reducible assumption) | assumption)
      have q193 : x6_1 < (l0.length : Int) := of_decide_eq_true (by first | (with_reducible assumption) | assumption)
      obtain ⟨ad193, e193, hx193_0⟩ := Kd.at_int HR0.out x6_1 p193 q193
      cases e193
      replace hx193_0 := (HB.out.cell (World.block_lt_of_cell? w _ hx193_0)).trans hx193_0
      replace p193 := eq_true p193; replace q193 := eq_true q193
      go_wp2
      go_roundg k1
      case measure => have := HK1.out; omega
      case rel => exact ⟨(x5_1), (wrap64 (x6_1 + 1)), (by first | rfl | (simp; done) | (simp [*]; done) | (simp [bne_nil_]; done)), H', ⟨by have := HK1.out; omega⟩, ⟨by (with_reducible repeat (first | apply Kd.R_alloc | apply Kd.R_drewN | apply Kd.R_drew)); exact HO_5.out⟩, ⟨by repeat (first | (with_reducible first | exact HB.out | apply below_alloc | apply pw_below_drewN | apply below_drew1) | exact HB.out)⟩⟩
     ·rw [if_neg c7] at H
      have c7b0 : ((rd l0 x6_1) == a1) = false := beq_eq_false_iff_ne.mpr c7
      have c7b1 : ((rd l0 x6_1) != a1) = true := bne_iff_ne.mpr c7
      by_cases c8 : x5_1.length < 17592186044416
      ·rw [if_pos c8] at H
       have LMc8 := Aside0.mk c8; clear c8
       obtain ⟨y195, hy195⟩ : ∃ y_ : List Int, y_ = (x5_1 ++ [rd l0 x6_1]) := ⟨_, rfl⟩
       replace H : (proofmarkref18_but.l0 k1 l0 a1 y195 (wrap64 (x6_1 + 1))) = some r := by first | (rw [hy195]; with_reducible exact H) | (have H2_ := (Option.bind_some _ _).symm.trans H; rw [hy195]; with_reducible exact H2_) | (have H2_ := (Option.bind_some _ _).symm.trans H; with_reducible exact H2_) | with_reducible exact H | (rw [hy195]; exact H) | exact H
       have Ny195 := Aside0.mk hy195; clear hy195; have H' := Aside0.mk H; clear H
       have p193 : 0 ≤ (x6_1 : Int) := of_decide_eq_true (by first | (with_reducible assumption) | assumption)
       have q193 : x6_1 < (l0.length : Int) := of_decide_eq_true (by first | (with_reducible assumption) | assumption)
       obtain ⟨ad193, e193, hx193_0⟩ := Kd.at_int HR0.out x6_1 p193 q193
       cases e193
       replace hx193_0 := (HB.out.cell (World.block_lt_of_cell? w _ hx193_0)).trans hx193_0
       replace p193 := eq_true p193; replace q193 := eq_true q193
       have p194 : 0 ≤ (x6_1 : Int) := of_decide_eq_true (by first | (with_reducible assumption) | assumption)
       have q194 : x6_1 < (l0.length : Int) := of_decide_eq_true (by first | (with_reducible assumption) | assumption)
       obtain ⟨ad194, e194, hx194_0⟩ := Kd.at_int HR0.out x6_1 p194 q194
       obtain rfl : ad193 = ad194 := (by injection e194)
       replace hx194_0 := (HB.out.cell (World.block_lt_of_cell? w _ hx194_0)).trans hx194_0
       replace p194 := eq_true p194; replace q194 := eq_true q194
       go_wp2_with (first | ((with_reducible refine gate_builtin (b := .append) (xs := #[.tmp 20, .tmp 25]) rfl ?_); at_builtin; refine Kd.R_append (Kd.int .i64) (w0 := w) w.heap.size rfl (.tmp 20) (.tmp 25) 23 3 (.int .i64 0) 8 rfl Try.underlying23 info3 rfl (by decide) (by omega) u5 x5_1 (rd l0 x6_1) [.int .i64 (rd l0 x6_1)] (fun _ => True) (fun _ => False) rfl rfl ?aP (fun _ hk => hk.elim) ?aF ?aO ?aB ?aS ?aL ?_; (case aP => exact rfl); (case aB => exact (by repeat (first | (with_reducible first | exact HB.out | apply below_alloc | apply pw_below_drewN | apply below_drew1) | exact HB.out))); (case aF => exact (fun _ _ => trivial)); (case aO => exact (by (with_reducible repeat (first | apply Kd.R_alloc | apply Kd.R_drewN | apply Kd.R_drew)); exact HO_5.out)); (case aS => exact (below_size (by repeat (first | (with_reducible first | exact HB.out | apply below_alloc | apply pw_below_drewN | apply below_drew1) | exact HB.out)))); (case aL => have := LMc8.out; omega); intro v196 w9 ho hb hg hat; rw [← Ny195.out] at ho; have n0_ := Aside0.mk (hb); have n1_ := Aside0.mk (ho); clear HB; clear HO_5; have HB := n0_; have HO197 := n1_; clear n0_ n1_; clear ho hb hg hat))
       go_roundg k1
       case measure => have := HK1.out; omega
       case rel => exact ⟨(y195), (wrap64 (x6_1 + 1)), (by first | rfl | (simp; done) | (simp [*]; done) | (simp [bne_nil_]; done)), H', ⟨by have := HK1.out; omega⟩, ⟨by (with_reducible repeat (first | apply Kd.R_alloc | apply Kd.R_drewN | apply Kd.R_drew)); exact HO197.out⟩, ⟨by repeat (first | (with_reducible first | exact HB.out | apply below_alloc | apply pw_below_drewN | apply below_drew1) | exact HB.out)⟩⟩
      ·rw [if_neg c8] at H
       exact absurd H (by simp)
    ·rw [if_neg c6] at H
     exact absurd H (by simp)
   ·rw [if_neg c5] at H
    have c5b0 : decide (x6_1 < (l0.length : Int)) = false := decide_eq_false c5
    clear c5
    obtain rfl := Option.some.inj H
    go_wp2
    go_ret
    exact ⟨_, by first | rfl | (simp [errW_none, errW_some] <;> rfl) | (simp [*, errW_none, errW_some] <;> rfl), by (with_reducible repeat (first | apply Kd.R_alloc | apply Kd.R_drewN | apply Kd.R_drew)); exact HO_5.out, by repeat (first | (with_reducible first | exact HB.out | apply below_alloc | apply pw_below_drewN | apply below_drew1) | exact HB.out)⟩

end
end Go.Proofs.Ytdlfmobnmcamaaa.Q
