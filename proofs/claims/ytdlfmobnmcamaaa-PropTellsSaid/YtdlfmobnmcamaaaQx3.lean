/- Written by hyb.py, a program of this session that drives the kit's printer over this seat's translation: each function as a plain Lean function, and a proof that the Go code does what it says. Lean checks it. -/
import Derived.Test.YtdlfmobnmcamaaaQx0
import Derived.Test.YtdlfmobnmcamaaaShelf
import Derived.Sort.OwnSortedInts
namespace Go.Proofs.Ytdlfmobnmcamaaa.Q
open Go.RowKit Go.Proofs.YtdlfmobnmcamaaaW.PrintWords Go.Proofs.YtdlfmobnmcamaaaW.PrintLast Go.Proofs.YtdlfmobnmcamaaaW.PrintMore
attribute [local go_sem] max2_int min2_int max_two min_two max_three min_three max_four min_four   -- for this text's walks alone
set_option linter.unusedVariables false
set_option linter.unusedSimpArgs false

noncomputable section
-- HAND
/-! ### prop_Met: function 31, by hand -/
theorem enters_my {P : Program} {f : FuncId} {fn : Func} {c : Code} (hf : P.funcs[f]? = some fn) (hname : (fn.name == "runtime.NumGoroutine") = false) (hb : fn.body = some c) : ∀ (args : Array Value) (w : World), (callFunc f args).run P w = .ok (.enter f args) w := by
  intro args w
  have h1 : fn.name ≠ "runtime.NumGoroutine" := by simpa using hname
  simp [callFunc, hf, h1, hb, mark]
/-- Where a test holds first, counted from i on; -1: nowhere. -/
def fidx (p : Int → Bool) : List Int → Nat → Int
  | [], _ => -1
  | x :: r, i => if p x = true then (i : Int) else fidx p r (i + 1)
theorem fidx_any (p : Int → Bool) : ∀ (l : List Int) (i : Nat), decide (0 ≤ fidx p l i) = l.any p
  | [], i => by simp [fidx]
  | x :: r, i => by
    rw [fidx, List.any_cons]
    by_cases c : p x = true
    · rw [if_pos c, c]; simp
    · rw [if_neg c, fidx_any p r (i + 1)]
      simp at c
      simp [c]
theorem fidx_end (p : Int → Bool) (l : List Int) (i : Nat) (h : l.length ≤ i) (z : Int) (hz : fidx p (l.drop i) i = z) : z = -1 := by
  rw [List.drop_eq_nil_of_le h, fidx] at hz; exact hz.symm
theorem fidx_hit (p : Int → Bool) (l : List Int) (i : Nat) (h : i < l.length) (hp : p (rd l (i : Int)) = true) : fidx p (l.drop i) i = (i : Int) := by
  have e : rd l (i : Int) = l[i] := by simp [rd, List.getD_eq_getElem?_getD, h]
  rw [e] at hp
  rw [List.drop_eq_getElem_cons h, fidx, if_pos hp]
theorem fidx_miss (p : Int → Bool) (l : List Int) (i : Nat) (h : i < l.length) (hp : p (rd l (i : Int)) = false) : fidx p (l.drop i) i = fidx p (l.drop (i + 1)) (i + 1) := by
  have e : rd l (i : Int) = l[i] := by simp [rd, List.getD_eq_getElem?_getD, h]
  rw [e] at hp
  rw [List.drop_eq_getElem_cons h, fidx, if_neg (by simp [hp])]
/-- What a function value does that is asked of numbers, in whatever later world: it answers, and reads. -/
structure Asks (K : Nat) (cap : Array Value) (w : World) (p : Int → Bool) : Prop where
  mk :: (out : ∀ (x : Int) (w' : World), Below w.heap.size w w' → Calls Try.prog K (#[.int .i64 x] ++ cap) w' fun e w'' => e = .returned (.bool (p x)) ∧ Drawn0 w' w'')
theorem Asks.below {K : Nat} {cap : Array Value} {w w1 : World} {p : Int → Bool} (h : Asks K cap w p) (hb : Below w.heap.size w w1) : Asks K cap w1 p :=
  ⟨fun x w' hb' => h.out x w' (below_step hb hb')⟩
/-- One call of it, the answer known. -/
theorem Asks.at_ {K : Nat} {cap : Array Value} {w : World} {p : Int → Bool} (h : Asks K cap w p) (x : Int) (b : Bool) (hb : Aside0 (p x = b)) (w' : World) (hw : Aside0 (Below w.heap.size w w')) : Calls Try.prog K (#[.int .i64 x] ++ cap) w' fun e w'' => e = .returned (.bool b) ∧ Drawn0 w' w'' := by
  have := h.out x w' hw.out
  rw [hb.out] at this
  exact this
set_option maxHeartbeats 8000000 in
set_option maxRecDepth 100000 in
theorem indexFunc_any (K : Nat) (p1 : Addr) (p : Int → Bool) (A0 : Option Addr) (c0 : Nat) (l0 : List Int) (w : World) (hr0 : Kd.C (Kd.int .i64) w A0 l0.length l0) (hc0 : l0.length ≤ c0)
    (ha : Asks K #[.pointer (some p1)] w p) (eg : ∀ args w, (callFunc K args).run Try.prog w = .ok (.enter K args) w) :
    Calls Try.prog 71 #[.slice A0 l0.length c0, .func (.func K) #[] #[.pointer (some p1)]] w fun e w' => e = .returned (.int .i64 (fidx p l0 0)) ∧ Drawn0 w w' := by
  have HR0 := Aside0.mk hr0
  have HC0 := Aside0.mk hc0
  have hm : l0.length ≤ 9223372036854775807 := hr0.2.1
  clear hr0 hc0
  obtain ⟨z, hz⟩ : ∃ z, fidx p l0 0 = z := ⟨_, rfl⟩
  rw [hz]
  have HZ := Aside0.mk hz
  clear hz
  go_enter Try.func71, Try.ntmps71
  go_wp2
  go_loopw [5, 8] (fun _ v w' => ∃ i : Nat, v = .int .i64 (i : Int) ∧ Aside0 (fidx p (l0.drop i) i = z) ∧ i ≤ l0.length ∧ Drawn0 w w') (fun _ v _ => l0.length - (intOf v).toNat)
  case atStart => exact ⟨0, rfl, ⟨by rw [List.drop_zero]; exact HZ.out⟩, by omega, Drawn0.refl _⟩
  case round =>
    obtain ⟨i, rfl, HI, hi, ⟨nd, rfl⟩⟩ := hrel
    by_cases hlt : i < l0.length
    · obtain ⟨ad, rfl, hx⟩ := Kd.at_int HR0.out (i : Int) (by omega) (by omega)
      rw [Int.toNat_natCast] at hx
      cases hpx : p (rd l0 (i : Int)) with
      | true =>
        have HP := Aside0.mk hpx
        have HE : Aside0 (z = (i : Int)) := ⟨by have h1 := fidx_hit p l0 i hlt hpx; rw [HI.out] at h1; exact h1⟩
        clear hpx
        go_wp2_with (refine (ha.at_ _ true HP _ ⟨by first | exact pw_below_drewN (Below.refl _ _) _ | exact Below.refl _ _⟩).mono ?_; rintro e w' ⟨rfl, ⟨nd2, rfl⟩⟩)
        go_ret
        exact ⟨by rw [HE.out]; rfl, by repeat (first | exact Drawn0.refl _ | apply Drawn0.step)⟩
      | false =>
        have HP := Aside0.mk hpx
        have HI2 := Aside0.mk ((fidx_miss p l0 i hlt hpx).symm.trans HI.out)
        clear hpx
        go_wp2_with (refine (ha.at_ _ false HP _ ⟨by first | exact pw_below_drewN (Below.refl _ _) _ | exact Below.refl _ _⟩).mono ?_; rintro e w' ⟨rfl, ⟨nd2, rfl⟩⟩)
        go_roundw
        case rel => exact ⟨i + 1, by go_num, HI2, by omega, by repeat (first | exact Drawn0.refl _ | apply Drawn0.step)⟩
        case measure => simp [intOf]; omega
    · have HE : Aside0 (z = -1) := ⟨fidx_end p l0 i (by omega) z HI.out⟩
      go_wp2
      go_ret
      exact ⟨by rw [HE.out]; rfl, by repeat (first | exact Drawn0.refl _ | apply Drawn0.step)⟩
theorem containsFunc_any (K : Nat) (p1 : Addr) (p : Int → Bool) (A0 : Option Addr) (c0 : Nat) (l0 : List Int) (w : World) (hr0 : Kd.C (Kd.int .i64) w A0 l0.length l0) (hc0 : l0.length ≤ c0)
    (ha : Asks K #[.pointer (some p1)] w p) (eg : ∀ args w, (callFunc K args).run Try.prog w = .ok (.enter K args) w) :
    Calls Try.prog 55 #[.slice A0 l0.length c0, .func (.func K) #[] #[.pointer (some p1)]] w fun e w' => e = .returned (.bool (l0.any p)) ∧ Drawn0 w w' := by
  have hx := indexFunc_any K p1 p A0 c0 l0 w hr0 hc0 ha eg
  rw [← fidx_any p l0 0]
  generalize fidx p l0 0 = z at hx ⊢
  have HX := Aside0.mk hx
  clear hx hr0 hc0
  go_enter Try.func55, Try.ntmps55
  go_wp2_with (go_at_call 71; refine HX.out.mono ?_; rintro e w' ⟨rfl, ⟨nd, rfl⟩⟩)
  go_ret
  exact ⟨rfl, by repeat (first | exact Drawn0.refl _ | apply Drawn0.step)⟩

theorem containsFunc_at (K : Nat) (p1 : Addr) (p : Int → Bool) (A0 : Option Addr) (c0 : Nat) (l0 : List Int) (b : Bool) (w : World) (hr0 : Kd.C (Kd.int .i64) w A0 l0.length l0) (hc0 : l0.length ≤ c0)
    (ha : Asks K #[.pointer (some p1)] w p) (eg : ∀ args w, (callFunc K args).run Try.prog w = .ok (.enter K args) w) (hb : Aside0 (l0.any p = b)) :
    Calls Try.prog 55 #[.slice A0 l0.length c0, .func (.func K) #[] #[.pointer (some p1)]] w fun e w' => e = .returned (.bool b) ∧ Drawn0 w w' := by
  rw [← hb.out]; exact containsFunc_any K p1 p A0 c0 l0 w hr0 hc0 ha eg
/-- A literal's variable; 0: it is none. -/
def pvar (x : Int) : Int := mx (mx x (wrap64 (-x))) 0
/-- Does a model make a literal true? -/
def litTrue (m : List Bool) (x : Int) : Bool := decide (0 < pvar x) && decide (pvar x ≤ (m.length : Int)) && (rdOf false m (pvar x - 1) == decide (0 < x))
theorem pvar_range (x : Int) (h : x ≤ 9223372036854775807) : 0 ≤ pvar x ∧ pvar x ≤ 9223372036854775807 := by
  unfold pvar mx wrap64
  split <;> split <;> omega
def prop_Met.f (l0 : List (List Int)) (l1 : List Bool) : Option Bool := some (l0.all fun c => c.any (litTrue l1))
attribute [local go_sem] max2_int max_three
set_option maxRecDepth 100000 in
theorem pvar_calls (x : Int) (w : World) : Calls Try.prog 53 #[.int .i64 x] w fun e w' => e = .returned (.int .i64 (pvar x)) ∧ w' = w := by
  by_cases h1 : x < wrap64 (-x)
  · by_cases h2 : wrap64 (-x) < 0
    · have e : pvar x = 0 := by unfold pvar mx; rw [if_pos h1, if_pos h2]
      rw [e]
      go_enter Try.func53, Try.ntmps53
      go_wp2
      all_goals (go_ret; exact ⟨rfl, rfl⟩)
    · have e : pvar x = wrap64 (-x) := by unfold pvar mx; rw [if_pos h1, if_neg h2]
      rw [e]
      go_enter Try.func53, Try.ntmps53
      go_wp2
      all_goals (go_ret; exact ⟨rfl, rfl⟩)
  · by_cases h2 : x < 0
    · have e : pvar x = 0 := by unfold pvar mx; rw [if_neg h1, if_pos h2]
      rw [e]
      go_enter Try.func53, Try.ntmps53
      go_wp2
      all_goals (go_ret; exact ⟨rfl, rfl⟩)
    · have e : pvar x = x := by unfold pvar mx; rw [if_neg h1, if_neg h2]
      rw [e]
      go_enter Try.func53, Try.ntmps53
      go_wp2
      all_goals (go_ret; exact ⟨rfl, rfl⟩)
set_option maxHeartbeats 8000000 in
set_option maxRecDepth 100000 in
theorem met1_no (p3 : Addr) (A1 : Option Addr) (n1 c1 : Nat) (x v : Int) (w : World) (hp : w.cell? p3 = some (.slice A1 n1 c1)) (hv : Aside0 (∀ W, Calls Try.prog 53 #[.int .i64 x] W fun e w' => e = .returned (.int .i64 v) ∧ w' = W)) (h0 : decide (0 < v) = false) :
    Calls Try.prog 54 #[.int .i64 x, .pointer (some p3)] w fun e w' => e = .returned (.bool false) ∧ Drawn0 w w' := by
  go_enter Try.func54, Try.ntmps54
  go_wp2_with (go_at_call 53; refine (hv.out _).mono ?_; rintro e w' ⟨rfl, rfl⟩)
  repeat (go_quiet (fail); try go_wp2)
  go_ret
  exact ⟨rfl, by repeat (first | exact Drawn0.refl _ | apply Drawn0.step)⟩
set_option maxHeartbeats 8000000 in
set_option maxRecDepth 100000 in
theorem met1_far (p3 : Addr) (A1 : Option Addr) (n1 c1 : Nat) (x v : Int) (w : World) (hp : w.cell? p3 = some (.slice A1 n1 c1)) (hv : Aside0 (∀ W, Calls Try.prog 53 #[.int .i64 x] W fun e w' => e = .returned (.int .i64 v) ∧ w' = W)) (h0 : decide (0 < v) = true) (h1 : decide (v ≤ (n1 : Int)) = false) :
    Calls Try.prog 54 #[.int .i64 x, .pointer (some p3)] w fun e w' => e = .returned (.bool false) ∧ Drawn0 w w' := by
  go_enter Try.func54, Try.ntmps54
  go_wp2_with (go_at_call 53; refine (hv.out _).mono ?_; rintro e w' ⟨rfl, rfl⟩)
  repeat (go_quiet (fail); try go_wp2)
  go_ret
  exact ⟨rfl, by repeat (first | exact Drawn0.refl _ | apply Drawn0.step)⟩
set_option maxHeartbeats 8000000 in
set_option maxRecDepth 100000 in
theorem met1_at (p3 : Addr) (ad : Addr) (n1 c1 : Nat) (x v : Int) (b : Bool) (w : World) (hp : w.cell? p3 = some (.slice (some ad) n1 c1)) (hv : Aside0 (∀ W, Calls Try.prog 53 #[.int .i64 x] W fun e w' => e = .returned (.int .i64 v) ∧ w' = W)) (h0 : decide (0 < v) = true) (h1 : decide (v ≤ (n1 : Int)) = true)
    (g0 : 0 ≤ v - 1) (g1 : v - 1 < (n1 : Int)) (g2 : 1 ≤ v) (g3 : (n1 : Int) ≤ 9223372036854775807) (hc : w.cell? (ad.add (v.toNat - 1)) = some (.bool b)) :
    Calls Try.prog 54 #[.int .i64 x, .pointer (some p3)] w fun e w' => e = .returned (.bool (b == decide (0 < x))) ∧ Drawn0 w w' := by
  obtain ⟨r, hr⟩ : ∃ r, (b == decide (0 < x)) = r := ⟨_, rfl⟩
  rw [hr]
  go_enter Try.func54, Try.ntmps54
  go_wp2_with (go_at_call 53; refine (hv.out _).mono ?_; rintro e w' ⟨rfl, rfl⟩)
  repeat (go_quiet (fail); try go_wp2)
  go_ret
  exact ⟨rfl, by repeat (first | exact Drawn0.refl _ | apply Drawn0.step)⟩
theorem met1_any (p3 : Addr) (A1 : Option Addr) (c1 : Nat) (l1 : List Bool) (x : Int) (w : World) (hp : w.cell? p3 = some (.slice A1 l1.length c1)) (hr : Kd.C Kd.bool w A1 l1.length l1) :
    Calls Try.prog 54 #[.int .i64 x, .pointer (some p3)] w fun e w' => e = .returned (.bool (litTrue l1 x)) ∧ Drawn0 w w' := by
  have hm := hr.2.1
  unfold litTrue
  by_cases h0 : 0 < pvar x
  · by_cases h1 : pvar x ≤ (l1.length : Int)
    · obtain ⟨ad, rfl, hc⟩ := Kd.at_bool hr (pvar x - 1) (by omega) (by omega)
      rw [show (pvar x - 1).toNat = (pvar x).toNat - 1 by omega] at hc
      rw [decide_eq_true h0, decide_eq_true h1]
      simp only [Bool.true_and]
      exact met1_at p3 ad l1.length c1 x (pvar x) _ w hp ⟨fun W => pvar_calls x W⟩ (decide_eq_true h0) (decide_eq_true h1) (by omega) (by omega) (by omega) (by omega) hc
    · rw [decide_eq_true h0, decide_eq_false h1]
      simp only [Bool.true_and, Bool.false_and]
      exact met1_far p3 A1 l1.length c1 x (pvar x) w hp ⟨fun W => pvar_calls x W⟩ (decide_eq_true h0) (decide_eq_false h1)
  · rw [decide_eq_false h0]
    simp only [Bool.false_and]
    exact met1_no p3 A1 l1.length c1 x (pvar x) w hp ⟨fun W => pvar_calls x W⟩ (decide_eq_false h0)
/-- A clause of some. -/
theorem at_row {w : World} {A : Option Addr} {n : Nat} {xs : List (List Int)} (h : Kd.C (Kd.slice 3 (Kd.int .i64)) w A n xs) (i : Nat) (h1 : i < xs.length) : ∃ ad A0 c0, A = some ad ∧ w.cell? (ad.add i) = some (.slice A0 xs[i].length c0) ∧ xs[i].length ≤ c0 ∧ Kd.C (Kd.int .i64) w A0 xs[i].length xs[i] := by
  have hn := h.1
  obtain ⟨ad, c, e, _, hK, hc0⟩ := Kd.C_get h ([] : List Int) (i : Int) (by omega) (by omega)
  have e2 : xs.getD ((i : Int)).toNat [] = xs[i] := by simp [List.getD_eq_getElem?_getD, h1]
  rw [e2] at hK
  obtain ⟨A0, c0, rfl, hl, hC⟩ := hK
  refine ⟨ad, A0, c0, e, ?_, hl, hC⟩
  have := hc0 0 _ rfl
  simpa [Kd.slice] using this
theorem all_at (q : List Int → Bool) (l : List (List Int)) (i : Nat) (h : i < l.length) : (l.drop i).all q = (q l[i] && (l.drop (i + 1)).all q) := by
  rw [List.drop_eq_getElem_cons h, List.all_cons]
set_option maxHeartbeats 8000000 in
set_option maxRecDepth 100000 in
theorem met_any (A0 : Option Addr) (c0 : Nat) (l0 : List (List Int)) (A1 : Option Addr) (c1 : Nat) (l1 : List Bool) (w : World) (hr0 : Kd.C (Kd.slice 3 (Kd.int .i64)) w A0 l0.length l0) (hc0 : l0.length ≤ c0) (hr1 : Kd.C Kd.bool w A1 l1.length l1) :
    Calls Try.prog 31 #[.slice A0 l0.length c0, .slice A1 l1.length c1] w fun e w' => e = .returned (.bool (l0.all fun c => c.any (litTrue l1))) ∧ Below w.heap.size w w' := by
  have HR0 := Aside0.mk hr0
  have HC0 := Aside0.mk hc0
  have hm : l0.length ≤ 9223372036854775807 := hr0.2.1
  have HB := Aside0.mk (below_alloc (Below.refl w.heap.size w) (.cells #[.slice A1 l1.length c1] 35))
  have HA : Aside0 (Asks 54 #[.pointer (some ⟨w.heap.size, 0, none⟩)] (w.alloc (.cells #[.slice A1 l1.length c1] 35)) (litTrue l1)) :=
    ⟨⟨fun x w' hb => met1_any _ A1 c1 l1 x w' (pw_cell_below hb (by simp)) (Kd.C_below (Kd.C_below hr1 HB.out) hb)⟩⟩
  clear hr0 hc0 hr1
  obtain ⟨z, hz⟩ : ∃ z, (l0.all fun c => c.any (litTrue l1)) = z := ⟨_, rfl⟩
  rw [hz]
  have HZ := Aside0.mk hz
  clear hz
  go_enter Try.func31, Try.ntmps31
  go_wp2
  go_loopw [11] (fun v w' => ∃ i : Nat, v = .int .i64 (i : Int) ∧ Aside0 ((l0.drop i).all (fun c => c.any (litTrue l1)) = z) ∧ i ≤ l0.length ∧ Aside0 (Drawn0 (w.alloc (.cells #[.slice A1 l1.length c1] 35)) w')) (fun v _ => l0.length - (intOf v).toNat)
  case atStart => exact ⟨0, rfl, ⟨by rw [List.drop_zero]; exact HZ.out⟩, by omega, ⟨Drawn0.refl _⟩⟩
  case round =>
    obtain ⟨i, rfl, HI, hi, ⟨⟨nd, rfl⟩⟩⟩ := hrel
    by_cases hlt : i < l0.length
    · obtain ⟨ad, A2, c2, rfl, hx, hl2, hC2⟩ := at_row HR0.out i hlt
      replace hx := pw_cell_below (pw_below_drewN HB.out nd) hx
      obtain ⟨y, hy⟩ : ∃ y, l0[i] = y := ⟨_, rfl⟩
      have hz := HI.out
      rw [all_at _ l0 i hlt] at hz
      rw [hy] at hx hl2 hC2 hz
      have HC2 := Aside0.mk hC2
      have HL2 := Aside0.mk hl2
      clear hC2 hl2 hy
      cases hyx : y.any (litTrue l1) with
      | false =>
        have HY := Aside0.mk hyx
        have HE : Aside0 (z = false) := ⟨by rw [← hz, hyx, Bool.false_and]⟩
        clear hyx hz
        go_wp2_with (go_at_call 55; refine (containsFunc_at 54 ⟨w.heap.size, 0, none⟩ (litTrue l1) A2 c2 y _ _ ?s1 HL2.out ?s2 (enters_my Try.func54 (by kernel_rfl) rfl) HY).mono ?_; (case s1 => exact (Kd.C_below HC2.out (pw_below_drewN HB.out nd))); (case s2 => exact (HA.out.below (pw_below_drewN (Below.refl _ _) nd))); rintro e w' ⟨rfl, ⟨nd2, rfl⟩⟩)
        go_ret
        exact ⟨by rw [HE.out]; rfl, pw_below_drewN HB.out _⟩
      | true =>
        have HY := Aside0.mk hyx
        have HI2 : Aside0 ((l0.drop (i + 1)).all (fun c => c.any (litTrue l1)) = z) := ⟨by rw [← hz, hyx, Bool.true_and]⟩
        clear hyx hz
        go_wp2_with (go_at_call 55; refine (containsFunc_at 54 ⟨w.heap.size, 0, none⟩ (litTrue l1) A2 c2 y _ _ ?s1 HL2.out ?s2 (enters_my Try.func54 (by kernel_rfl) rfl) HY).mono ?_; (case s1 => exact (Kd.C_below HC2.out (pw_below_drewN HB.out nd))); (case s2 => exact (HA.out.below (pw_below_drewN (Below.refl _ _) nd))); rintro e w' ⟨rfl, ⟨nd2, rfl⟩⟩)
        go_roundw
        case rel => exact ⟨i + 1, by go_num, HI2, by omega, ⟨by repeat (first | exact Drawn0.refl _ | apply Drawn0.step)⟩⟩
        case measure => simp [intOf]; omega
    · have HE : Aside0 (z = true) := ⟨by have h1 := HI.out; rw [List.drop_eq_nil_of_le (by omega)] at h1; exact h1.symm⟩
      go_wp2
      go_ret
      exact ⟨by rw [HE.out]; rfl, pw_below_drewN HB.out _⟩
theorem prop_Met.calls (A0 : Option Addr) (c0 : Nat) (l0 : List (List Int)) (A1 : Option Addr) (c1 : Nat) (l1 : List Bool) (r : Bool) (w : World) (hr0 : Kd.C (Kd.slice 3 (Kd.int .i64)) w A0 l0.length l0) (hc0 : l0.length ≤ c0) (hr1 : Kd.C Kd.bool w A1 l1.length l1) (hc1 : l1.length ≤ c1) (h : prop_Met.f l0 l1 = some r) :
    Calls Try.prog 31 #[.slice A0 l0.length c0, .slice A1 l1.length c1] w fun e w' => e = .returned (.bool r) ∧ Below w.heap.size w w' := by
  obtain rfl := Option.some.inj h
  exact met_any A0 c0 l0 A1 c1 l1 w hr0 hc0 hr1

end
end Go.Proofs.Ytdlfmobnmcamaaa.Q
