/- Unroll: walks and plain laws of this seat's functions, merged out of smaller texts of this session (Ubc, Ubd, Ube, Ubf). -/
import Derived.Test.YteilkojmefipcaaR01
import Derived.Test.YteilkojmefipcaaWMore
namespace Go.Proofs.Yteilkojmefipcaa.U
open Go.RowKit Go.Proofs.YteilkojmefipcaaW.PrintWords Go.Proofs.YteilkojmefipcaaW.PrintLast
set_option linter.unusedVariables false
set_option linter.unusedSimpArgs false
open Go.Proofs.YteilkojmefipcaaW.PrintMore
theorem enters_my {P : Program} {f : FuncId} {fn : Func} {c : Code} (hf : P.funcs[f]? = some fn) (hname : (fn.name == "runtime.NumGoroutine") = false) (hb : fn.body = some c) : ∀ (args : Array Value) (w : World), (callFunc f args).run P w = .ok (.enter f args) w := by
  intro args w
  have h1 : fn.name ≠ "runtime.NumGoroutine" := by simpa using hname
  simp [callFunc, hf, h1, hb, mark]
/-- Where a test holds first, counted from i on; -1: nowhere. -/
def fidx (p : Int → Bool) : List Int → Nat → Int
  | [], _ => -1
  | x :: r, i => if p x = true then (i : Int) else fidx p r (i + 1)
theorem fidx_any (p : Int → Bool) : ∀ (l : List Int) (i : Nat), decide (0 ≤ fidx p l i) = l.any p
  | [], i => by simp [fidx]
  | x :: r, i => by
    rw [fidx, List.any_cons]
    by_cases c : p x = true
    · rw [if_pos c, c]; simp
    · rw [if_neg c, fidx_any p r (i + 1)]
      simp at c
      simp [c]
theorem fidx_end (p : Int → Bool) (l : List Int) (i : Nat) (h : l.length ≤ i) (z : Int) (hz : fidx p (l.drop i) i = z) : z = -1 := by
  rw [List.drop_eq_nil_of_le h, fidx] at hz; exact hz.symm
theorem fidx_hit (p : Int → Bool) (l : List Int) (i : Nat) (h : i < l.length) (hp : p (rd l (i : Int)) = true) : fidx p (l.drop i) i = (i : Int) := by
  have e : rd l (i : Int) = l[i] := by simp [rd, List.getD_eq_getElem?_getD, h]
  rw [e] at hp
  rw [List.drop_eq_getElem_cons h, fidx, if_pos hp]
theorem fidx_miss (p : Int → Bool) (l : List Int) (i : Nat) (h : i < l.length) (hp : p (rd l (i : Int)) = false) : fidx p (l.drop i) i = fidx p (l.drop (i + 1)) (i + 1) := by
  have e : rd l (i : Int) = l[i] := by simp [rd, List.getD_eq_getElem?_getD, h]
  rw [e] at hp
  rw [List.drop_eq_getElem_cons h, fidx, if_neg (by simp [hp])]
/-- What a function value does that is asked of numbers, in whatever later world: it answers, and reads. -/
structure Asks (K : Nat) (cap : Array Value) (w : World) (p : Int → Bool) : Prop where
  mk :: (out : ∀ (x : Int) (w' : World), Below w.heap.size w w' → Calls Try.prog K (#[.int .i64 x] ++ cap) w' fun e w'' => e = .returned (.bool (p x)) ∧ Drawn0 w' w'')
theorem Asks.below {K : Nat} {cap : Array Value} {w w1 : World} {p : Int → Bool} (h : Asks K cap w p) (hb : Below w.heap.size w w1) : Asks K cap w1 p :=
  ⟨fun x w' hb' => h.out x w' (below_step hb hb')⟩
/-- One call of it, the answer known. -/
theorem Asks.at_ {K : Nat} {cap : Array Value} {w : World} {p : Int → Bool} (h : Asks K cap w p) (x : Int) (b : Bool) (hb : Aside0 (p x = b)) (w' : World) (hw : Aside0 (Below w.heap.size w w')) : Calls Try.prog K (#[.int .i64 x] ++ cap) w' fun e w'' => e = .returned (.bool b) ∧ Drawn0 w' w'' := by
  have := h.out x w' hw.out
  rw [hb.out] at this
  exact this
set_option maxHeartbeats 8000000 in
set_option maxRecDepth 100000 in
theorem indexFunc_any (K : Nat) (p1 : Addr) (p : Int → Bool) (A0 : Option Addr) (c0 : Nat) (l0 : List Int) (w : World) (hr0 : Kd.C (Kd.int .i64) w A0 l0.length l0) (hc0 : l0.length ≤ c0)
    (ha : Asks K #[.pointer (some p1)] w p) (eg : ∀ args w, (callFunc K args).run Try.prog w = .ok (.enter K args) w) :
    Calls Try.prog 83 #[.slice A0 l0.length c0, .func (.func K) #[] #[.pointer (some p1)]] w fun e w' => e = .returned (.int .i64 (fidx p l0 0)) ∧ Drawn0 w w' := by
  have HR0 := Aside0.mk hr0
  have HC0 := Aside0.mk hc0
  have hm : l0.length ≤ 9223372036854775807 := hr0.2.1
  clear hr0 hc0
  obtain ⟨z, hz⟩ : ∃ z, fidx p l0 0 = z := ⟨_, rfl⟩
  rw [hz]
  have HZ := Aside0.mk hz
  clear hz
  go_enter Try.func83, Try.ntmps83
  go_wp2
  go_loopw [5, 8] (fun _ v w' => ∃ i : Nat, v = .int .i64 (i : Int) ∧ Aside0 (fidx p (l0.drop i) i = z) ∧ i ≤ l0.length ∧ Drawn0 w w') (fun _ v _ => l0.length - (intOf v).toNat)
  case atStart => exact ⟨0, rfl, ⟨by rw [List.drop_zero]; exact HZ.out⟩, by omega, Drawn0.refl _⟩
  case round =>
    obtain ⟨i, rfl, HI, hi, ⟨nd, rfl⟩⟩ := hrel
    by_cases hlt : i < l0.length
    · obtain ⟨ad, rfl, hx⟩ := Kd.at_int HR0.out (i : Int) (by omega) (by omega)
      rw [Int.toNat_natCast] at hx
      cases hpx : p (rd l0 (i : Int)) with
      | true =>
        have HP := Aside0.mk hpx
        have HE : Aside0 (z = (i : Int)) := ⟨by have h1 := fidx_hit p l0 i hlt hpx; rw [HI.out] at h1; exact h1⟩
        clear hpx
        go_wp2_with (refine (ha.at_ _ true HP _ ⟨by first | exact pw_below_drewN (Below.refl _ _) _ | exact Below.refl _ _⟩).mono ?_; rintro e w' ⟨rfl, ⟨nd2, rfl⟩⟩)
        go_ret
        exact ⟨by rw [HE.out]; rfl, by repeat (first | exact Drawn0.refl _ | apply Drawn0.step)⟩
      | false =>
        have HP := Aside0.mk hpx
        have HI2 := Aside0.mk ((fidx_miss p l0 i hlt hpx).symm.trans HI.out)
        clear hpx
        go_wp2_with (refine (ha.at_ _ false HP _ ⟨by first | exact pw_below_drewN (Below.refl _ _) _ | exact Below.refl _ _⟩).mono ?_; rintro e w' ⟨rfl, ⟨nd2, rfl⟩⟩)
        go_roundw
        case rel => exact ⟨i + 1, by go_num, HI2, by omega, by repeat (first | exact Drawn0.refl _ | apply Drawn0.step)⟩
        case measure => simp [intOf]; omega
    · have HE : Aside0 (z = -1) := ⟨fidx_end p l0 i (by omega) z HI.out⟩
      go_wp2
      go_ret
      exact ⟨by rw [HE.out]; rfl, by repeat (first | exact Drawn0.refl _ | apply Drawn0.step)⟩
theorem containsFunc_any (K : Nat) (p1 : Addr) (p : Int → Bool) (A0 : Option Addr) (c0 : Nat) (l0 : List Int) (w : World) (hr0 : Kd.C (Kd.int .i64) w A0 l0.length l0) (hc0 : l0.length ≤ c0)
    (ha : Asks K #[.pointer (some p1)] w p) (eg : ∀ args w, (callFunc K args).run Try.prog w = .ok (.enter K args) w) :
    Calls Try.prog 64 #[.slice A0 l0.length c0, .func (.func K) #[] #[.pointer (some p1)]] w fun e w' => e = .returned (.bool (l0.any p)) ∧ Drawn0 w w' := by
  have hx := indexFunc_any K p1 p A0 c0 l0 w hr0 hc0 ha eg
  rw [← fidx_any p l0 0]
  generalize fidx p l0 0 = z at hx ⊢
  have HX := Aside0.mk hx
  clear hx hr0 hc0
  go_enter Try.func64, Try.ntmps64
  go_wp2_with (go_at_call 83; refine HX.out.mono ?_; rintro e w' ⟨rfl, ⟨nd, rfl⟩⟩)
  go_ret
  exact ⟨rfl, by repeat (first | exact Drawn0.refl _ | apply Drawn0.step)⟩

theorem containsFunc_at (K : Nat) (p1 : Addr) (p : Int → Bool) (A0 : Option Addr) (c0 : Nat) (l0 : List Int) (b : Bool) (w : World) (hr0 : Kd.C (Kd.int .i64) w A0 l0.length l0) (hc0 : l0.length ≤ c0)
    (ha : Asks K #[.pointer (some p1)] w p) (eg : ∀ args w, (callFunc K args).run Try.prog w = .ok (.enter K args) w) (hb : Aside0 (l0.any p = b)) :
    Calls Try.prog 64 #[.slice A0 l0.length c0, .func (.func K) #[] #[.pointer (some p1)]] w fun e w' => e = .returned (.bool b) ∧ Drawn0 w w' := by
  rw [← hb.out]; exact containsFunc_any K p1 p A0 c0 l0 w hr0 hc0 ha eg
/-- A literal's variable; 0: it is none. -/
def pvar (x : Int) : Int := mx (mx x (wrap64 (-x))) 0
/-- Does a model make a literal true? -/
def litTrue (m : List Bool) (x : Int) : Bool := decide (0 < pvar x) && decide (pvar x ≤ (m.length : Int)) && (rdOf false m (pvar x - 1) == decide (0 < x))
theorem pvar_range (x : Int) (h : x ≤ 9223372036854775807) : 0 ≤ pvar x ∧ pvar x ≤ 9223372036854775807 := by
  unfold pvar mx wrap64
  split <;> split <;> omega
attribute [local go_sem] max2_int max_three
set_option maxRecDepth 100000 in
theorem pvar_calls (x : Int) (w : World) : Calls Try.prog 63 #[.int .i64 x] w fun e w' => e = .returned (.int .i64 (pvar x)) ∧ w' = w := by
  by_cases h1 : x < wrap64 (-x)
  · by_cases h2 : wrap64 (-x) < 0
    · have e : pvar x = 0 := by unfold pvar mx; rw [if_pos h1, if_pos h2]
      rw [e]
      go_enter Try.func63, Try.ntmps63
      go_wp2
      all_goals (go_ret; exact ⟨rfl, rfl⟩)
    · have e : pvar x = wrap64 (-x) := by unfold pvar mx; rw [if_pos h1, if_neg h2]
      rw [e]
      go_enter Try.func63, Try.ntmps63
      go_wp2
      all_goals (go_ret; exact ⟨rfl, rfl⟩)
  · by_cases h2 : x < 0
    · have e : pvar x = 0 := by unfold pvar mx; rw [if_neg h1, if_pos h2]
      rw [e]
      go_enter Try.func63, Try.ntmps63
      go_wp2
      all_goals (go_ret; exact ⟨rfl, rfl⟩)
    · have e : pvar x = x := by unfold pvar mx; rw [if_neg h1, if_neg h2]
      rw [e]
      go_enter Try.func63, Try.ntmps63
      go_wp2
      all_goals (go_ret; exact ⟨rfl, rfl⟩)
set_option maxHeartbeats 8000000 in
set_option maxRecDepth 100000 in
theorem met1_no (p3 : Addr) (A1 : Option Addr) (n1 c1 : Nat) (x v : Int) (w : World) (hp : w.cell? p3 = some (.slice A1 n1 c1)) (hv : Aside0 (∀ W, Calls Try.prog 63 #[.int .i64 x] W fun e w' => e = .returned (.int .i64 v) ∧ w' = W)) (h0 : decide (0 < v) = false) :
    Calls Try.prog 62 #[.int .i64 x, .pointer (some p3)] w fun e w' => e = .returned (.bool false) ∧ Drawn0 w w' := by
  go_enter Try.func62, Try.ntmps62
  go_wp2_with (go_at_call 63; refine (hv.out _).mono ?_; rintro e w' ⟨rfl, rfl⟩)
  repeat (go_quiet (fail); try go_wp2)
  go_ret
  exact ⟨rfl, by repeat (first | exact Drawn0.refl _ | apply Drawn0.step)⟩
set_option maxHeartbeats 8000000 in
set_option maxRecDepth 100000 in
theorem met1_far (p3 : Addr) (A1 : Option Addr) (n1 c1 : Nat) (x v : Int) (w : World) (hp : w.cell? p3 = some (.slice A1 n1 c1)) (hv : Aside0 (∀ W, Calls Try.prog 63 #[.int .i64 x] W fun e w' => e = .returned (.int .i64 v) ∧ w' = W)) (h0 : decide (0 < v) = true) (h1 : decide (v ≤ (n1 : Int)) = false) :
    Calls Try.prog 62 #[.int .i64 x, .pointer (some p3)] w fun e w' => e = .returned (.bool false) ∧ Drawn0 w w' := by
  go_enter Try.func62, Try.ntmps62
  go_wp2_with (go_at_call 63; refine (hv.out _).mono ?_; rintro e w' ⟨rfl, rfl⟩)
  repeat (go_quiet (fail); try go_wp2)
  go_ret
  exact ⟨rfl, by repeat (first | exact Drawn0.refl _ | apply Drawn0.step)⟩
set_option maxHeartbeats 8000000 in
set_option maxRecDepth 100000 in
theorem met1_at (p3 : Addr) (ad : Addr) (n1 c1 : Nat) (x v : Int) (b : Bool) (w : World) (hp : w.cell? p3 = some (.slice (some ad) n1 c1)) (hv : Aside0 (∀ W, Calls Try.prog 63 #[.int .i64 x] W fun e w' => e = .returned (.int .i64 v) ∧ w' = W)) (h0 : decide (0 < v) = true) (h1 : decide (v ≤ (n1 : Int)) = true)
    (g0 : 0 ≤ v - 1) (g1 : v - 1 < (n1 : Int)) (g2 : 1 ≤ v) (g3 : (n1 : Int) ≤ 9223372036854775807) (hc : w.cell? (ad.add (v.toNat - 1)) = some (.bool b)) :
    Calls Try.prog 62 #[.int .i64 x, .pointer (some p3)] w fun e w' => e = .returned (.bool (b == decide (0 < x))) ∧ Drawn0 w w' := by
  obtain ⟨r, hr⟩ : ∃ r, (b == decide (0 < x)) = r := ⟨_, rfl⟩
  rw [hr]
  go_enter Try.func62, Try.ntmps62
  go_wp2_with (go_at_call 63; refine (hv.out _).mono ?_; rintro e w' ⟨rfl, rfl⟩)
  repeat (go_quiet (fail); try go_wp2)
  go_ret
  exact ⟨rfl, by repeat (first | exact Drawn0.refl _ | apply Drawn0.step)⟩
theorem met1_any (p3 : Addr) (A1 : Option Addr) (c1 : Nat) (l1 : List Bool) (x : Int) (w : World) (hp : w.cell? p3 = some (.slice A1 l1.length c1)) (hr : Kd.C Kd.bool w A1 l1.length l1) :
    Calls Try.prog 62 #[.int .i64 x, .pointer (some p3)] w fun e w' => e = .returned (.bool (litTrue l1 x)) ∧ Drawn0 w w' := by
  have hm := hr.2.1
  unfold litTrue
  by_cases h0 : 0 < pvar x
  · by_cases h1 : pvar x ≤ (l1.length : Int)
    · obtain ⟨ad, rfl, hc⟩ := Kd.at_bool hr (pvar x - 1) (by omega) (by omega)
      rw [show (pvar x - 1).toNat = (pvar x).toNat - 1 by omega] at hc
      rw [decide_eq_true h0, decide_eq_true h1]
      simp only [Bool.true_and]
      exact met1_at p3 ad l1.length c1 x (pvar x) _ w hp ⟨fun W => pvar_calls x W⟩ (decide_eq_true h0) (decide_eq_true h1) (by omega) (by omega) (by omega) (by omega) hc
    · rw [decide_eq_true h0, decide_eq_false h1]
      simp only [Bool.true_and, Bool.false_and]
      exact met1_far p3 A1 l1.length c1 x (pvar x) w hp ⟨fun W => pvar_calls x W⟩ (decide_eq_true h0) (decide_eq_false h1)
  · rw [decide_eq_false h0]
    simp only [Bool.false_and]
    exact met1_no p3 A1 l1.length c1 x (pvar x) w hp ⟨fun W => pvar_calls x W⟩ (decide_eq_false h0)
/-- A clause of some. -/
theorem at_row {w : World} {A : Option Addr} {n : Nat} {xs : List (List Int)} (h : Kd.C (Kd.slice 3 (Kd.int .i64)) w A n xs) (i : Nat) (h1 : i < xs.length) : ∃ ad A0 c0, A = some ad ∧ w.cell? (ad.add i) = some (.slice A0 xs[i].length c0) ∧ xs[i].length ≤ c0 ∧ Kd.C (Kd.int .i64) w A0 xs[i].length xs[i] := by
  have hn := h.1
  obtain ⟨ad, c, e, _, hK, hc0⟩ := Kd.C_get h ([] : List Int) (i : Int) (by omega) (by omega)
  have e2 : xs.getD ((i : Int)).toNat [] = xs[i] := by simp [List.getD_eq_getElem?_getD, h1]
  rw [e2] at hK
  obtain ⟨A0, c0, rfl, hl, hC⟩ := hK
  refine ⟨ad, A0, c0, e, ?_, hl, hC⟩
  have := hc0 0 _ rfl
  simpa [Kd.slice] using this
theorem all_at (q : List Int → Bool) (l : List (List Int)) (i : Nat) (h : i < l.length) : (l.drop i).all q = (q l[i] && (l.drop (i + 1)).all q) := by
  rw [List.drop_eq_getElem_cons h, List.all_cons]
set_option maxHeartbeats 8000000 in
set_option maxRecDepth 100000 in
theorem met_any (A0 : Option Addr) (c0 : Nat) (l0 : List (List Int)) (A1 : Option Addr) (c1 : Nat) (l1 : List Bool) (w : World) (hr0 : Kd.C (Kd.slice 3 (Kd.int .i64)) w A0 l0.length l0) (hc0 : l0.length ≤ c0) (hr1 : Kd.C Kd.bool w A1 l1.length l1) :
    Calls Try.prog 34 #[.slice A0 l0.length c0, .slice A1 l1.length c1] w fun e w' => e = .returned (.bool (l0.all fun c => c.any (litTrue l1))) ∧ Below w.heap.size w w' := by
  have HR0 := Aside0.mk hr0
  have HC0 := Aside0.mk hc0
  have hm : l0.length ≤ 9223372036854775807 := hr0.2.1
  have HB := Aside0.mk (below_alloc (Below.refl w.heap.size w) (.cells #[.slice A1 l1.length c1] 36))
  have HA : Aside0 (Asks 62 #[.pointer (some ⟨w.heap.size, 0, none⟩)] (w.alloc (.cells #[.slice A1 l1.length c1] 36)) (litTrue l1)) :=
    ⟨⟨fun x w' hb => met1_any _ A1 c1 l1 x w' (pw_cell_below hb (by simp)) (Kd.C_below (Kd.C_below hr1 HB.out) hb)⟩⟩
  clear hr0 hc0 hr1
  obtain ⟨z, hz⟩ : ∃ z, (l0.all fun c => c.any (litTrue l1)) = z := ⟨_, rfl⟩
  rw [hz]
  have HZ := Aside0.mk hz
  clear hz
  go_enter Try.func34, Try.ntmps34
  go_wp2
  go_loopw [11] (fun v w' => ∃ i : Nat, v = .int .i64 (i : Int) ∧ Aside0 ((l0.drop i).all (fun c => c.any (litTrue l1)) = z) ∧ i ≤ l0.length ∧ Aside0 (Drawn0 (w.alloc (.cells #[.slice A1 l1.length c1] 36)) w')) (fun v _ => l0.length - (intOf v).toNat)
  case atStart => exact ⟨0, rfl, ⟨by rw [List.drop_zero]; exact HZ.out⟩, by omega, ⟨Drawn0.refl _⟩⟩
  case round =>
    obtain ⟨i, rfl, HI, hi, ⟨⟨nd, rfl⟩⟩⟩ := hrel
    by_cases hlt : i < l0.length
    · obtain ⟨ad, A2, c2, rfl, hx, hl2, hC2⟩ := at_row HR0.out i hlt
      replace hx := pw_cell_below (pw_below_drewN HB.out nd) hx
      obtain ⟨y, hy⟩ : ∃ y, l0[i] = y := ⟨_, rfl⟩
      have hz := HI.out
      rw [all_at _ l0 i hlt] at hz
      rw [hy] at hx hl2 hC2 hz
      have HC2 := Aside0.mk hC2
      have HL2 := Aside0.mk hl2
      clear hC2 hl2 hy
      cases hyx : y.any (litTrue l1) with
      | false =>
        have HY := Aside0.mk hyx
        have HE : Aside0 (z = false) := ⟨by rw [← hz, hyx, Bool.false_and]⟩
        clear hyx hz
        go_wp2_with (go_at_call 64; refine (containsFunc_at 62 ⟨w.heap.size, 0, none⟩ (litTrue l1) A2 c2 y _ _ ?s1 HL2.out ?s2 (enters_my Try.func62 (by kernel_rfl) rfl) HY).mono ?_; (case s1 => exact (Kd.C_below HC2.out (pw_below_drewN HB.out nd))); (case s2 => exact (HA.out.below (pw_below_drewN (Below.refl _ _) nd))); rintro e w' ⟨rfl, ⟨nd2, rfl⟩⟩)
        go_ret
        exact ⟨by rw [HE.out]; rfl, pw_below_drewN HB.out _⟩
      | true =>
        have HY := Aside0.mk hyx
        have HI2 : Aside0 ((l0.drop (i + 1)).all (fun c => c.any (litTrue l1)) = z) := ⟨by rw [← hz, hyx, Bool.true_and]⟩
        clear hyx hz
        go_wp2_with (go_at_call 64; refine (containsFunc_at 62 ⟨w.heap.size, 0, none⟩ (litTrue l1) A2 c2 y _ _ ?s1 HL2.out ?s2 (enters_my Try.func62 (by kernel_rfl) rfl) HY).mono ?_; (case s1 => exact (Kd.C_below HC2.out (pw_below_drewN HB.out nd))); (case s2 => exact (HA.out.below (pw_below_drewN (Below.refl _ _) nd))); rintro e w' ⟨rfl, ⟨nd2, rfl⟩⟩)
        go_roundw
        case rel => exact ⟨i + 1, by go_num, HI2, by omega, ⟨by repeat (first | exact Drawn0.refl _ | apply Drawn0.step)⟩⟩
        case measure => simp [intOf]; omega
    · have HE : Aside0 (z = true) := ⟨by have h1 := HI.out; rw [List.drop_eq_nil_of_le (by omega)] at h1; exact h1.symm⟩
      go_wp2
      go_ret
      exact ⟨by rw [HE.out]; rfl, pw_below_drewN HB.out _⟩
theorem pvar_abs {x n : Int} (h0 : x ≠ 0) (h1 : -n ≤ x) (h2 : x ≤ n) (h3 : n ≤ 1000000000000) : 1 ≤ pvar x ∧ pvar x ≤ n := by
  unfold pvar mx wrap64
  split <;> split <;> omega
set_option maxHeartbeats 16000000 in
set_option maxRecDepth 100000 in
theorem rightP_any (ls : List (List Int)) (A : Option Addr) (c : Nat) (n : Int) (w : World) (hC : kR.C w A ls.length ls) (h0 : 0 ≤ n) (h1 : n ≤ 1048576) (hall : ∀ l ∈ ls, ∀ x ∈ l, x ≠ 0 ∧ -n ≤ x ∧ x ≤ n) :
    Calls Try.prog 35 #[.slice A ls.length c, .int .i64 n] w (RetB (fun b => b = true) w) := by
  have hm : ls.length ≤ 9223372036854775807 := hC.2.1
  have HC := am hC
  have HA := am hall
  have e1 : decide (n < 0) = false := decide_eq_false (by omega)
  have e2 : decide ((1048576 : Int) < n) = false := decide_eq_false (by omega)
  clear hC hall
  go_enter Try.func35, Try.ntmps35
  go_wp2
  go_loop [18] (fun v => ∃ i : Nat, v = .int .i64 (i : Int) ∧ i ≤ ls.length) (fun v => ls.length - (intOf v).toNat)
  case atStart => exact ⟨0, rfl, Nat.zero_le _⟩
  case round =>
    obtain ⟨i, rfl, hi⟩ := hrel
    by_cases hlt : i < ls.length
    · obtain ⟨ad, A0, c0, rfl, hx1, hx2, hC0⟩ := atS HC.out i hlt
      have HX := am (HA.out _ (List.getElem_mem hlt))
      obtain ⟨xs, hx⟩ : ∃ z, ls[i] = z := ⟨_, rfl⟩
      rw [hx] at hx1 hx2 hC0 HX
      have hm2 : xs.length ≤ 9223372036854775807 := hC0.2.1
      have HC0 := am hC0
      have q0 : (0 : Int) ≤ (i : Int) := by omega
      have q1 : (i : Int) < (ls.length : Int) := by omega
      clear hx hC0 hx2
      go_wp2
      go_loop [24] (fun v => ∃ j : Nat, v = .int .i64 (j : Int) ∧ j ≤ xs.length) (fun v => xs.length - (intOf v).toNat)
      case atStart => exact ⟨0, rfl, Nat.zero_le _⟩
      case round =>
        obtain ⟨j, rfl, hj⟩ := hrel
        by_cases hjt : j < xs.length
        · obtain ⟨bd, rfl, hp⟩ := atI HC0.out j hjt
          obtain ⟨p0, p1, p2⟩ := HX.out _ (List.getElem_mem hjt)
          obtain ⟨x, hx_⟩ : ∃ z, xs[j] = z := ⟨_, rfl⟩
          rw [hx_] at hp p0 p1 p2
          obtain ⟨b1, b2⟩ := pvar_abs p0 p1 p2 (by omega)
          have KP := am (fun W => pvar_calls x W)
          obtain ⟨y, hy⟩ : ∃ z, pvar x = z := ⟨_, rfl⟩
          rw [hy] at b1 b2 KP
          have q2 : (0 : Int) ≤ (j : Int) := by omega
          have q3 : (j : Int) < (xs.length : Int) := by omega
          have q4 : (y == 0) = false := by rw [beq_eq_false_iff_ne]; omega
          clear hx_ hy p0
          go_wp2_with (go_at_call 63; refine (KP.out _).mono ?_; rintro e w' ⟨rfl, rfl⟩)
          go_round
          case rel => exact ⟨j + 1, by go_num, by omega⟩
          case measure => simp [intOf]; omega
        · obtain rfl : j = xs.length := by omega
          go_wp2
          go_round
          case rel => exact ⟨i + 1, by go_num, by omega⟩
          case measure => simp [intOf]; omega
    · obtain rfl : i = ls.length := by omega
      go_wp2
      go_ret
      exact ⟨_, rfl, rfl, Below.refl _ _⟩
theorem pvar_pos {x : Int} (h0 : 0 < x) (h1 : x ≤ 1000000000000) : pvar x = x := by
  unfold pvar mx wrap64
  split <;> split <;> omega
theorem pvar_neg {x : Int} (h0 : 0 < x) (h1 : x ≤ 1000000000000) : pvar (-x) = x := by
  unfold pvar mx wrap64
  split <;> split <;> omega
theorem litTrue_pos {M : List Bool} {m : Nat} (h : m < M.length) (hb : m ≤ 100000000000) : litTrue M ((m : Int) + 1) = M.getD m false := by
  unfold litTrue
  rw [pvar_pos (by omega) (by omega), decide_eq_true (show (0 : Int) < (m : Int) + 1 by omega), decide_eq_true (show (m : Int) + 1 ≤ (M.length : Int) by omega)]
  unfold rdOf
  rw [show ((m : Int) + 1 - 1).toNat = m by omega]
  cases M.getD m false <;> rfl
theorem litTrue_neg {M : List Bool} {m : Nat} (h : m < M.length) (hb : m ≤ 100000000000) : litTrue M (-((m : Int) + 1)) = !M.getD m false := by
  unfold litTrue
  rw [pvar_neg (by omega) (by omega), decide_eq_true (by omega), decide_eq_true (by omega), decide_eq_false (by omega)]
  unfold rdOf
  rw [show ((m : Int) + 1 - 1).toNat = m by omega]
  cases M.getD m false <;> rfl
theorem outL_get {c : S35} {s : List Bool} {rows : List (List Bool)} (h : s.length = c.f2.length) : ∀ {k a i : Nat}, a < k → i < szN c → (outL c s rows k).getD (a * szN c + i) false = (valL c s rows a).getD i false
  | 0, a, i, ha, hi => by omega
  | k + 1, a, i, ha, hi => by
    rw [outL_succ]
    have hl := outL_len (rows := rows) h k
    rcases Nat.lt_or_ge a k with h1 | h1
    · have h2 : (a + 1) * szN c ≤ k * szN c := Nat.mul_le_mul_right _ h1
      rw [Nat.add_mul, Nat.one_mul] at h2
      rw [List.getD_eq_getElem?_getD, List.getElem?_append_left (by omega), ← List.getD_eq_getElem?_getD]
      exact outL_get h h1 hi
    · have : a = k := by omega
      subst this
      rw [List.getD_eq_getElem?_getD, List.getElem?_append_right (by omega), hl, Nat.add_sub_cancel_left, ← List.getD_eq_getElem?_getD]
/-- A literal of a frame is true just if it is so in the graph. -/
theorem lit_true {c : S35} {s : List Bool} {rows : List (List Bool)} {k a : Nat} (hc : CircOk c) (hs : s.length = c.f2.length) (ha : a < k) (hk : k ≤ 10) {l : Int} (h0 : 0 ≤ l) (h1 : l < 2 * (szN c : Int)) :
    litTrue (outL c s rows k) (litOf ((a : Int) * sizeOf c) l) = litB (valL c s rows a) l ∧ litTrue (outL c s rows k) (-litOf ((a : Int) * sizeOf c) l) = !litB (valL c s rows a) l := by
  obtain ⟨q, hq⟩ : ∃ q : Nat, l / 2 = (q : Int) := ⟨(l / 2).toNat, by omega⟩
  have hqs : q < szN c := by omega
  have h2 : (a + 1) * szN c ≤ k * szN c := Nat.mul_le_mul_right _ ha
  have h3 : k * szN c ≤ 10 * szN c := Nat.mul_le_mul_right _ hk
  rw [Nat.add_mul, Nat.one_mul] at h2
  have h4 := hc.fit.2.1
  have h5 := hc.szN
  have hlen : (outL c s rows k).length = k * szN c := outL_len hs k
  have hg := outL_get (rows := rows) hs ha hqs
  have hl : a * szN c + q < (outL c s rows k).length := by omega
  have hb : a * szN c + q ≤ 100000000000 := by omega
  have e1 : (a : Int) * sizeOf c + 1 + l / 2 = ((a * szN c + q : Nat) : Int) + 1 := by rw [h5, hq, Int.natCast_add, Int.natCast_mul]; omega
  have hv : (l / 2).toNat = q := by omega
  rcases (by omega : l % 2 = 0 ∨ l % 2 = 1) with h | h
  · have e2 : litOf ((a : Int) * sizeOf c) l = ((a * szN c + q : Nat) : Int) + 1 := by unfold litOf; rw [h, e1]; omega
    unfold litB
    rw [e2, litTrue_pos hl hb, litTrue_neg hl hb, hg, hv, h, decide_eq_false (by omega)]
    cases (valL c s rows a).getD q false <;> exact ⟨rfl, rfl⟩
  · have e2 : litOf ((a : Int) * sizeOf c) l = -(((a * szN c + q : Nat) : Int) + 1) := by unfold litOf; rw [h, e1]; omega
    unfold litB
    rw [e2, Int.neg_neg, litTrue_pos hl hb, litTrue_neg hl hb, hg, hv, h, decide_eq_true rfl]
    cases (valL c s rows a).getD q false <;> exact ⟨rfl, rfl⟩
/-- A literal that a frame has. -/
def LitF (c : S35) (k : Nat) (x : Int) : Prop := ∃ (a : Nat) (l : Int), a < k ∧ 0 ≤ l ∧ l < 2 * (szN c : Int) ∧ (x = litOf ((a : Int) * sizeOf c) l ∨ x = -litOf ((a : Int) * sizeOf c) l)
theorem LitF.rng {c : S35} {k : Nat} {x : Int} (hc : CircOk c) (h : LitF c k x) : x ≠ 0 ∧ -((k * szN c : Nat) : Int) ≤ x ∧ x ≤ ((k * szN c : Nat) : Int) := by
  obtain ⟨a, l, ha, h0, h1, hx⟩ := h
  have h2 : (a + 1) * szN c ≤ k * szN c := Nat.mul_le_mul_right _ ha
  rw [Nat.add_mul, Nat.one_mul] at h2
  obtain ⟨q, hq⟩ : ∃ q : Nat, l / 2 = (q : Int) := ⟨(l / 2).toNat, by omega⟩
  have e1 : (a : Int) * sizeOf c + 1 + l / 2 = ((a * szN c + q : Nat) : Int) + 1 := by rw [hc.szN, hq, Int.natCast_add, Int.natCast_mul]; omega
  have e2 : litOf ((a : Int) * sizeOf c) l = ((a * szN c + q : Nat) : Int) + 1 ∨ litOf ((a : Int) * sizeOf c) l = -(((a * szN c + q : Nat) : Int) + 1) := by
    unfold litOf
    rw [e1]
    rcases (by omega : l % 2 = 0 ∨ l % 2 = 1) with h | h <;> rw [h] <;> omega
  rcases hx with rfl | rfl <;> rcases e2 with e | e <;> rw [e] <;> omega
theorem evl_pre (bs : List Bool) (l : List S117) {i : Nat} : ∀ {n : Nat}, i ≤ n → ∃ r, evl bs l n = evl bs l i ++ r := by
  intro n h
  obtain ⟨d, rfl⟩ : ∃ d, n = i + d := ⟨n - i, by omega⟩
  induction d with
  | zero => exact ⟨[], by simp⟩
  | succ d ih =>
    obtain ⟨r, hr⟩ := ih (by omega)
    exact ⟨_, by rw [show i + (d + 1) = (i + d) + 1 by omega, evl, hr, List.append_assoc]⟩
theorem evl_getpre (bs : List Bool) (l : List S117) {i n q : Nat} (h : i ≤ n) (hq : q < 1 + bs.length + i) : (evl bs l n).getD q false = (evl bs l i).getD q false := by
  obtain ⟨r, hr⟩ := evl_pre bs l h
  rw [hr, List.getD_eq_getElem?_getD, List.getElem?_append_left (by rw [evl_len]; exact hq), ← List.getD_eq_getElem?_getD]
theorem evl_gate (bs : List Bool) (l : List S117) {j n : Nat} (hj : j < n) (hn : n ≤ l.length) (hok : Vld (bs.length : Int) j (l[j]'(by omega)).f0 ∧ Vld (bs.length : Int) j (l[j]'(by omega)).f1) :
    (evl bs l n).getD (1 + bs.length + j) false = (litB (evl bs l n) (l[j]'(by omega)).f0 && litB (evl bs l n) (l[j]'(by omega)).f1) := by
  have hjl : j < l.length := by omega
  have e1 : ∀ x : Int, Vld (bs.length : Int) j x → litB (evl bs l n) x = litB (evl bs l j) x := fun x hx => by
    unfold litB
    rw [evl_getpre bs l (i := j) (by omega) (by have h1 := hx.1; have h2 := hx.2; omega)]
  rw [e1 _ hok.1, e1 _ hok.2, evl_getpre bs l (i := j + 1) (by omega) (by omega), evl_succ bs l j hjl, List.getD_eq_getElem?_getD, List.getElem?_append_right (by rw [evl_len]; omega), evl_len]
  simp
theorem evl_zero (bs : List Bool) (l : List S117) (n : Nat) : (evl bs l n).getD 0 false = false := by
  rw [evl_getpre bs l (i := 0) (by omega) (by omega)]; rfl
theorem evl_in (bs : List Bool) (l : List S117) (n j : Nat) (h : j < bs.length) : (evl bs l n).getD (1 + j) false = bs.getD j false := by
  rw [evl_getpre bs l (i := 0) (by omega) (by omega)]
  show (false :: bs).getD (1 + j) false = _
  rw [Nat.add_comm, List.getD_cons_succ]
/-- A clause that is met, of literals that there are. -/
def ClOk (c : S35) (s : List Bool) (rows : List (List Bool)) (k : Nat) (cl : List Int) : Prop := (∀ x ∈ cl, LitF c k x) ∧ cl.any (litTrue (outL c s rows k)) = true
theorem val_in {c : S35} {s : List Bool} {rows : List (List Bool)} (hs : s.length = c.f2.length) {a j : Nat} (h : j < c.f1.length) : (valL c s rows a).getD (1 + j) false = (insL c rows a).getD j false := by
  unfold valL evlC
  have hl : (insL c rows a).length = c.f1.length := bitsL_len _ _
  rw [evl_in _ _ _ _ (by rw [List.length_append, hl]; omega), List.getD_eq_getElem?_getD, List.getElem?_append_left (by omega), ← List.getD_eq_getElem?_getD]
theorem val_lat {c : S35} {s : List Bool} {rows : List (List Bool)} (hs : s.length = c.f2.length) {a i : Nat} (h : i < c.f2.length) : (valL c s rows a).getD (1 + c.f1.length + i) false = (stL c s rows a).getD i false := by
  unfold valL evlC
  have hl : (insL c rows a).length = c.f1.length := bitsL_len _ _
  rw [Nat.add_assoc, evl_in _ _ _ _ (by rw [List.length_append, hl, stL_len hs]; omega), List.getD_eq_getElem?_getD, List.getElem?_append_right (by omega), hl, Nat.add_sub_cancel_left, ← List.getD_eq_getElem?_getD]
theorem bitsL_get {l : List Bool} {n i : Nat} (h : i < n) : (bitsL l n).getD i false = l.getD i false := by
  unfold bitsL
  rw [List.getD_eq_getElem?_getD, List.getElem?_map, List.getElem?_range h]
  rfl
theorem map_get {α : Type} (f : α → Bool) (l : List α) (i : Nat) (h : i < l.length) : (l.map f).getD i false = f l[i] := by
  rw [List.getD_eq_getElem?_getD, List.getElem?_map, List.getElem?_eq_getElem h]; rfl
theorem litB_even (V : List Bool) (q : Nat) : litB V (2 * (q : Int)) = V.getD q false := by
  unfold litB
  rw [show (2 * (q : Int) / 2).toNat = q by omega, show 2 * (q : Int) % 2 = 0 by omega, decide_eq_false (by omega)]
  cases V.getD q false <;> rfl
/-- What a circuit does meets all clauses. -/
theorem runs_cl {c : S35} {s : List Bool} {rows : List (List Bool)} {k : Nat} (hc : CircOk c) (hs : s.length = c.f2.length) (hk : k ≤ 10) (fs : Bool) (hf : fs = true → s = c.f2.map S84.f2) : ∀ cl ∈ framesC c fs k, ClOk c s rows k cl := by
  intro cl hcl
  unfold framesC at hcl
  obtain ⟨a, ha, hcl⟩ := List.mem_flatMap.1 hcl
  have hak : a < k := List.mem_range.1 ha
  have hS : (szN c : Int) = 1 + c.f0.f0 + c.f0.f1.length := by rw [← hc.szN]; rfl
  have LT : ∀ {l : Int}, 0 ≤ l → l < 2 * (szN c : Int) → litTrue (outL c s rows k) (litOf ((a : Int) * sizeOf c) l) = litB (valL c s rows a) l ∧ litTrue (outL c s rows k) (-litOf ((a : Int) * sizeOf c) l) = !litB (valL c s rows a) l := fun h0 h1 => lit_true hc hs hak hk h0 h1
  have P : ∀ {l : Int}, 0 ≤ l → l < 2 * (szN c : Int) → LitF c k (litOf ((a : Int) * sizeOf c) l) := fun h0 h1 => ⟨a, _, hak, h0, h1, .inl rfl⟩
  have N : ∀ {l : Int}, 0 ≤ l → l < 2 * (szN c : Int) → LitF c k (-litOf ((a : Int) * sizeOf c) l) := fun h0 h1 => ⟨a, _, hak, h0, h1, .inr rfl⟩
  unfold frameC at hcl
  have hbl : ((insL c rows a ++ stL c s rows a).length : Int) = c.f0.f0 := by
    have h1 := hc.ins
    rw [List.length_append, stL_len hs]
    unfold insL
    rw [bitsL_len]; exact h1
  rcases List.mem_append.1 hcl with hcl | hcl
  · unfold clausesTo at hcl
    rcases List.mem_cons.1 hcl with rfl | hcl
    · refine ⟨fun x hx => by rw [List.mem_singleton.1 hx]; exact N (by omega) (by have := hc.i0; omega), ?_⟩
      rw [List.any_cons, (LT (by omega) (by have := hc.i0; omega)).2]
      have : litB (valL c s rows a) 0 = false := by
        have := litB_even (valL c s rows a) 0
        rw [show (2 * ((0 : Nat) : Int)) = 0 by omega] at this
        rw [this]; exact evl_zero _ _ _
      rw [this]; rfl
    · unfold gatesTo at hcl
      obtain ⟨j, hj, hcl⟩ := List.mem_flatMap.1 hcl
      have hj := List.mem_range.1 hj
      rw [List.getD_eq_getElem?_getD, List.getElem?_eq_getElem hj, Option.getD_some] at hcl
      have hok := hc.ok j hj
      obtain ⟨⟨a0, a1⟩, ⟨b0, b1⟩⟩ := hok
      have hg := evl_gate (insL c rows a ++ stL c s rows a) c.f0.f1 hj (Nat.le_refl _) ⟨⟨a0, by rw [hbl]; exact a1⟩, ⟨b0, by rw [hbl]; exact b1⟩⟩
      have hq : (2 * (1 + c.f0.f0 + (j : Int))) = 2 * ((1 + (insL c rows a ++ stL c s rows a).length + j : Nat) : Int) := by rw [← hbl]; omega
      have hv : litB (valL c s rows a) (2 * (1 + c.f0.f0 + (j : Int))) = (litB (valL c s rows a) c.f0.f1[j].f0 && litB (valL c s rows a) c.f0.f1[j].f1) := by
        rw [hq, litB_even]; exact hg
      have g0 : 0 ≤ 2 * (1 + c.f0.f0 + (j : Int)) := by have := hc.i0; omega
      have g1 : 2 * (1 + c.f0.f0 + (j : Int)) < 2 * (szN c : Int) := by omega
      have a2 : c.f0.f1[j].f0 < 2 * (szN c : Int) := by omega
      have b2 : c.f0.f1[j].f1 < 2 * (szN c : Int) := by omega
      unfold gateOf at hcl
      simp only [List.mem_cons, List.not_mem_nil, or_false] at hcl
      rcases hcl with rfl | rfl | rfl
      · refine ⟨fun x hx => ?_, ?_⟩
        · simp only [List.mem_cons, List.not_mem_nil, or_false] at hx
          rcases hx with rfl | rfl
          · exact N g0 g1
          · exact P a0 a2
        · rw [List.any_cons, List.any_cons, (LT g0 g1).2, (LT a0 a2).1, hv]
          cases litB (valL c s rows a) c.f0.f1[j].f0 <;> cases litB (valL c s rows a) c.f0.f1[j].f1 <;> rfl
      · refine ⟨fun x hx => ?_, ?_⟩
        · simp only [List.mem_cons, List.not_mem_nil, or_false] at hx
          rcases hx with rfl | rfl
          · exact N g0 g1
          · exact P b0 b2
        · rw [List.any_cons, List.any_cons, (LT g0 g1).2, (LT b0 b2).1, hv]
          cases litB (valL c s rows a) c.f0.f1[j].f0 <;> cases litB (valL c s rows a) c.f0.f1[j].f1 <;> rfl
      · refine ⟨fun x hx => ?_, ?_⟩
        · simp only [List.mem_cons, List.not_mem_nil, or_false] at hx
          rcases hx with rfl | rfl | rfl
          · exact P g0 g1
          · exact N a0 a2
          · exact N b0 b2
        · rw [List.any_cons, List.any_cons, List.any_cons, (LT g0 g1).1, (LT a0 a2).2, (LT b0 b2).2, hv]
          cases litB (valL c s rows a) c.f0.f1[j].f0 <;> cases litB (valL c s rows a) c.f0.f1[j].f1 <;> rfl
  · by_cases h0 : a = 0
    · subst h0
      rw [if_pos rfl] at hcl
      cases fs with
      | false => simp at hcl
      | true =>
        rw [if_pos rfl] at hcl
        obtain ⟨x, hx, rfl⟩ := List.mem_map.1 hcl
        obtain ⟨i, hi, rfl⟩ := List.mem_iff_getElem.1 hx
        have h1 := (hc.lats i hi).1
        have hq : 2 * c.f2[i].f0 = 2 * ((1 + c.f1.length + i : Nat) : Int) := by rw [h1]; omega
        have hz : (0 : Int) = ((0 : Nat) : Int) * sizeOf c := by simp
        have g0 : 0 ≤ 2 * c.f2[i].f0 := by omega
        have g1 : 2 * c.f2[i].f0 < 2 * (szN c : Int) := by have := hc.ins; omega
        have hv : litB (valL c s rows 0) (2 * c.f2[i].f0) = c.f2[i].f2 := by
          rw [hq, litB_even, val_lat hs hi]
          show s.getD i false = _
          rw [hf rfl, map_get S84.f2 _ _ hi]
        unfold initOf
        rw [hz]
        cases hb : c.f2[i].f2 with
        | true =>
          refine ⟨fun x hx => by rw [List.mem_singleton.1 hx]; exact P g0 g1, ?_⟩
          rw [List.any_cons]
          simp only [if_true]
          rw [(LT g0 g1).1, hv, hb]; rfl
        | false =>
          refine ⟨fun x hx => by rw [List.mem_singleton.1 hx]; exact N g0 g1, ?_⟩
          rw [List.any_cons]
          simp only [Bool.false_eq_true, if_false]
          rw [(LT g0 g1).2, hv, hb]; rfl
    · rw [if_neg h0] at hcl
      obtain ⟨x, hx, hcl⟩ := List.mem_flatMap.1 hcl
      obtain ⟨i, hi, rfl⟩ := List.mem_iff_getElem.1 hx
      obtain ⟨b, rfl⟩ : ∃ b, a = b + 1 := ⟨a - 1, by omega⟩
      have hbz : (((b + 1 : Nat) : Int) - 1) = (b : Int) := by omega
      rw [hbz] at hcl
      have h1 := (hc.lats i hi).1
      obtain ⟨n0, n1⟩ := (hc.lats i hi).2
      have n2 : c.f2[i].f1 < 2 * (szN c : Int) := by omega
      have hq : 2 * c.f2[i].f0 = 2 * ((1 + c.f1.length + i : Nat) : Int) := by rw [h1]; omega
      have g0 : 0 ≤ 2 * c.f2[i].f0 := by omega
      have g1 : 2 * c.f2[i].f0 < 2 * (szN c : Int) := by have := hc.ins; omega
      have hv : litB (valL c s rows (b + 1)) (2 * c.f2[i].f0) = litB (valL c s rows b) c.f2[i].f1 := by
        rw [hq, litB_even, val_lat hs hi, stL, bitsL_get hi, map_get (fun x : S84 => litB (evlC c (insL c rows b ++ stL c s rows b)) x.f1) _ _ hi]
        rfl
      have LB := lit_true (rows := rows) hc hs (show b < k by omega) hk n0 n2
      unfold linkOf at hcl
      simp only [List.mem_cons, List.not_mem_nil, or_false] at hcl
      rcases hcl with rfl | rfl
      · refine ⟨fun x hx => ?_, ?_⟩
        · simp only [List.mem_cons, List.not_mem_nil, or_false] at hx
          rcases hx with rfl | rfl
          · exact N g0 g1
          · exact ⟨b, _, by omega, n0, n2, .inl rfl⟩
        · rw [List.any_cons, List.any_cons, (LT g0 g1).2, LB.1, hv]
          cases litB (valL c s rows b) c.f2[i].f1 <;> rfl
      · refine ⟨fun x hx => ?_, ?_⟩
        · simp only [List.mem_cons, List.not_mem_nil, or_false] at hx
          rcases hx with rfl | rfl
          · exact P g0 g1
          · exact ⟨b, _, by omega, n0, n2, .inr rfl⟩
        · rw [List.any_cons, List.any_cons, (LT g0 g1).1, LB.2, hv]
          cases litB (valL c s rows b) c.f2[i].f1 <;> rfl
section
variable {P : Program} {ops : Array Oper} {md : Region.Mode} {Q : Exit → Act → World → Prop} {S : World → Prop} {ds : List Nat}
/-- A row behind rows of bools, in a region that draws: its literal of one has been made. -/
theorem onaprB {oi : Oper} {fuel : Nat} {l : Array Bool} {a : Act} {w0 W : World} {L : List Bx} (i : Nat) (N : Tmp) (s x : Operand) {v vi : Value} {ls : List (List Bool)} {ys : List Bool}
    (HL : Aside0 (Led L w0 W)) (HO : Aside0 (RrB W v ls)) (HN : Aside0 (Own w0 v)) (hi_ : Rb W 0 vi ys) (ht : P.underlying 52 = some (.slice 36)) (hinfo : (P.info? 36).map (fun i => (i.zero, i.size, i.bytes)) = some (some (.slice none 0 0), 1, 24)) (hl : ls.length ≤ 100000000)
    (hS : ∀ w1, Led L w0 w1 → S w1)
    (h : ∀ v1 w1, Aside0 (RrB w1 v1 (ls ++ [ys])) → Aside0 (Own w0 v1) → Aside0 (Led L w0 w1) → S w1 → wpAnyLast P md ops Q S ds fuel (l.setIfInBounds i true) (a.put (some N) v1) w1)
    (hne : ∀ b, b ∈ L → 36 ≠ b.2.2 := by simp)
    (hc : readyB md ops l (l.setIfInBounds i true) i = true := by kernel_rfl) (hi : ops[i]? = some oi := by rfl) (hN : oi.dst = some N := by rfl) (hd : i ∉ ds := by decide) (hw : Region.wanted oi (yielded ops a.tmps) = true := by rfl)
    (ho : oi.op = .call { callee := .builtin .append, args := #[s, x], argTypes := #[52, 52] } := by rfl) (hs : a.eval s = v := by rfl) (hx : a.eval x = .slice (some ⟨W.heap.size, 0, none⟩) 1 1 := by rfl) : wpAnyLast P md ops Q S ds (fuel + 1) l a (W.alloc (.cells #[vi] 36)) := by
  refine one_ (N := some N) _ hi hN hc hd (fun K hK => ?_)
  rw [← hN]
  refine Kd.R_append_step kB (w0 := W) 0 hw s x 52 36 (.slice none 0 0) 24 ho ht hinfo rfl (by decide) (by decide) v ls ys [vi] Any _ hs hx (inner_okB HO.out hi_) (fun k hk => ⟨trivial, hk⟩) (fun _ _ => trivial) HO.out ⟨rfl, rfl, rfl, Nat.le_refl _, fun _ _ => rfl⟩ (Nat.zero_le _) (by omega)
    (fun v1 w1 h1 _ hg hat => ?_)
  have HL1 : Led L w0 w1 := HL.out.grown HO.out hg (pw_below_grown HL.out.below _ HL.out.below.size hg HN.out) hne
  refine hK.out _ _ (hS _ HL1) (fun hs2 => ?_)
  rw [hN]
  exact h v1 w1 ⟨h1⟩ ⟨fun k hk => by
      rcases hat with e | ⟨b, e, hb⟩
      · exact HN.out k (e ▸ hk)
      · rw [e] at hk; injection hk with hk; subst hk; exact Nat.le_trans HL.out.below.size hb⟩ ⟨HL1⟩ hs2
end
/-- A clause of one literal, just made. -/
theorem one_row (w : World) (x : Int) : kR.C ((w.alloc (.cells #[.int .i64 x] 3)).alloc (.cells #[.slice (some ⟨w.heap.size, 0, none⟩) 1 1] 66)) (some ⟨(w.alloc (.cells #[.int .i64 x] 3)).heap.size, 0, none⟩) 1 [[x]] := by
  have h1 : (w.alloc (.cells #[.int .i64 x] 3)).heap[w.heap.size]? = some (.cells #[.int .i64 x] 3 (0, 0)) := blk_new w _
  have h2 := blk_below h1 (below_alloc (Below.refl _ _) (.cells #[.slice (some ⟨w.heap.size, 0, none⟩) 1 1] 66))
  have h3 := blk_new (w.alloc (.cells #[.int .i64 x] 3)) (.cells #[.slice (some ⟨w.heap.size, 0, none⟩) 1 1] 66)
  refine ⟨rfl, by omega, fun _ => ⟨_, rfl, fun j p hp => ?_⟩⟩
  cases j with
  | succ j => simp at hp
  | zero =>
    have : [x] = p := by simpa using hp
    subst this
    refine ⟨[.slice (some ⟨w.heap.size, 0, none⟩) 1 1], rfl, ⟨_, 1, rfl, Nat.le_refl _, ⟨rfl, by simp, fun _ => ⟨_, rfl, fun j p hp => ?_⟩⟩⟩, fun i u hu => ?_⟩
    · cases j with
      | succ j => simp at hp
      | zero =>
        have : x = p := by simpa using hp
        subst this
        refine ⟨[.int .i64 x], rfl, rfl, fun i u hu => ?_⟩
        cases i with
        | succ i => simp at hu
        | zero =>
          have : Value.int .i64 x = u := by simpa using hu
          subst this
          exact blk_cell h2 0
    · cases i with
      | succ i => simp at hu
      | zero =>
        have : Value.slice (some ⟨w.heap.size, 0, none⟩) 1 1 = u := by simpa using hu
        subst this
        exact blk_cell h3 0
/-- A model tells a circuit's inputs. -/
theorem insC_is {c : S35} {s : List Bool} {rows : List (List Bool)} {k : Nat} (hc : CircOk c) (hs : s.length = c.f2.length) (hk : k ≤ 10) : insC c k (outL c s rows k) = (List.range k).map (insL c rows) := by
  unfold insC
  refine List.map_congr_left (fun a ha => ?_)
  have hak : a < k := List.mem_range.1 ha
  have h2 : (a + 1) * szN c ≤ k * szN c := Nat.mul_le_mul_right _ hak
  rw [Nat.add_mul, Nat.one_mul] at h2
  refine List.ext_getElem (by unfold insRow insL; rw [List.length_map, bitsL_len]) (fun j h1 h3 => ?_)
  have hj : j < c.f1.length := by unfold insRow at h1; rwa [List.length_map] at h1
  have hg := outL_get (rows := rows) hs hak (show 1 + j < szN c by unfold szN; omega)
  have hv := val_in (rows := rows) hs (a := a) hj
  have hr : ∀ h : j < (insRow c (outL c s rows k) a).length, (insRow c (outL c s rows k) a)[j] = insB (outL c s rows k) (litOf ((a : Int) * sizeOf c) (2 * c.f1[j].f0)) := fun h => by simp [insRow]
  rw [hr, litOf_even, hc.pins j hj, hc.szN]
  unfold insB
  have hjs : j + 2 ≤ szN c := by unfold szN; omega
  rw [decide_eq_true (by rw [outL_len hs, ← Int.natCast_mul]; omega), Bool.true_and]
  have e : ((a : Int) * (szN c : Int) + 1 + ((j : Int) + 1) - 1).toNat = a * szN c + (1 + j) := by rw [← Int.natCast_mul]; omega
  rw [e, hg, hv, List.getD_eq_getElem?_getD, List.getElem?_eq_getElem h3]; rfl
theorem met_all {c : S35} {s : List Bool} {rows : List (List Bool)} {k : Nat} (hc : CircOk c) (hs : s.length = c.f2.length) (hk : k ≤ 10) (fs : Bool) (hf : fs = true → s = c.f2.map S84.f2) : ((framesC c fs k).all fun cl => cl.any (litTrue (outL c s rows k))) = true :=
  List.all_eq_true.2 (fun cl hcl => (runs_cl hc hs hk fs hf cl hcl).2)
theorem lits_rng {c : S35} {s : List Bool} {rows : List (List Bool)} {k : Nat} (hc : CircOk c) (hs : s.length = c.f2.length) (hk : k ≤ 10) (fs : Bool) (hf : fs = true → s = c.f2.map S84.f2) : ∀ l ∈ framesC c fs k, ∀ x ∈ l, x ≠ 0 ∧ -((k * szN c : Nat) : Int) ≤ x ∧ x ≤ ((k * szN c : Nat) : Int) :=
  fun l hl x hx => ((runs_cl (rows := rows) hc hs hk fs hf l hl).1 x hx).rng hc
end Go.Proofs.Yteilkojmefipcaa.U
