/- Written by hyb.py, a program of this session that drives the kit's printer over this seat's translation: each function as a plain Lean function, and a proof that the Go code does what it says. Lean checks it. -/
import Derived.Test.YtomlnddhfigbjaaDoorQx0
import Derived.Test.YtomlnddhfigbjaaDoorQx1
import Derived.Test.YtomlnddhfigbjaaDoorDimsAs
import Derived.Deep.RegionWith
namespace Go.Proofs.YtomlnddhfigbjaaDoor.Q
open Go.RowKit Go.Proofs.YtomlnddhfigbjaaDoorW.PrintWords Go.Proofs.YtomlnddhfigbjaaDoorW.PrintLast Go.Proofs.YtomlnddhfigbjaaDoorW.PrintMore
attribute [local go_sem] max2_int min2_int max_two min_two max_three min_three max_four min_four   -- for this text's walks alone
set_option linter.unusedVariables false
set_option linter.unusedSimpArgs false

-- HAND
/-! ### dims_Value: function 12, by hand -/
open Go.Proofs.YtomlnddhfigbjaaDoor.As
/-- Where a name stands first in a list, counted from i on; -1: nowhere. -/
def sidx (nm : List UInt8) : List ByteArray → Nat → Int
  | [], _ => -1
  | x :: r, i => if nm = x.toList then (i : Int) else sidx nm r (i + 1)
theorem sidx_index (l : List ByteArray) (nm : ByteArray) (hl : l.length ≤ 9223372036854775807) (d : Nat) : ∀ (k i : Nat), l.length - i = d → d < k → i ≤ l.length → slices_Index_string_string.l0 k l nm (l.length : Int) (i : Int) = some (sidx nm.toList (l.drop i) i) := by
  induction d with
  | zero =>
    intro k i hd hk hi
    obtain ⟨k, rfl⟩ : ∃ m, k = m + 1 := ⟨k - 1, by omega⟩
    rw [List.drop_eq_nil_of_le (by omega)]
    simp only [slices_Index_string_string.l0]
    rw [if_neg (by omega)]
    rfl
  | succ d ih =>
    intro k i hd hk hi
    obtain ⟨k, rfl⟩ : ∃ m, k = m + 1 := ⟨k - 1, by omega⟩
    have hil : i < l.length := by omega
    rw [List.drop_eq_getElem_cons hil]
    simp only [slices_Index_string_string.l0, sidx]
    have hr : rdOf ByteArray.empty l (i : Int) = l[i] := by simp [rdOf, List.getD_eq_getElem?_getD, hil]
    rw [if_pos (by omega), if_pos (by omega), if_pos (by omega), hr]
    by_cases e : nm.toList = l[i].toList
    · rw [if_pos e, if_pos e]
    · rw [if_neg e, if_neg e]
      have hw : wrap64 ((i : Int) + 1) = ((i + 1 : Nat) : Int) := by unfold wrap64; omega
      rw [hw]
      exact ih k (i + 1) (by omega) (by omega) (by omega)
theorem sidx_range (nm : List UInt8) : ∀ (l : List ByteArray) (i : Nat), -1 ≤ sidx nm l i ∧ sidx nm l i < ((i + l.length : Nat) : Int) ∧ (sidx nm l i < 0 ∨ (i : Int) ≤ sidx nm l i)
  | [], i => by simp only [sidx]; omega
  | x :: r, i => by
    have := sidx_range nm r (i + 1)
    simp only [sidx, List.length_cons]
    split <;> omega

/-- What a name's number is. -/
def dfound (nm : ByteArray) (l1 : List ByteArray) (l2 : List Int) : Option (Int × Option Int) :=
  if nm.toList = [] then some (0, none) else if sidx nm.toList l1 0 < 0 then some (0, some 40) else if sidx nm.toList l1 0 < (l2.length : Int) then some (rd l2 (sidx nm.toList l1 0), none) else none
/-- What a number is, and what is wrong with it. -/
def dvalue (nm : ByteArray) (n : Int) (l1 : List ByteArray) (l2 : List Int) : Option (Int × Option Int) :=
  (dfound nm l1 l2).bind fun r => match r.2 with
  | some c => some (0, some c)
  | none => if n < 0 ∨ n > 65535 then some (0, some 41) else if wrap64 (n + r.1) < 0 ∨ wrap64 (n + r.1) > 65535 then some (0, some 41) else some (wrap64 (n + r.1), none)
def dtold (r : Int × Option Int) : Int × Int := match r.2 with
  | some c => (0, c)
  | none => (r.1, 0)
def dims_Value.f (a0_0 : ByteArray) (a0_1 : Int) (l1 : List ByteArray) (l2 : List Int) : Option (Int × Int) := (dvalue a0_0 a0_1 l1 l2).map dtold

set_option maxHeartbeats 4000000 in
set_option maxRecDepth 100000 in
theorem found_empty (p1 p2 : Addr) (nm : ByteArray) (w : World) (h1 : nm.toList = []) :
    Calls Tryd.prog 24 #[.string nm, .pointer (some p1), .pointer (some p2)] w fun e w' => e = .returned (.tuple #[.int .i64 0, .nilIface]) ∧ Drawn0 w w' := by
  go_enter Tryd.func24, Tryd.ntmps24
  go_wp2
  go_ret2
  exact ⟨rfl, Drawn0.refl _⟩
set_option maxHeartbeats 4000000 in
set_option maxRecDepth 100000 in
theorem found_no (k : Nat) (p1 p2 : Addr) (A1 : Option Addr) (c1 : Nat) (l1 : List ByteArray) (j : Int) (nm : ByteArray) (w : World) (h1 : (nm.toList == []) = false) (h1' : (nm.toList.isEmpty) = false)
    (hp1 : w.cell? p1 = some (.slice A1 l1.length c1)) (hr1 : Aside0 (Kd.C Kd.string w A1 l1.length l1)) (hc1 : Aside0 (l1.length ≤ c1))
    (hx : Aside0 (slices_Index_string_string.f k l1 nm = some j)) (hi : decide (j < 0) = true) :
    Calls Tryd.prog 24 #[.string nm, .pointer (some p1), .pointer (some p2)] w fun e w' => e = .returned (.tuple #[.int .i64 0, .iface 31 (.int .i64 40)]) ∧ Drawn0 w w' := by
  have hu := Tryd.underlying31
  go_enter Tryd.func24, Tryd.ntmps24
  go_wp2_with (go_at_call 25; refine (slices_Index_string_string.calls k _ _ _ _ _ _ hr1.out hc1.out hx.out).mono ?_; rintro e w' ⟨rfl, ⟨nd, rfl⟩⟩)
  go_ret2
  exact ⟨rfl, Drawn0.step (Drawn0.refl _) _⟩
set_option maxHeartbeats 4000000 in
set_option maxRecDepth 100000 in
theorem found_yes (k : Nat) (p1 p2 : Addr) (A1 : Option Addr) (ad : Addr) (c1 n2 c2 : Nat) (l1 : List ByteArray) (j v : Int) (nm : ByteArray) (w : World) (h1 : (nm.toList == []) = false) (h1' : (nm.toList.isEmpty) = false)
    (hp1 : w.cell? p1 = some (.slice A1 l1.length c1)) (hp2 : w.cell? p2 = some (.slice (some ad) n2 c2)) (hr1 : Aside0 (Kd.C Kd.string w A1 l1.length l1)) (hc1 : Aside0 (l1.length ≤ c1))
    (hx : Aside0 (slices_Index_string_string.f k l1 nm = some j)) (hi : decide (j < 0) = false) (h0 : (0 ≤ j) = True) (hn : (j < (n2 : Int)) = True) (hv : w.cell? (ad.add j.toNat) = some (.int .i64 v)) :
    Calls Tryd.prog 24 #[.string nm, .pointer (some p1), .pointer (some p2)] w fun e w' => e = .returned (.tuple #[.int .i64 v, .nilIface]) ∧ Drawn0 w w' := by
  go_enter Tryd.func24, Tryd.ntmps24
  go_wp2_with (go_at_call 25; refine (slices_Index_string_string.calls k _ _ _ _ _ _ hr1.out hc1.out hx.out).mono ?_; rintro e w' ⟨rfl, ⟨nd, rfl⟩⟩)
  go_ret2
  exact ⟨rfl, Drawn0.step (Drawn0.refl _) _⟩
theorem found_any (p1 p2 : Addr) (A1 A2 : Option Addr) (c1 c2 : Nat) (l1 : List ByteArray) (l2 : List Int) (nm : ByteArray) (r1 : Int) (r2 : Option Int) (w : World)
    (hp1 : w.cell? p1 = some (.slice A1 l1.length c1)) (hp2 : w.cell? p2 = some (.slice A2 l2.length c2)) (hr1 : Kd.C Kd.string w A1 l1.length l1) (hc1 : l1.length ≤ c1) (hr2 : Kd.C (Kd.int .i64) w A2 l2.length l2)
    (h : dfound nm l1 l2 = some (r1, r2)) :
    Calls Tryd.prog 24 #[.string nm, .pointer (some p1), .pointer (some p2)] w fun e w' => e = .returned (.tuple #[.int .i64 r1, errW r2]) ∧ Drawn0 w w' := by
  have hx := sidx_index l1 nm hr1.2.1 l1.length (l1.length + 1) 0 (by omega) (by omega) (by omega)
  rw [List.drop_zero] at hx
  have hs := sidx_range nm.toList l1 0
  unfold dfound at h
  by_cases e : nm.toList = []
  · rw [if_pos e] at h
    obtain ⟨rfl, rfl⟩ : 0 = r1 ∧ none = r2 := by simpa using h
    exact found_empty p1 p2 nm w e
  · rw [if_neg e] at h
    have e1 : (nm.toList == []) = false := by simp [e]
    have e2 : nm.toList.isEmpty = false := by simp [e]
    by_cases e3 : sidx nm.toList l1 0 < 0
    · rw [if_pos e3] at h
      obtain ⟨rfl, rfl⟩ : 0 = r1 ∧ some 40 = r2 := by simpa using h
      exact found_no (l1.length + 1) p1 p2 A1 c1 l1 _ nm w e1 e2 hp1 ⟨hr1⟩ ⟨hc1⟩ ⟨hx⟩ (decide_eq_true e3)
    · rw [if_neg e3] at h
      by_cases e4 : sidx nm.toList l1 0 < (l2.length : Int)
      · rw [if_pos e4] at h
        obtain ⟨rfl, rfl⟩ : rd l2 (sidx nm.toList l1 0) = r1 ∧ none = r2 := by simpa using h
        obtain ⟨ad, rfl, hv⟩ := Kd.at_int hr2 (sidx nm.toList l1 0) (by omega) e4
        exact found_yes (l1.length + 1) p1 p2 A1 ad c1 l2.length c2 l1 _ _ nm w e1 e2 hp1 hp2 ⟨hr1⟩ ⟨hc1⟩ ⟨hx⟩ (decide_eq_false e3) (eq_true (by omega)) (eq_true e4) hv
      · rw [if_neg e4] at h; cases h


/-- What must hold of the two captured slices where the closure is called. -/
structure Caps (w : World) (p1 p2 : Addr) (l1 : List ByteArray) (l2 : List Int) : Prop where
  mk :: (out : ∃ (A1 A2 : Option Addr) (c1 c2 : Nat), w.cell? p1 = some (.slice A1 l1.length c1) ∧ w.cell? p2 = some (.slice A2 l2.length c2) ∧ Kd.C Kd.string w A1 l1.length l1 ∧ l1.length ≤ c1 ∧ Kd.C (Kd.int .i64) w A2 l2.length l2)
theorem Caps.below {w w1 : World} {p1 p2 : Addr} {l1 : List ByteArray} {l2 : List Int} (h : Caps w p1 p2 l1 l2) (hb : Below w.heap.size w w1) : Caps w1 p1 p2 l1 l2 := by
  obtain ⟨A1, A2, c1, c2, h1, h2, h3, h4, h5⟩ := h.out
  exact ⟨A1, A2, c1, c2, pw_cell_below hb h1, pw_cell_below hb h2, Kd.C_below h3 hb, h4, Kd.C_below h5 hb⟩
theorem found_caps (p1 p2 : Addr) (l1 : List ByteArray) (l2 : List Int) (nm : ByteArray) (r1 : Int) (r2 : Option Int) (w : World) (hc : Caps w p1 p2 l1 l2) (h : Aside0 (dfound nm l1 l2 = some (r1, r2))) :
    Calls Tryd.prog 24 #[.string nm, .pointer (some p1), .pointer (some p2)] w fun e w' => e = .returned (.tuple #[.int .i64 r1, errW r2]) ∧ Drawn0 w w' := by
  obtain ⟨A1, A2, c1, c2, h1, h2, h3, h4, h5⟩ := hc.out
  exact found_any p1 p2 A1 A2 c1 c2 l1 l2 nm r1 r2 w h1 h2 h3 h4 h5 h.out

set_option maxHeartbeats 4000000 in
set_option maxRecDepth 100000 in
/-- dims.value, the name being none. -/
theorem value_none (p1 p2 : Addr) (l1 : List ByteArray) (l2 : List Int) (nm : ByteArray) (n v c : Int) (w : World) (hc : Caps w p1 p2 l1 l2)
    (h : Aside0 (dfound nm l1 l2 = some (v, some c))) :
    Calls Tryd.prog 20 #[.agg #[.string nm, .int .i64 n], .func (.func 24) #[] #[.pointer (some p1), .pointer (some p2)]] w fun e w' => e = .returned (.tuple #[.int .i64 0, .iface 31 (.int .i64 c)]) ∧ Below w.heap.size w w' := by
  have hu := Tryd.underlying31
  have hu2 := Tryd.underlying49
  have hb := below_alloc (Below.refl w.heap.size w) (.cells #[.string nm, .int .i64 n] 23)
  have hc1 := Aside0.mk (hc.below hb)
  clear hc hb
  go_enter Tryd.func20, Tryd.ntmps20
  go_wp2_with (go_at_call 24; refine (found_caps p1 p2 l1 l2 nm v (some c) _ hc1.out h).mono ?_; rintro e w' ⟨rfl, ⟨nd, rfl⟩⟩; simp only [errW_some])
  go_ret2
  exact ⟨rfl, pw_below_drewN (below_alloc (Below.refl w.heap.size w) _) _⟩

set_option maxHeartbeats 4000000 in
set_option maxRecDepth 100000 in
/-- dims.value, the number itself out of its range. -/
theorem value_off (p1 p2 : Addr) (l1 : List ByteArray) (l2 : List Int) (nm : ByteArray) (n v : Int) (w : World) (hc : Caps w p1 p2 l1 l2)
    (h : Aside0 (dfound nm l1 l2 = some (v, none))) (hn : Aside0 (dims_within.f n 0 65535 = some (0, some 41))) :
    Calls Tryd.prog 20 #[.agg #[.string nm, .int .i64 n], .func (.func 24) #[] #[.pointer (some p1), .pointer (some p2)]] w fun e w' => e = .returned (.tuple #[.int .i64 0, .iface 31 (.int .i64 41)]) ∧ Below w.heap.size w w' := by
  have hu := Tryd.underlying31
  have hu2 := Tryd.underlying49
  have hb := below_alloc (Below.refl w.heap.size w) (.cells #[.string nm, .int .i64 n] 23)
  have hc1 := Aside0.mk (hc.below hb)
  clear hc hb
  go_enter Tryd.func20, Tryd.ntmps20
  go_wp2_with (first | (go_at_call 24; refine (found_caps p1 p2 l1 l2 nm v none _ hc1.out h).mono ?_; rintro e w' ⟨rfl, ⟨nd, rfl⟩⟩; simp only [errW_none]) | (go_at_call 22; refine (dims_within.calls n 0 65535 0 (some 41) _ hn.out).mono ?_; rintro e w' ⟨rfl, ⟨nd2, rfl⟩⟩; simp only [errW_some]))
  go_ret2
  exact ⟨rfl, pw_below_drewN (below_alloc (Below.refl w.heap.size w) _) _⟩

set_option maxHeartbeats 4000000 in
set_option maxRecDepth 100000 in
/-- dims.value, the name's number being found. -/
theorem value_ok (p1 p2 : Addr) (l1 : List ByteArray) (l2 : List Int) (nm : ByteArray) (n v s r1 : Int) (r2 : Option Int) (w : World) (hc : Caps w p1 p2 l1 l2)
    (h : Aside0 (dfound nm l1 l2 = some (v, none))) (hn : Aside0 (dims_within.f n 0 65535 = some (n, none))) (hs : Aside0 (dims_within.f (wrap64 (n + v)) 0 65535 = some (r1, r2))) :
    Calls Tryd.prog 20 #[.agg #[.string nm, .int .i64 n], .func (.func 24) #[] #[.pointer (some p1), .pointer (some p2)]] w fun e w' => e = .returned (.tuple #[.int .i64 r1, errW r2]) ∧ Below w.heap.size w w' := by
  have hu := Tryd.underlying31
  have hu2 := Tryd.underlying49
  have hb := below_alloc (Below.refl w.heap.size w) (.cells #[.string nm, .int .i64 n] 23)
  have hc1 := Aside0.mk (hc.below hb)
  clear hc hb
  go_enter Tryd.func20, Tryd.ntmps20
  go_wp2_with (first | (go_at_call 24; refine (found_caps p1 p2 l1 l2 nm v none _ hc1.out h).mono ?_; rintro e w' ⟨rfl, ⟨nd, rfl⟩⟩; simp only [errW_none]) | (go_at_call 22; ((with_reducible refine (dims_within.calls n 0 65535 n none _ hn.out).mono ?_)); rintro e w' ⟨rfl, ⟨nd2, rfl⟩⟩; simp only [errW_none]) | (go_at_call 22; ((with_reducible refine (dims_within.calls _ 0 65535 r1 r2 _ hs.out).mono ?_)); rintro e w' ⟨rfl, ⟨nd3, rfl⟩⟩))
  go_ret2
  exact ⟨rfl, pw_below_drewN (below_alloc (Below.refl w.heap.size w) _) _⟩

set_option maxHeartbeats 4000000 in
set_option maxRecDepth 100000 in
theorem told_ok (n : Int) (w : World) :
    Calls Tryd.prog 19 #[.int .i64 n, .nilIface] w fun e w' => e = .returned (.tuple #[.int .i64 n, .int .i64 0]) ∧ Below w.heap.size w w' := by
  go_enter Tryd.func19, Tryd.ntmps19
  go_wp2_with (go_at_call 23; refine (as_nil _ _).mono ?_; rintro e w' ⟨rfl, rfl⟩)
  go_ret2
  exact ⟨rfl, below_alloc (Below.refl w.heap.size w) _⟩
set_option maxHeartbeats 4000000 in
set_option maxRecDepth 100000 in
theorem told_err (n c : Int) (w : World) (hG : w.cell? ⟨0, 0, none⟩ = some (.iface 72 (.agg #[.pointer (some ⟨1, 49, none⟩)]))) :
    Calls Tryd.prog 19 #[.int .i64 n, .iface 31 (.int .i64 c)] w fun e w' => e = .returned (.tuple #[.int .i64 0, .int .i64 c]) ∧ Below w.heap.size w w' := by
  have hG1 := Aside0.mk (pw_cell_below (below_alloc (Below.refl w.heap.size w) (.cells #[.int .i64 0] 31)) hG)
  have hcell : Aside0 ((w.alloc (.cells #[.int .i64 0] 31)).cell? ⟨w.heap.size, 0, none⟩ = some (.int .i64 0)) := ⟨by simp⟩
  have hfz : Aside0 ((w.alloc (.cells #[.int .i64 0] 31)).frozen? ⟨w.heap.size, 0, none⟩ = false) := ⟨by simp⟩
  clear hG
  go_enter Tryd.func19, Tryd.ntmps19
  go_wp2_with (go_at_call 23; refine (as_hit c ⟨w.heap.size, 0, none⟩ (.int .i64 0) _ hG1.out hcell.out hfz.out).mono ?_; rintro e w' ⟨rfl, rfl⟩)
  go_quiet (fail)
  go_wp2
  go_ret2
  exact ⟨rfl, pw_below_drewN (below_alloc (below_alloc (below_alloc (below_alloc (below_alloc (Below.refl w.heap.size w) _) _) _) _) _) _⟩

/-- The rules by which the walk reads old cells in a later world. -/
theorem dcell {W w1 : World} (hb : Below W.heap.size W w1) : (∀ b o, b < W.heap.size → w1.cell? ⟨b, o, none⟩ = W.cell? ⟨b, o, none⟩) ∧ (∀ b o, b < W.heap.size → w1.frozen? ⟨b, o, none⟩ = W.frozen? ⟨b, o, none⟩) :=
  ⟨fun b o h => hb.cell (p := ⟨b, o, none⟩) h, fun b o h => hb.frozen (p := ⟨b, o, none⟩) h⟩
def OfPost (l1 : List ByteArray) (l2 : List Int) (w : World) (e : Ending) (w' : World) : Prop := ∃ p1 p2 : Addr, e = .returned (.func (.func 24) #[] #[.pointer (some p1), .pointer (some p2)]) ∧ Caps w' p1 p2 l1 l2 ∧ Below w.heap.size w w'
set_option maxHeartbeats 4000000 in
set_option maxRecDepth 100000 in
theorem of_any (A1 A2 : Option Addr) (c1 c2 : Nat) (l1 : List ByteArray) (l2 : List Int) (w : World) (hr1 : Kd.C Kd.string w A1 l1.length l1) (hc1 : l1.length ≤ c1) (hr2 : Kd.C (Kd.int .i64) w A2 l2.length l2) :
    Calls Tryd.prog 21 #[.slice A1 l1.length c1, .slice A2 l2.length c2] w (OfPost l1 l2 w) := by
  have hb := below_alloc (below_alloc (Below.refl w.heap.size w) (.cells #[.slice A1 l1.length c1] 27)) (.cells #[.slice A2 l2.length c2] 28)
  have H : Aside0 (OfPost l1 l2 w (.returned (.func (.func 24) #[] #[.pointer (some ⟨w.heap.size, 0, none⟩), .pointer (some ⟨w.heap.size + 1, 0, none⟩)])) ((w.alloc (.cells #[.slice A1 l1.length c1] 27)).alloc (.cells #[.slice A2 l2.length c2] 28))) :=
    ⟨⟨_, _, rfl, ⟨A1, A2, c1, c2, by simp, by simp, Kd.C_below hr1 hb, hc1, Kd.C_below hr2 hb⟩, hb⟩⟩
  clear hb hr1 hc1 hr2
  go_enter Tryd.func21, Tryd.ntmps21
  go_wp2
  go_ret
  exact H.out

/-- A post that the walk's simp doesn't open. -/
def Ret (v : Value) (w : World) (e : Ending) (w' : World) : Prop := e = .returned v ∧ Below w.heap.size w w'
theorem Ret.of {v : Value} {w : World} {e : Ending} {w' : World} (h : e = .returned v ∧ Below w.heap.size w w') : Ret v w e w' := h
set_option maxHeartbeats 4000000 in
set_option maxRecDepth 100000 in
theorem Value_any (a0_0 : ByteArray) (a0_1 : Int) (A1 : Option Addr) (c1 : Nat) (l1 : List ByteArray) (A2 : Option Addr) (c2 : Nat) (l2 : List Int) (v : Int) (ev : Value) (r1 r2 : Int) (w : World)
   (hr1 : Kd.C Kd.string w A1 l1.length l1) (hc1 : l1.length ≤ c1) (hr2 : Kd.C (Kd.int .i64) w A2 l2.length l2)
   (hV : ∀ (p1 p2 : Addr) (w1 : World), Below w.heap.size w w1 → Caps w1 p1 p2 l1 l2 → Calls Tryd.prog 20 #[.agg #[.string a0_0, .int .i64 a0_1], .func (.func 24) #[] #[.pointer (some p1), .pointer (some p2)]] w1 (Ret (.tuple #[.int .i64 v, ev]) w1))
   (hT : ∀ (w1 : World), Below w.heap.size w w1 → Calls Tryd.prog 19 #[.int .i64 v, ev] w1 (Ret (.tuple #[.int .i64 r1, .int .i64 r2]) w1)) :
    Calls Tryd.prog 12 #[.agg #[.string a0_0, .int .i64 a0_1], .slice A1 l1.length c1, .slice A2 l2.length c2] w (Ret (.tuple #[.int .i64 r1, .int .i64 r2]) w) := by
  have hb := Aside0.mk (below_alloc (Below.refl w.heap.size w) (.cells #[.string a0_0, .int .i64 a0_1] 23))
  have hr1' := Aside0.mk hr1
  have hr2' := Aside0.mk hr2
  have hc1' := Aside0.mk hc1
  have hV' := Aside0.mk hV
  have hT' := Aside0.mk hT
  have hu := Tryd.underlying23
  clear hr1 hr2 hc1 hV hT
  go_enter Tryd.func12, Tryd.ntmps12
  go_wp2
  go_region_with (first
    | (go_at_call 21; refine (of_any A1 A2 c1 c2 l1 l2 _ ?h1 hc1'.out ?h2).mono ?_; (case h1 => exact Kd.C_below hr1'.out (by first | exact below_drew hb.out | exact hb.out)); (case h2 => exact Kd.C_below hr2'.out (by first | exact below_drew hb.out | exact hb.out)); rintro e w1 ⟨p1, p2, rfl, hcaps, hbw⟩; have q1 := (dcell hbw).1; have z1 : w.heap.size < w1.heap.size := (by have z := hbw.size; simp at z; omega); have HC := Aside0.mk hcaps; have HB := Aside0.mk (below_step (by first | exact below_drew hb.out | exact hb.out) hbw); clear hcaps hbw)
    | (go_at_call 20; refine (hV'.out p1 p2 _ ?h3 ?h4).mono ?_; (case h3 => exact HB.out); (case h4 => exact HC.out); rintro e w2 ⟨rfl, hbw⟩; have q2 := (dcell hbw).1; have z2 : w.heap.size < w2.heap.size := (by have z := hbw.size; omega); have HB2 := Aside0.mk (below_step HB.out hbw); clear hbw)
    | (go_at_call 19; refine (hT'.out _ ?h5).mono ?_; (case h5 => exact HB2.out); rintro e w3 ⟨rfl, hbw⟩; have q3 := (dcell hbw).1; have z3 : w.heap.size < w3.heap.size := (by have z := hbw.size; omega); have HB3 := Aside0.mk (below_step HB2.out hbw); clear hbw))
  all_goals (try clear q1); (try clear q2); (try clear q3); go_wp2; go_ret2; exact Ret.of ⟨rfl, HB3.out⟩

theorem within_eq (n lo hi : Int) : dims_within.f n lo hi = if n < lo ∨ n > hi then some (0, some 41) else some (n, none) := by
  unfold dims_within.f
  by_cases h : n < lo
  · rw [if_pos h, if_pos (Or.inl h)]
  · rw [if_neg h]
    by_cases h' : n > hi
    · rw [if_pos h', if_pos (Or.inr h')]
    · rw [if_neg h', if_neg (fun x => x.elim h h')]
theorem value_any (p1 p2 : Addr) (l1 : List ByteArray) (l2 : List Int) (nm : ByteArray) (n v : Int) (ec : Option Int) (w : World) (hc : Caps w p1 p2 l1 l2) (h : dvalue nm n l1 l2 = some (v, ec)) :
    Calls Tryd.prog 20 #[.agg #[.string nm, .int .i64 n], .func (.func 24) #[] #[.pointer (some p1), .pointer (some p2)]] w (Ret (.tuple #[.int .i64 v, errW ec]) w) := by
  unfold dvalue at h
  obtain ⟨⟨v0, e0⟩, h0, h⟩ := Option.bind_eq_some_iff.mp h
  cases e0 with
  | some c =>
    obtain ⟨rfl, rfl⟩ : 0 = v ∧ some c = ec := by simpa using h
    exact (value_none p1 p2 l1 l2 nm n v0 c w hc ⟨h0⟩).mono fun _ _ h => h
  | none =>
    replace h : (if n < 0 ∨ n > 65535 then some ((0 : Int), some (41 : Int)) else if wrap64 (n + v0) < 0 ∨ wrap64 (n + v0) > 65535 then some (0, some 41) else some (wrap64 (n + v0), none)) = some (v, ec) := h
    by_cases h1 : n < 0 ∨ n > 65535
    · rw [if_pos h1] at h
      obtain ⟨rfl, rfl⟩ : 0 = v ∧ some 41 = ec := by simpa using h
      exact (value_off p1 p2 l1 l2 nm n v0 w hc ⟨h0⟩ ⟨by rw [within_eq, if_pos h1]⟩).mono fun _ _ h => h
    · rw [if_neg h1] at h
      refine (value_ok p1 p2 l1 l2 nm n v0 0 v ec w hc ⟨h0⟩ ⟨by rw [within_eq, if_neg h1]⟩ ⟨?_⟩).mono fun _ _ h => h
      rw [within_eq]; exact h
theorem told_any (v : Int) (ec : Option Int) (r1 r2 : Int) (w : World) (hG : w.cell? ⟨0, 0, none⟩ = some (.iface 72 (.agg #[.pointer (some ⟨1, 49, none⟩)]))) (h : dtold (v, ec) = (r1, r2)) :
    Calls Tryd.prog 19 #[.int .i64 v, errW ec] w (Ret (.tuple #[.int .i64 r1, .int .i64 r2]) w) := by
  cases ec with
  | none => obtain ⟨rfl, rfl⟩ : v = r1 ∧ 0 = r2 := by simpa [dtold] using h
            exact (told_ok v w).mono fun _ _ h => h
  | some c => obtain ⟨rfl, rfl⟩ : 0 = r1 ∧ c = r2 := by simpa [dtold] using h
              exact (told_err v c w hG).mono fun _ _ h => h
theorem dims_Value.calls (a0_0 : ByteArray) (a0_1 : Int) (A1 : Option Addr) (c1 : Nat) (l1 : List ByteArray) (A2 : Option Addr) (c2 : Nat) (l2 : List Int) (r1 r2 : Int) (w : World) (hG : w.cell? ⟨0, 0, none⟩ = some (.iface 72 (.agg #[.pointer (some ⟨1, 49, none⟩)])))
   (hr1 : Kd.C Kd.string w A1 l1.length l1) (hc1 : l1.length ≤ c1) (hr2 : Kd.C (Kd.int .i64) w A2 l2.length l2) (hc2 : l2.length ≤ c2) (h : dims_Value.f a0_0 a0_1 l1 l2 = some (r1, r2)) :
    Calls Tryd.prog 12 #[.agg #[.string a0_0, .int .i64 a0_1], .slice A1 l1.length c1, .slice A2 l2.length c2] w fun e w' => e = .returned (.tuple #[.int .i64 r1, .int .i64 r2]) ∧ Below w.heap.size w w' := by
  unfold dims_Value.f at h
  obtain ⟨⟨v, ec⟩, h0, h⟩ := Option.map_eq_some_iff.mp h
  exact (Value_any a0_0 a0_1 A1 c1 l1 A2 c2 l2 v (errW ec) r1 r2 w hr1 hc1 hr2 (fun p1 p2 w1 _ hc => value_any p1 p2 l1 l2 a0_0 a0_1 v ec w1 hc h0) (fun w1 hb => told_any v ec r1 r2 w1 (pw_cell_below hb hG) h)).mono fun _ _ h => h

end Go.Proofs.YtomlnddhfigbjaaDoor.Q
