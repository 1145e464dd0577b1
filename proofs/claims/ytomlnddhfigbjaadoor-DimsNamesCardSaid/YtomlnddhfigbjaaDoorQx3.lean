/- Written by hyb.py, a program of this session that drives the kit's printer over this seat's translation: each function as a plain Lean function, and a proof that the Go code does what it says. Lean checks it. -/
import Derived.Test.YtomlnddhfigbjaaDoorQx0
import Derived.Test.YtomlnddhfigbjaaDoorQx1
import Derived.Test.YtomlnddhfigbjaaDoorQx2
import Derived.Test.YtomlnddhfigbjaaDoorDimsAs
import Derived.Deep.RegionWith
namespace Go.Proofs.YtomlnddhfigbjaaDoor.Q
open Go.RowKit Go.Proofs.YtomlnddhfigbjaaDoorW.PrintWords Go.Proofs.YtomlnddhfigbjaaDoorW.PrintLast Go.Proofs.YtomlnddhfigbjaaDoorW.PrintMore
attribute [local go_sem] max2_int min2_int max_two min_two max_three min_three max_four min_four   -- for this text's walks alone
set_option linter.unusedVariables false
set_option linter.unusedSimpArgs false

-- HAND
/-! ### dims_Width: function 14, by hand -/
open Go.Proofs.YtomlnddhfigbjaaDoor.As
/-- What is told of a width: its number, or what is wrong. -/
def dwidth (r : Int × Option Int) : Int × Int := match r.2 with
  | some c => (0, c)
  | none => if r.1 < 1 ∨ r.1 > 16 then (0, 41) else (r.1, 0)
def dims_Width.f (a0_0 : ByteArray) (a0_1 : Int) (l1 : List ByteArray) (l2 : List Int) : Option (Int × Int) := (dvalue a0_0 a0_1 l1 l2).map dwidth
set_option maxHeartbeats 4000000 in
set_option maxRecDepth 100000 in
theorem Width_err (a0_0 : ByteArray) (a0_1 : Int) (A1 : Option Addr) (c1 : Nat) (l1 : List ByteArray) (A2 : Option Addr) (c2 : Nat) (l2 : List Int) (v c r1 r2 : Int) (w : World)
   (hr1 : Kd.C Kd.string w A1 l1.length l1) (hc1 : l1.length ≤ c1) (hr2 : Kd.C (Kd.int .i64) w A2 l2.length l2)
   (hV : ∀ (p1 p2 : Addr) (w1 : World), Below w.heap.size w w1 → Caps w1 p1 p2 l1 l2 → Calls Tryd.prog 20 #[.agg #[.string a0_0, .int .i64 a0_1], .func (.func 24) #[] #[.pointer (some p1), .pointer (some p2)]] w1 (Ret (.tuple #[.int .i64 v, .iface 31 (.int .i64 c)]) w1))
   (hT : ∀ (w1 : World), Below w.heap.size w w1 → Calls Tryd.prog 19 #[.int .i64 v, .iface 31 (.int .i64 c)] w1 (Ret (.tuple #[.int .i64 r1, .int .i64 r2]) w1)) :
    Calls Tryd.prog 14 #[.agg #[.string a0_0, .int .i64 a0_1], .slice A1 l1.length c1, .slice A2 l2.length c2] w (Ret (.tuple #[.int .i64 r1, .int .i64 r2]) w) := by
  have hb := Aside0.mk (below_alloc (Below.refl w.heap.size w) (.cells #[.string a0_0, .int .i64 a0_1] 23))
  have hr1' := Aside0.mk hr1
  have hr2' := Aside0.mk hr2
  have hc1' := Aside0.mk hc1
  have hV' := Aside0.mk hV
  have hT' := Aside0.mk hT
  have hu := Tryd.underlying23
  have hu2 := Tryd.underlying31
  have hu3 := Tryd.underlying49
  clear hr1 hr2 hc1 hV hT
  go_enter Tryd.func14, Tryd.ntmps14
  go_wp2
  go_region_with (first
    | (go_at_call 21; refine (of_any A1 A2 c1 c2 l1 l2 _ ?h1 hc1'.out ?h2).mono ?_; (case h1 => exact Kd.C_below hr1'.out (by first | exact below_drew hb.out | exact hb.out)); (case h2 => exact Kd.C_below hr2'.out (by first | exact below_drew hb.out | exact hb.out)); rintro e w1 ⟨p1, p2, rfl, hcaps, hbw⟩; have q1 := (dcell hbw).1; have z1 : w.heap.size < w1.heap.size := (by have z := hbw.size; simp at z; omega); have HC := Aside0.mk hcaps; have HB := Aside0.mk (below_step (by first | exact below_drew hb.out | exact hb.out) hbw); clear hcaps hbw)
    | (go_at_call 20; refine (hV'.out p1 p2 _ ?h3 ?h4).mono ?_; (case h3 => exact HB.out); (case h4 => exact HC.out); rintro e w2 ⟨rfl, hbw⟩; have q2 := (dcell hbw).1; have z2 : w.heap.size < w2.heap.size := (by have z := hbw.size; omega); have HB2 := Aside0.mk (below_step HB.out hbw); clear hbw))
  all_goals
    (try clear q1); (try clear q2)
    go_wp2_with (go_at_call 19; refine (hT'.out _ ?h5).mono ?_; (case h5 => exact HB2.out); rintro e w3 ⟨rfl, hbw⟩; have HB3 := Aside0.mk (below_step HB2.out hbw); clear hbw)
    go_ret2
    exact Ret.of ⟨rfl, HB3.out⟩
set_option maxHeartbeats 4000000 in
set_option maxRecDepth 100000 in
theorem Width_ok (a0_0 : ByteArray) (a0_1 : Int) (A1 : Option Addr) (c1 : Nat) (l1 : List ByteArray) (A2 : Option Addr) (c2 : Nat) (l2 : List Int) (v v1 r1 r2 : Int) (ec : Option Int) (w : World)
   (hr1 : Kd.C Kd.string w A1 l1.length l1) (hc1 : l1.length ≤ c1) (hr2 : Kd.C (Kd.int .i64) w A2 l2.length l2)
   (hV : ∀ (p1 p2 : Addr) (w1 : World), Below w.heap.size w w1 → Caps w1 p1 p2 l1 l2 → Calls Tryd.prog 20 #[.agg #[.string a0_0, .int .i64 a0_1], .func (.func 24) #[] #[.pointer (some p1), .pointer (some p2)]] w1 (Ret (.tuple #[.int .i64 v, .nilIface]) w1))
   (hW : dims_within.f v 1 16 = some (v1, ec)) (hT : ∀ (w1 : World), Below w.heap.size w w1 → Calls Tryd.prog 19 #[.int .i64 v1, errW ec] w1 (Ret (.tuple #[.int .i64 r1, .int .i64 r2]) w1)) :
    Calls Tryd.prog 14 #[.agg #[.string a0_0, .int .i64 a0_1], .slice A1 l1.length c1, .slice A2 l2.length c2] w (Ret (.tuple #[.int .i64 r1, .int .i64 r2]) w) := by
  have hb := Aside0.mk (below_alloc (Below.refl w.heap.size w) (.cells #[.string a0_0, .int .i64 a0_1] 23))
  have hr1' := Aside0.mk hr1
  have hr2' := Aside0.mk hr2
  have hc1' := Aside0.mk hc1
  have hV' := Aside0.mk hV
  have hT' := Aside0.mk hT
  have hW' := Aside0.mk hW
  have hu := Tryd.underlying23
  have hu2 := Tryd.underlying31
  have hu3 := Tryd.underlying49
  clear hr1 hr2 hc1 hV hT hW
  go_enter Tryd.func14, Tryd.ntmps14
  go_wp2
  go_region_with (first
    | (go_at_call 21; refine (of_any A1 A2 c1 c2 l1 l2 _ ?h1 hc1'.out ?h2).mono ?_; (case h1 => exact Kd.C_below hr1'.out (by first | exact below_drew hb.out | exact hb.out)); (case h2 => exact Kd.C_below hr2'.out (by first | exact below_drew hb.out | exact hb.out)); rintro e w1 ⟨p1, p2, rfl, hcaps, hbw⟩; have q1 := (dcell hbw).1; have z1 : w.heap.size < w1.heap.size := (by have z := hbw.size; simp at z; omega); have HC := Aside0.mk hcaps; have HB := Aside0.mk (below_step (by first | exact below_drew hb.out | exact hb.out) hbw); clear hcaps hbw)
    | (go_at_call 20; refine (hV'.out p1 p2 _ ?h3 ?h4).mono ?_; (case h3 => exact HB.out); (case h4 => exact HC.out); rintro e w2 ⟨rfl, hbw⟩; have q2 := (dcell hbw).1; have z2 : w.heap.size < w2.heap.size := (by have z := hbw.size; omega); have HB2 := Aside0.mk (below_step HB.out hbw); clear hbw))
  all_goals
    (try clear q1); (try clear q2)
    go_wp2_with (first | (go_at_call 22; refine (dims_within.calls v 1 16 v1 ec _ hW'.out).mono ?_; rintro e w' ⟨rfl, ⟨nd, rfl⟩⟩) | (go_at_call 19; refine (hT'.out _ ?h5).mono ?_; (case h5 => exact pw_below_drewN HB2.out nd); rintro e w3 ⟨rfl, hbw⟩; have HB3 := Aside0.mk (below_step (pw_below_drewN HB2.out nd) hbw); clear hbw))
    go_ret2
    exact Ret.of ⟨rfl, HB3.out⟩
theorem dims_Width.calls (a0_0 : ByteArray) (a0_1 : Int) (A1 : Option Addr) (c1 : Nat) (l1 : List ByteArray) (A2 : Option Addr) (c2 : Nat) (l2 : List Int) (r1 r2 : Int) (w : World) (hG : w.cell? ⟨0, 0, none⟩ = some (.iface 72 (.agg #[.pointer (some ⟨1, 49, none⟩)])))
   (hr1 : Kd.C Kd.string w A1 l1.length l1) (hc1 : l1.length ≤ c1) (hr2 : Kd.C (Kd.int .i64) w A2 l2.length l2) (hc2 : l2.length ≤ c2) (h : dims_Width.f a0_0 a0_1 l1 l2 = some (r1, r2)) :
    Calls Tryd.prog 14 #[.agg #[.string a0_0, .int .i64 a0_1], .slice A1 l1.length c1, .slice A2 l2.length c2] w fun e w' => e = .returned (.tuple #[.int .i64 r1, .int .i64 r2]) ∧ Below w.heap.size w w' := by
  unfold dims_Width.f at h
  obtain ⟨⟨v, ec⟩, h0, h⟩ := Option.map_eq_some_iff.mp h
  cases ec with
  | some c =>
    exact (Width_err a0_0 a0_1 A1 c1 l1 A2 c2 l2 v c r1 r2 w hr1 hc1 hr2 (fun p1 p2 w1 _ hc => value_any p1 p2 l1 l2 a0_0 a0_1 v (some c) w1 hc h0) (fun w1 hb => told_any v (some c) r1 r2 w1 (pw_cell_below hb hG) (by simpa [dwidth, dtold] using h))).mono fun _ _ h => h
  | none =>
    by_cases hv : v < 1 ∨ v > 16
    · exact (Width_ok a0_0 a0_1 A1 c1 l1 A2 c2 l2 v 0 r1 r2 (some 41) w hr1 hc1 hr2 (fun p1 p2 w1 _ hc => value_any p1 p2 l1 l2 a0_0 a0_1 v none w1 hc h0) (by rw [within_eq, if_pos hv]) (fun w1 hb => told_any 0 (some 41) r1 r2 w1 (pw_cell_below hb hG) (by simpa [dwidth, dtold, hv] using h))).mono fun _ _ h => h
    · exact (Width_ok a0_0 a0_1 A1 c1 l1 A2 c2 l2 v v r1 r2 none w hr1 hc1 hr2 (fun p1 p2 w1 _ hc => value_any p1 p2 l1 l2 a0_0 a0_1 v none w1 hc h0) (by rw [within_eq, if_neg hv]) (fun w1 hb => told_any v none r1 r2 w1 (pw_cell_below hb hG) (by simpa [dwidth, dtold, hv] using h))).mono fun _ _ h => h

end Go.Proofs.YtomlnddhfigbjaaDoor.Q
