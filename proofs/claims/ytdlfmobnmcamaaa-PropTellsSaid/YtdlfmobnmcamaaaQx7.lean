/- Written by hyb.py, a program of this session that drives the kit's printer over this seat's translation: each function as a plain Lean function, and a proof that the Go code does what it says. Lean checks it. -/
import Derived.Test.YtdlfmobnmcamaaaQx0
import Derived.Test.YtdlfmobnmcamaaaQx3
import Derived.Test.YtdlfmobnmcamaaaQx4
import Derived.Test.YtdlfmobnmcamaaaQx6
import Derived.Test.YtdlfmobnmcamaaaShelf
import Derived.Sort.OwnSortedInts
namespace Go.Proofs.Ytdlfmobnmcamaaa.Q
open Go.RowKit Go.Proofs.YtdlfmobnmcamaaaW.PrintWords Go.Proofs.YtdlfmobnmcamaaaW.PrintLast Go.Proofs.YtdlfmobnmcamaaaW.PrintMore
attribute [local go_sem] max2_int min2_int max_two min_two max_three min_three max_four min_four   -- for this text's walks alone
set_option linter.unusedVariables false
set_option linter.unusedSimpArgs false

noncomputable section
-- HAND
/-! ### prop_Resolve: function 36, by hand -/
open Go.Shelf Go.Sort
theorem contains_l0 (l : List Int) (a : Int) (hl : l.length ≤ 9223372036854775807) : ∀ (d i : Nat), l.length - i = d → i ≤ l.length → ∃ k r, slices_Index_int_int.l0 k l a (l.length : Int) (i : Int) = some r ∧ (decide (r ≥ 0)) = decide (a ∈ l.drop i)
  | 0, i, hd, hi => by
    have e : l.drop i = [] := List.drop_eq_nil_of_le (by omega)
    refine ⟨1, -1, ?_, by simp [e]⟩
    rw [slices_Index_int_int.l0, if_neg (by omega)]
  | d + 1, i, hd, hi => by
    have h : i < l.length := by omega
    have hr : YtdlfmobnmcamaaaW.PrintWords.rd l (i : Int) = l[i] := by simp [YtdlfmobnmcamaaaW.PrintWords.rd, List.getD_eq_getElem?_getD, h]
    have hw : wrap64 ((i : Int) + 1) = ((i + 1 : Nat) : Int) := by unfold wrap64; omega
    by_cases e : a = l[i]
    · refine ⟨1, (i : Int), ?_, ?_⟩
      · rw [slices_Index_int_int.l0, if_pos (by omega), if_pos (by omega), if_pos (by omega), if_pos (by rw [hr]; exact e)]
      · rw [List.drop_eq_getElem_cons h, decide_eq_true (by omega : (i : Int) ≥ 0), decide_eq_true (by rw [e]; exact List.mem_cons_self)]
    · obtain ⟨k, r, hk, hd'⟩ := contains_l0 l a hl d (i + 1) (by omega) (by omega)
      refine ⟨k + 1, r, ?_, ?_⟩
      · rw [slices_Index_int_int.l0, if_pos (by omega), if_pos (by omega), if_pos (by omega), if_neg (by rw [hr]; exact e), hw]; exact hk
      · rw [hd', List.drop_eq_getElem_cons h]
        exact decide_eq_decide.2 ⟨fun h => List.mem_cons_of_mem _ h, fun h => (List.mem_cons.1 h).resolve_left e⟩
theorem contains_calls (A0 : Option Addr) (c0 : Nat) (l0 : List Int) (a1 : Int) (r : Bool) (w : World) (hr0 : Kd.C (Kd.int .i64) w A0 l0.length l0) (hc0 : l0.length ≤ c0) (h : decide (a1 ∈ l0) = r) :
    Calls Try.prog 64 #[.slice A0 l0.length c0, .int .i64 a1] w fun e w' => e = .returned (.bool r) ∧ Drawn0 w w' := by
  obtain ⟨k, q, hk, hq⟩ := contains_l0 l0 a1 hr0.2.1 _ 0 rfl (Nat.zero_le _)
  refine slices_Contains_int_int.calls k A0 c0 l0 a1 r w hr0 hc0 ?_
  rw [slices_Contains_int_int.f, slices_Index_int_int.f]
  rw [show ((0 : Nat) : Int) = 0 from rfl] at hk
  rw [hk, Option.bind_some, hq, List.drop_zero, h]
set_option maxHeartbeats 4000000 in
set_option maxRecDepth 100000 in
theorem isx_calls (g : Addr) (x y : Int) (w : World) (hx : w.cell? g = some (.int .i64 x)) :
    Calls Try.prog 67 #[.int .i64 y, .pointer (some g)] w fun e w' => e = .returned (.bool (y == x)) ∧ w' = w := by
  go_enter Try.func67, Try.ntmps67
  go_wp2
  go_ret
  exact ⟨rfl, rfl⟩
theorem delete_own (A : Option Addr) (n c base gx : Nat) (xs : List Int) (x : Int) (w : World) (hn : n = xs.length) (hpos : 0 < n) (hm : xs.length < 17592186044416) (h : w.ownsRow base 3 1 (.slice A n c) n (nums .i64 xs))
    (hg : w.heap[gx]? = some (.cells #[.int .i64 x] 3 (0, 0))) (hne : some gx ≠ (Value.slice A n c).ownBlock) :
    Calls Try.prog 66 #[.slice A n c, .func (.func 67) #[] #[.pointer (some ⟨gx, 0, none⟩)]] w fun e w' => e = .returned (.slice A (xs.filter fun y => !(y == x)).length c) ∧ w'.ownsRow base 3 1 (.slice A (xs.filter fun y => !(y == x)).length c) (xs.filter fun y => !(y == x)).length (nums .i64 (xs.filter fun y => !(y == x))) ∧ ∀ (B : Nat) (w0 : World), B ≤ base → Below B w0 w → Below B w0 w' := by
  subst hn
  rcases h.2 with ⟨_, e⟩ | ⟨g, cap, cur, hv, hbase, hb, h1, h2, h3, h4⟩
  · exact absurd e (by omega)
  · cases hv
    have hgne : gx ≠ g := fun e => hne (by rw [e]; rfl)
    have hpc : ∀ (W : World) (y : Int), W.heap[gx]? = some (.cells #[.int .i64 x] 3 (0, 0)) → Calls Try.prog 67 (#[.int .i64 y] ++ #[.pointer (some ⟨gx, 0, none⟩)]) W fun e w' => e = .returned (.bool (y == x)) ∧ ∃ q, w' = W.drewN q := fun W y hW =>
      (isx_calls ⟨gx, 0, none⟩ x y W (by rw [blk_cell hW]; rfl)).mono fun _ _ ⟨he, hw⟩ => ⟨he, 0, by rw [hw]; rfl⟩
    refine (Try.slices_DeleteFunc (Value.int .i64) oneInt (fun y => y == x) 67 #[.pointer (some ⟨gx, 0, none⟩)] (enters_my Try.func67 (by kernel_rfl) rfl) 0 Try.zeroValue3 g 0 c xs.toArray w ?_ ?_ (Go.holds_of_blockI hb (by simpa [nums] using h4)) (by simp; omega) (by simpa using h1)).mono ?_
    · intro W y hW
      exact hpc W y ((hW.block gx (blk_lt hg)).trans hg)
    · intro n os dk y _
      exact hpc _ y (blk_grown hg (Go.grownBy_sortedI dk) (fun e => hgne (by cases e; rfl)))
    · rintro e w' ⟨he, n, rfl⟩
      have hle := List.length_filter_le (fun y => !(y == x)) xs
      refine ⟨by simpa using he, ?_, fun B w0 hw0 hB => ?_⟩
      · have := Go.ownsRow_sortedI (n := n) (os := #[]) (ss := xs) (ts := (xs.filter fun y => !(y == x)) ++ List.replicate (xs.length - (xs.filter fun y => !(y == x)).length) 0) (by simp; omega) hbase hb h1 h2 h3
        rw [Go.Sort.grow_empty] at this
        exact own_prefix this hle
      · have := Go.grownBy_sortedI (w := w) (g := g) (n := n) (os := #[]) ((xs.filter fun y => !(y == x)) ++ List.replicate (xs.length - (xs.filter fun y => !(y == x)).length) 0).toArray
        rw [Go.Sort.grow_empty] at this
        exact pw_below_grown hB (some g) (by have := blk_lt hb; omega) this (fun k hk => by cases hk; omega)
set_option maxHeartbeats 4000000 in
set_option maxRecDepth 100000 in
theorem rest_any (A0 : Option Addr) (c0 : Nat) (l0 : List Int) (x : Int) (w : World) (hr0 : Kd.C (Kd.int .i64) w A0 l0.length l0) (hm : l0.length < 17592186044416) (hpos : 0 < l0.length) :
    Calls Try.prog 65 #[.slice A0 l0.length c0, .int .i64 x] w fun e w' => ∃ v', e = .returned v' ∧ w'.ownsRow w.heap.size 3 1 v' (l0.filter fun y => !(y == x)).length (nums .i64 (l0.filter fun y => !(y == x))) ∧ Below w.heap.size w w' := by
  have HM := Aside0.mk hm
  have HP := Aside0.mk hpos
  have HB := Aside0.mk (below_alloc (Below.refl w.heap.size w) (.cells #[.int .i64 x] 3))
  have HZ : Aside0 ((w.alloc (.cells #[.int .i64 x] 3)).heap.size = w.heap.size + 1) := ⟨by simp⟩
  have HA : Aside0 ((w.alloc (.cells #[.int .i64 x] 3)).heap[w.heap.size]? = some (.cells #[.int .i64 x] 3 (0, 0))) := ⟨by unfold World.alloc; simp⟩
  have H1 := Aside0.mk (clone_own A0 c0 l0 (w.alloc (.cells #[.int .i64 x] 3)) (Kd.C_below hr0 HB.out) hm)
  clear hr0 hm hpos
  go_enter Try.func65, Try.ntmps65
  go_wp2_with fail
  refine H1.out.mono ?_
  rintro e w1 ⟨v1, rfl, ho1, hb1⟩
  obtain ⟨A, c, rfl⟩ := own_slice ho1
  have H2 := Aside0.mk (delete_own A _ c (w.alloc (.cells #[.int .i64 x] 3)).heap.size w.heap.size l0 x w1 rfl HP.out HM.out ho1 ((hb1.block w.heap.size (by rw [HZ.out]; omega)).trans HA.out) (fun e => by
    have := own_base ho1 _ e.symm
    rw [HZ.out] at this
    omega))
  have HB1 := Aside0.mk (below_then HB.out (by rw [HZ.out]; omega) hb1)
  clear ho1 hb1 H1
  go_wp2_with fail
  refine H2.out.mono ?_
  rintro e w2 ⟨rfl, ho2, hb2⟩
  have HO : Aside0 (w2.ownsRow w.heap.size 3 1 (.slice A (l0.filter fun y => !(y == x)).length c) (l0.filter fun y => !(y == x)).length (nums .i64 (l0.filter fun y => !(y == x)))) := ⟨own_less ho2 (by rw [HZ.out]; omega)⟩
  have HB2 := Aside0.mk (hb2 w.heap.size w (by rw [HZ.out]; omega) HB1.out)
  clear ho2 hb2 H2
  go_wp2_with fail
  go_ret
  exact ⟨_, rfl, HO.out, HB2.out⟩
/-- What two clauses are resolved to, ahead of the order. -/
def resRow (a b : List Int) (v : Int) : List Int := (a.filter fun y => !(y == v)) ++ (b.filter fun y => !(y == wrap64 (-v)))
def resOf (a b : List Int) (v : Int) : List Int × Bool := if 1 ≤ v ∧ v ∈ a ∧ wrap64 (-v) ∈ b then normOf (resRow a b v) else ([], false)
def prop_Resolve.f (a b : List Int) (v : Int) : Option (List Int × Bool) := if a.length + b.length < 17592186044416 then some (resOf a b v) else none
set_option maxHeartbeats 4000000 in
set_option maxRecDepth 100000 in
theorem res_any (A0 : Option Addr) (c0 : Nat) (l0 : List Int) (A1 : Option Addr) (c1 : Nat) (l1 : List Int) (x : Int) (w : World) (hr0 : Kd.C (Kd.int .i64) w A0 l0.length l0) (hc0 : l0.length ≤ c0) (hr1 : Kd.C (Kd.int .i64) w A1 l1.length l1) (hc1 : l1.length ≤ c1) (hm : l0.length + l1.length < 17592186044416) :
    Calls Try.prog 36 #[.slice A0 l0.length c0, .slice A1 l1.length c1, .int .i64 x] w fun e w' => ∃ v0_, e = .returned (.tuple #[v0_, .bool (resOf l0 l1 x).2]) ∧ w'.ownsRow w.heap.size 3 1 v0_ (resOf l0 l1 x).1.length (nums .i64 (resOf l0 l1 x).1) ∧ Below w.heap.size w w' := by
  have HM := Aside0.mk hm
  have HR0 := Aside0.mk hr0
  have HR1 := Aside0.mk hr1
  have HC0 := Aside0.mk hc0
  have HC1 := Aside0.mk hc1
  obtain ⟨r, hr⟩ : ∃ r, resOf l0 l1 x = r := ⟨_, rfl⟩
  rw [hr]
  have HR := Aside0.mk hr
  clear hr0 hm hr hr1 hc0 hc1
  by_cases h1 : x < 1
  · have HE : Aside0 (r = ([], false)) := ⟨by rw [← HR.out, resOf, if_neg (by omega)]⟩
    go_enter Try.func36, Try.ntmps36
    go_wp2_with fail
    go_ret2
    exact ⟨_, by rw [HE.out]; rfl, by rw [HE.out]; exact own_nil _ _ _ _, by first | exact pw_below_drewN (Below.refl _ _) _ | exact Below.refl _ _⟩
  · by_cases h2 : x ∈ l0
    · have K0 : Aside0 (∀ W, Below w.heap.size w W → Calls Try.prog 64 #[.slice A0 l0.length c0, .int .i64 x] W fun e w' => e = .returned (.bool true) ∧ Drawn0 W w') := ⟨fun W hW => contains_calls A0 c0 l0 x true W (Kd.C_below HR0.out hW) HC0.out (by simpa using h2)⟩
      by_cases h3 : wrap64 (-x) ∈ l1
      · have K1 : Aside0 (∀ W, Below w.heap.size w W → Calls Try.prog 64 #[.slice A1 l1.length c1, .int .i64 (wrap64 (-x))] W fun e w' => e = .returned (.bool true) ∧ Drawn0 W w') := ⟨fun W hW => contains_calls A1 c1 l1 _ true W (Kd.C_below HR1.out hW) HC1.out (by simpa using h3)⟩
        have HE : Aside0 (normOf (resRow l0 l1 x) = r) := ⟨by rw [← HR.out, resOf, if_pos ⟨by omega, h2, h3⟩]⟩
        have P0 : Aside0 (0 < l0.length) := ⟨List.length_pos_of_mem h2⟩
        have P1 : Aside0 (0 < l1.length) := ⟨List.length_pos_of_mem h3⟩
        clear h2 h3 HR
        go_enter Try.func36, Try.ntmps36
        go_wp2_with (first | (refine (K0.out _ (by first | exact pw_below_drewN (Below.refl _ _) _ | exact Below.refl _ _)).mono ?_; rintro e w' ⟨rfl, ⟨nd, rfl⟩⟩) | (refine (K1.out _ (by first | exact pw_below_drewN (Below.refl _ _) _ | exact Below.refl _ _)).mono ?_; rintro e w' ⟨rfl, ⟨nd2, rfl⟩⟩))
        refine (rest_any A0 c0 l0 x _ (Kd.C_below HR0.out (by first | exact pw_below_drewN (Below.refl _ _) _ | exact Below.refl _ _)) (by have := HM.out; omega) P0.out).mono ?_
        rintro e w1 ⟨v1, rfl, ho1, hb1⟩
        obtain ⟨A2, c2, rfl⟩ := own_slice ho1
        have HO1 : Aside0 (w1.ownsRow w.heap.size 3 1 (.slice A2 (l0.filter fun y => !(y == x)).length c2) (l0.filter fun y => !(y == x)).length (nums .i64 (l0.filter fun y => !(y == x)))) := ⟨ho1⟩
        have HB1 : Aside0 (Below w.heap.size w w1) := ⟨below_then (pw_below_drewN (Below.refl _ _) _) (Nat.le_refl _) hb1⟩
        clear ho1 hb1
        go_wp2_with fail
        refine (rest_any A1 c1 l1 (wrap64 (-x)) w1 (Kd.C_below HR1.out HB1.out) (by have := HM.out; omega) P1.out).mono ?_
        rintro e w2 ⟨v2, rfl, ho2, hb2⟩
        obtain ⟨A3, c3, rfl⟩ := own_slice ho2
        have HO2 := Aside0.mk ho2
        have HO3 := Aside0.mk (pw_own_below HO1.out hb2)
        have HB2 := Aside0.mk (below_then HB1.out HB1.out.size hb2)
        clear ho2 hb2
        obtain ⟨ys, hys⟩ : ∃ ys, (l0.filter fun y => !(y == x)) = ys := ⟨_, rfl⟩
        obtain ⟨zs, hzs⟩ : ∃ zs, (l1.filter fun y => !(y == wrap64 (-x))) = zs := ⟨_, rfl⟩
        have HE2 : Aside0 (normOf (ys ++ zs) = r) := ⟨by rw [← HE.out, resRow, hys, hzs]⟩
        have HL : Aside0 (ys.length + zs.length < 17592186044416) := ⟨by
          rw [← hys, ← hzs]
          have := List.length_filter_le (fun y => !(y == x)) l0
          have := List.length_filter_le (fun y => !(y == wrap64 (-x))) l1
          have := HM.out
          omega⟩
        rw [hys] at HO3
        rw [hzs] at HO2
        simp only [hys, hzs]
        obtain ⟨qs, hqs⟩ : ∃ qs, ys ++ zs = qs := ⟨_, rfl⟩
        have HQ := Aside0.mk hqs
        have HLQ : Aside0 (qs.length < 17592186044416) := ⟨by rw [← hqs, List.length_append]; exact HL.out⟩
        rw [hqs] at HE2
        clear hys hzs HE HO1 hqs
        go_wp2_with ((with_reducible refine gate_builtin (b := .append) (xs := #[.tmp 27, .tmp 32]) rfl ?_); at_builtin; refine print_append_row (w0 := w) w.heap.size rfl (.tmp 27) (.tmp 32) 23 3 .i64 8 rfl Try.underlying23 info3 (by decide) (.slice A2 ys.length c2) ys zs A3 zs.length c3 rfl rfl HO3.out (own_reads' HO2.out) HB2.out HB2.out.size (by have := HL.out; omega) ?_; intro v3 w3 ho hb hg hat; rw [HQ.out] at ho; obtain ⟨A4, c4, e4⟩ := own_slice ho; subst e4; have H4 := Aside0.mk (norm_any A4 c4 qs w3 (Kd.C_of_reads (d := 0) (own_reads_of' (d := 0) ho)) HLQ.out); have HB3 := Aside0.mk hb; clear ho hb hg hat)
        rw [HE2.out] at H4
        refine H4.out.mono ?_
        rintro e w4 ⟨v5, rfl, ho5, hb5⟩
        have HO5 := Aside0.mk (own_less ho5 HB3.out.size)
        have HB5 := Aside0.mk (below_then HB3.out HB3.out.size hb5)
        clear ho5 hb5
        go_wp2_with fail
        go_ret2
        exact ⟨_, rfl, HO5.out, HB5.out⟩
      · have K1 : Aside0 (∀ W, Below w.heap.size w W → Calls Try.prog 64 #[.slice A1 l1.length c1, .int .i64 (wrap64 (-x))] W fun e w' => e = .returned (.bool false) ∧ Drawn0 W w') := ⟨fun W hW => contains_calls A1 c1 l1 _ false W (Kd.C_below HR1.out hW) HC1.out (by simpa using h3)⟩
        have HE : Aside0 (r = ([], false)) := ⟨by rw [← HR.out, resOf, if_neg (fun h => h3 h.2.2)]⟩
        clear h2 h3 HR
        go_enter Try.func36, Try.ntmps36
        go_wp2_with (first | (refine (K0.out _ (by first | exact pw_below_drewN (Below.refl _ _) _ | exact Below.refl _ _)).mono ?_; rintro e w' ⟨rfl, ⟨nd, rfl⟩⟩) | (refine (K1.out _ (by first | exact pw_below_drewN (Below.refl _ _) _ | exact Below.refl _ _)).mono ?_; rintro e w' ⟨rfl, ⟨nd2, rfl⟩⟩))
        go_ret2
        exact ⟨_, by rw [HE.out]; rfl, by rw [HE.out]; exact own_nil _ _ _ _, by repeat (first | exact Below.refl _ _ | apply pw_below_drewN)⟩
    · have K0 : Aside0 (∀ W, Below w.heap.size w W → Calls Try.prog 64 #[.slice A0 l0.length c0, .int .i64 x] W fun e w' => e = .returned (.bool false) ∧ Drawn0 W w') := ⟨fun W hW => contains_calls A0 c0 l0 x false W (Kd.C_below HR0.out hW) HC0.out (by simpa using h2)⟩
      have HE : Aside0 (r = ([], false)) := ⟨by rw [← HR.out, resOf, if_neg (fun h => h2 h.2.1)]⟩
      clear h2 HR
      go_enter Try.func36, Try.ntmps36
      go_wp2_with (refine (K0.out _ (by first | exact pw_below_drewN (Below.refl _ _) _ | exact Below.refl _ _)).mono ?_; rintro e w' ⟨rfl, ⟨nd, rfl⟩⟩)
      go_ret2
      exact ⟨_, by rw [HE.out]; rfl, by rw [HE.out]; exact own_nil _ _ _ _, by repeat (first | exact Below.refl _ _ | apply pw_below_drewN)⟩
theorem prop_Resolve.calls (A0 : Option Addr) (c0 : Nat) (l0 : List Int) (A1 : Option Addr) (c1 : Nat) (l1 : List Int) (a2 : Int) (r1 : List Int) (r2 : Bool) (w : World) (hr0 : Kd.C (Kd.int .i64) w A0 l0.length l0) (hc0 : l0.length ≤ c0) (hr1 : Kd.C (Kd.int .i64) w A1 l1.length l1) (hc1 : l1.length ≤ c1) (h : prop_Resolve.f l0 l1 a2 = some (r1, r2)) :
    Calls Try.prog 36 #[.slice A0 l0.length c0, .slice A1 l1.length c1, .int .i64 a2] w fun e w' => ∃ v0_, e = .returned (.tuple #[v0_, .bool r2]) ∧ Kd.R (Kd.int .i64) 3 w' w.heap.size (fun _ => True) v0_ r1 ∧ Below w.heap.size w w' := by
  unfold prop_Resolve.f at h
  split at h
  · rename_i hm
    have e := Option.some.inj h
    refine (res_any A0 c0 l0 A1 c1 l1 a2 w hr0 hc0 hr1 hc1 hm).mono ?_
    rintro e' w' ⟨v, he, ho, hb⟩
    rw [e] at he ho
    exact ⟨v, he, Kd.R_of_own ho (fun _ _ => trivial), hb⟩
  · cases h

end
end Go.Proofs.Ytdlfmobnmcamaaa.Q
