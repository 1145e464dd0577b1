/- Written by hyb.py, a program of this session that drives the kit's printer over this seat's translation: each function as a plain Lean function, and a proof that the Go code does what it says. Lean checks it. -/
import Derived.Test.YtdlfmobnmcamaaaQx0
import Derived.Test.YtdlfmobnmcamaaaQx3
import Derived.Test.YtdlfmobnmcamaaaShelf
import Derived.Sort.OwnSortedInts
namespace Go.Proofs.Ytdlfmobnmcamaaa.Q
open Go.RowKit Go.Proofs.YtdlfmobnmcamaaaW.PrintWords Go.Proofs.YtdlfmobnmcamaaaW.PrintLast Go.Proofs.YtdlfmobnmcamaaaW.PrintMore
attribute [local go_sem] max2_int min2_int max_two min_two max_three min_three max_four min_four   -- for this text's walks alone
set_option linter.unusedVariables false
set_option linter.unusedSimpArgs false

noncomputable section
-- HAND
/-! ### prop_Norm: function 34, by hand -/
open Go.Shelf Go.Sort
/-- How two literals stand: by variable, then by sign. -/
def litCmp (x y : Int) : Int := if Lib.compareInt (pvar x) (pvar y) = 0 then Lib.compareInt x y else Lib.compareInt (pvar x) (pvar y)
set_option maxHeartbeats 4000000 in
set_option maxRecDepth 100000 in
theorem or_first (b cap : Nat) (c1 c2 : Int) (w : World) (h0 : w.cell? ⟨b, 0, none⟩ = some (.int .i64 c1)) (h1 : w.cell? ⟨b, 1, none⟩ = some (.int .i64 c2)) (e1 : (c1 == 0) = false) (e2 : (c1 != 0) = true) :
    Calls Try.prog 60 #[.slice (some ⟨b, 0, none⟩) 2 cap] w fun e w' => e = .returned (.int .i64 c1) ∧ w' = w := by
  go_enter Try.func60, Try.ntmps60
  go_wp2
  refine wp_loop_rounds 1 ?_
  rw [rounds_succ]
  go_wp2
  go_ret
  exact ⟨rfl, rfl⟩
set_option maxHeartbeats 4000000 in
set_option maxRecDepth 100000 in
theorem or_second (b cap : Nat) (c2 : Int) (w : World) (h0 : w.cell? ⟨b, 0, none⟩ = some (.int .i64 0)) (h1 : w.cell? ⟨b, 1, none⟩ = some (.int .i64 c2)) (e1 : (c2 == 0) = false) (e2 : (c2 != 0) = true) :
    Calls Try.prog 60 #[.slice (some ⟨b, 0, none⟩) 2 cap] w fun e w' => e = .returned (.int .i64 c2) ∧ w' = w := by
  go_enter Try.func60, Try.ntmps60
  go_wp2
  refine wp_loop_rounds 2 ?_
  rw [rounds_succ]
  go_wp2
  rw [rounds_succ]
  go_wp2
  go_ret
  exact ⟨rfl, rfl⟩
set_option maxHeartbeats 4000000 in
set_option maxRecDepth 100000 in
theorem or_none (b cap : Nat) (w : World) (h0 : w.cell? ⟨b, 0, none⟩ = some (.int .i64 0)) (h1 : w.cell? ⟨b, 1, none⟩ = some (.int .i64 0)) :
    Calls Try.prog 60 #[.slice (some ⟨b, 0, none⟩) 2 cap] w fun e w' => e = .returned (.int .i64 0) ∧ w' = w := by
  go_enter Try.func60, Try.ntmps60
  go_wp2
  refine wp_loop_rounds 3 ?_
  rw [rounds_succ]
  go_wp2
  rw [rounds_succ]
  go_wp2
  rw [rounds_succ]
  go_wp2
  go_ret
  exact ⟨rfl, rfl⟩
theorem or_any (b cap : Nat) (c1 c2 : Int) (w : World) (h0 : w.cell? ⟨b, 0, none⟩ = some (.int .i64 c1)) (h1 : w.cell? ⟨b, 1, none⟩ = some (.int .i64 c2)) :
    Calls Try.prog 60 #[.slice (some ⟨b, 0, none⟩) 2 cap] w fun e w' => e = .returned (.int .i64 (if c1 = 0 then c2 else c1)) ∧ w' = w := by
  by_cases e1 : c1 = 0
  · subst e1
    rw [if_pos rfl]
    by_cases e2 : c2 = 0
    · subst e2; exact or_none b cap w h0 h1
    · exact or_second b cap c2 w h0 h1 (by simpa using e2) (by simpa using e2)
  · rw [if_neg e1]
    exact or_first b cap c1 c2 w h0 h1 (by simpa using e1) (by simpa using e1)
set_option maxHeartbeats 4000000 in
set_option maxRecDepth 100000 in
theorem norm1_core (x y v u c1 c2 r : Int) (w : World) (hv : Aside0 (∀ W, Calls Try.prog 53 #[.int .i64 x] W fun e w' => e = .returned (.int .i64 v) ∧ w' = W)) (hu : Aside0 (∀ W, Calls Try.prog 53 #[.int .i64 y] W fun e w' => e = .returned (.int .i64 u) ∧ w' = W))
    (h1 : Aside0 (∀ W, Calls Try.prog 61 #[.int .i64 v, .int .i64 u] W fun e w' => e = .returned (.int .i64 c1) ∧ w' = W)) (h2 : Aside0 (∀ W, Calls Try.prog 61 #[.int .i64 x, .int .i64 y] W fun e w' => e = .returned (.int .i64 c2) ∧ w' = W))
    (ho : Aside0 (Calls Try.prog 60 #[.slice (some ⟨w.heap.size, 0, none⟩) 2 2] (w.alloc (.cells #[.int .i64 c1, .int .i64 c2] 3)) fun e w' => e = .returned (.int .i64 r) ∧ w' = (w.alloc (.cells #[.int .i64 c1, .int .i64 c2] 3)))) :
    Calls Try.prog 59 #[.int .i64 x, .int .i64 y] w fun e w' => e = .returned (.int .i64 r) ∧ w' = (w.alloc (.cells #[.int .i64 c1, .int .i64 c2] 3)) := by
  go_enter Try.func59, Try.ntmps59
  go_wp2_with fail
  refine (hv.out _).mono ?_
  rintro e w' ⟨rfl, rfl⟩
  go_wp2_with fail
  refine (hu.out _).mono ?_
  rintro e w' ⟨rfl, rfl⟩
  go_wp2_with fail
  refine (h1.out _).mono ?_
  rintro e w' ⟨rfl, rfl⟩
  go_wp2_with fail
  refine (h2.out _).mono ?_
  rintro e w' ⟨rfl, rfl⟩
  go_wp2_with fail
  refine ho.out.mono ?_
  rintro e w' ⟨rfl, rfl⟩
  go_wp2_with fail
  go_ret
  exact ⟨rfl, rfl⟩
theorem norm1_any (x y : Int) (w : World) : Calls Try.prog 59 #[.int .i64 x, .int .i64 y] w fun e w' => e = .returned (.int .i64 (litCmp x y)) ∧ ∃ q os, w' = Go.Sort.grow (w.drewN q) os :=
  (norm1_core x y (pvar x) (pvar y) (Lib.compareInt (pvar x) (pvar y)) (Lib.compareInt x y) (litCmp x y) w ⟨fun W => pvar_calls x W⟩ ⟨fun W => pvar_calls y W⟩ ⟨fun W => Try.cmp_Compare_int _ _ W⟩ ⟨fun W => Try.cmp_Compare_int _ _ W⟩
    ⟨or_any w.heap.size 2 _ _ _ (by simp) (by simp)⟩).mono fun _ _ ⟨he, hw⟩ => ⟨he, 0, #[.cells #[.int .i64 (Lib.compareInt (pvar x) (pvar y)), .int .i64 (Lib.compareInt x y)] 3], by rw [hw, Go.Sort.alloc_eq_grow]; rfl⟩
theorem litLt_iff (x y : Int) : ltOf litCmp x y = true ↔ (pvar x < pvar y ∨ (pvar x = pvar y ∧ x < y)) := by
  simp only [ltOf, litCmp, Lib.compareInt, decide_eq_true_eq]
  by_cases a : pvar x < pvar y
  · simp [a]
  · by_cases b : pvar y < pvar x
    · simp [a, b, show ¬ pvar x = pvar y by omega]
    · by_cases c : x < y
      · simp [a, b, c, show pvar x = pvar y by omega]
      · by_cases d : y < x <;> simp [a, b, c, d, show pvar x = pvar y by omega]
theorem litLt_not (x y : Int) : ltOf litCmp x y = false ↔ ¬ (pvar x < pvar y ∨ (pvar x = pvar y ∧ x < y)) := by
  rw [← litLt_iff, Bool.not_eq_true]
theorem litCmp_swo : SWO (ltOf litCmp) where
  irrefl x := by rw [litLt_not]; omega
  trans x y z h k := by rw [litLt_iff] at *; omega
  ntrans x y z h k := by rw [litLt_not] at *; omega
theorem litCmp_total (x y : Int) (h : ltOf litCmp x y = false) (k : ltOf litCmp y x = false) : x = y := by
  rw [litLt_not] at *; omega
theorem norm1_lays (blk off size : Nat) (w : World) : CmpLays1 Try.prog 59 #[] (Value.int .i64) litCmp blk off size w := fun m os dk _ x y => by
  have h := norm1_any x y (sortWorld (Value.int .i64) w blk off m dk os)
  exact h
theorem oneInt : OneCell (Value.int .i64) := fun _ => rfl
theorem cut_spot {k : IntKind} {xs : List Int} {w : World} {A : Option Addr} {n : Nat} (h : (Kd.int k).C w A n xs) (hn : 0 < n) : ∃ b off, A = some ⟨b, off, none⟩ ∧ ∀ j, j < n → w.cell? ⟨b, off + j, none⟩ = some (.int k (YtdlfmobnmcamaaaW.PrintWords.rd xs j)) := by
  obtain ⟨ad, rfl, h0⟩ := Kd.at_int h 0 (by omega) (by omega)
  obtain ⟨b, off, sp⟩ := ad
  have hs : sp = none := by
    have e : (⟨b, off, sp⟩ : Addr).add (0 : Int).toNat = ⟨b, off, sp⟩ := by simp [Addr.add]
    rw [e] at h0
    cases sp with
    | none => rfl
    | some s =>
      simp only [World.cell?] at h0
      split at h0
      · simp at h0
      · cases h0
  subst hs
  refine ⟨b, off, rfl, fun j hj => ?_⟩
  obtain ⟨ad, e, hc⟩ := Kd.at_int h j (by omega) (by omega)
  cases e
  rw [Int.toNat_natCast] at hc
  have e : (⟨b, off, none⟩ : Addr).add j = ⟨b, off + j, none⟩ := by unfold Addr.add; split <;> simp_all
  rw [← e]; exact hc
theorem clone_own (A : Option Addr) (c : Nat) (l : List Int) (w : World) (h : (Kd.int .i64).C w A l.length l) (hm : l.length < 17592186044416) :
    Calls Try.prog 57 #[.slice A l.length c] w fun e w' => ∃ v', e = .returned v' ∧ w'.ownsRow w.heap.size 3 1 v' l.length (nums .i64 l) ∧ Below w.heap.size w w' := by
  by_cases h0 : l = []
  · subst h0
    cases A with
    | none => exact (Try.slices_Clone_nil _ _ _).mono fun e w' ⟨he, hw⟩ => ⟨_, he, own_nil _ _ _ _, hw ▸ Below.refl _ _⟩
    | some a => exact (Try.slices_Clone_int_zero _ _ _).mono fun e w' ⟨v', he, ho, _, hb⟩ => ⟨v', he, ho, hb⟩
  · have hn : 0 < l.length := List.length_pos_iff.2 h0
    obtain ⟨b, off, rfl, hc⟩ := cut_spot h hn
    obtain ⟨i0, hi0, hi1⟩ := Option.map_eq_some_iff.1 info3
    simp only [Prod.mk.injEq] at hi1
    refine (Try.slices_Clone i0 (.int .i64 0) 1 8 hi0 hi1.1 hi1.2.1 hi1.2.2 rfl (by decide) Try.sizeOf3 b off l.length c (nums .i64 l) w (by simp [nums]) (by simp only [maxLen]; omega) (by omega) ?_ ?_).mono fun e w' ⟨v', he, ho, _, hb⟩ => ⟨v', he, ho, hb⟩
    · intro j u hj
      have hj' : j < l.length := by have := (List.getElem?_eq_some_iff.1 hj).1; simpa [nums] using this
      rw [hc j hj', ← hj]
      simp [nums, YtdlfmobnmcamaaaW.PrintWords.rd, hj', List.getD_eq_getElem?_getD]
    · intro u hu
      simp only [nums, List.mem_map] at hu
      obtain ⟨x, _, rfl⟩ := hu
      rfl
/-- A row of literals in order. -/
def litSort (l : List Int) : List Int := l.mergeSort fun x y => !(ltOf litCmp) y x
/-- .. each once. -/
def litOnce (l : List Int) : List Int := Lib.compactUpTo l.toArray l.length
theorem litSort_length (l : List Int) : (litSort l).length = l.length := by simp [litSort]
theorem litOnce_le (l : List Int) : (litOnce l).length ≤ l.length := by
  simp only [litOnce, Lib.compactUpTo, List.length_map]
  exact Nat.le_trans (List.length_filter_le _ _) (by simp)
theorem below_ahead {B : Nat} {w W : World} (h : Below B w W) (n : Nat) : Below B w (Sort.ahead W n) := ⟨h.os, h.tape, h.output, h.size, h.block⟩
theorem sort_own (A : Option Addr) (n c base : Nat) (xs : List Int) (w : World) (hn : n = xs.length) (hm : xs.length < 17592186044416) (h : w.ownsRow base 3 1 (.slice A n c) n (nums .i64 xs)) :
    Calls Try.prog 58 #[.slice A n c, .func (.func 59) #[] #[]] w fun e w' => e = .returned (.tuple #[]) ∧ w'.ownsRow base 3 1 (.slice A n c) n (nums .i64 (litSort xs)) ∧ ∀ w0 : World, w0.heap.size = base → Below base w0 w → Below base w0 w' := by
  subst hn
  by_cases h0 : xs.length = 0
  · have hx : xs = [] := List.eq_nil_of_length_eq_zero h0
    subst hx
    exact (Try.slices_SortFunc_none (α := Int) A c _ w).mono fun e w' ⟨he, hw⟩ => ⟨he, by rw [hw]; simpa [litSort] using h, fun _ _ k => hw ▸ k⟩
  · rcases h.2 with ⟨_, e⟩ | ⟨g, cap, cur, hv, hbase, hb, h1, h2, h3, h4⟩
    · exact absurd e h0
    · cases hv
      refine (Try.slices_SortFunc_total (Value.int .i64) oneInt litCmp litCmp_swo 59 #[] g 0 c xs.toArray w (enters_my Try.func59 (by kernel_rfl) rfl) (norm1_lays _ _ _ _) (Go.holds_of_blockI hb (by simpa [nums] using h4)) (Array.getElem?_eq_some_iff.1 hb).1 (by simp; omega) litCmp_total).mono ?_
      rintro e w' ⟨he, n, os, rfl⟩
      refine ⟨he, ?_, fun w0 hw0 hB => ?_⟩
      · have := Go.ownsRow_sortedI (n := n) (os := os) (ss := xs) (ts := litSort xs) (litSort_length xs) hbase hb h1 h2 h3
        exact this
      · subst hw0
        exact pw_below_grown hB (some g) (hB.size) (Go.grownBy_sortedI _) (fun k hk => by cases hk; exact hbase)
theorem own_prefix {W : World} {base n c : Nat} {e : TypeId} {A : Option Addr} {xs ys : List Int} (h : W.ownsRow base e 1 (.slice A n c) n ((xs ++ ys).map (Value.int .i64))) (hle : xs.length ≤ n) : W.ownsRow base e 1 (.slice A xs.length c) xs.length (nums .i64 xs) := by
  refine ⟨by simp [nums], ?_⟩
  rcases h.2 with ⟨hv, e⟩ | ⟨g, cap, cur, hv, hbase, hb, h1, h2, h3, h4⟩
  · cases hv
    have : xs = [] := List.eq_nil_of_length_eq_zero (by omega)
    subst this
    exact .inl ⟨rfl, rfl⟩
  · cases hv
    refine .inr ⟨g, c, cur, rfl, hbase, hb, by omega, h2, h3, ?_⟩
    have := congrArg (List.take xs.length) h4
    rw [List.take_take, Nat.mul_one, Nat.min_eq_left hle] at this
    rw [Nat.mul_one, this]
    simp [nums]
theorem compact_own (A : Option Addr) (n c base : Nat) (xs : List Int) (w : World) (hn : n = xs.length) (hm : xs.length < 17592186044416) (h : w.ownsRow base 3 1 (.slice A n c) n (nums .i64 xs)) :
    Calls Try.prog 62 #[.slice A n c] w fun e w' => e = .returned (.slice A (litOnce xs).length c) ∧ w'.ownsRow base 3 1 (.slice A (litOnce xs).length c) (litOnce xs).length (nums .i64 (litOnce xs)) ∧ ∀ w0 : World, w0.heap.size = base → Below base w0 w → Below base w0 w' := by
  subst hn
  by_cases h0 : xs.length = 0
  · have hx : xs = [] := List.eq_nil_of_length_eq_zero h0
    subst hx
    exact (Try.slices_Compact_int_empty A c w).mono fun e w' ⟨he, hw⟩ => ⟨he, by rw [hw]; simpa [litOnce, Lib.compactUpTo] using h, fun _ _ k => hw ▸ k⟩
  · rcases h.2 with ⟨_, e⟩ | ⟨g, cap, cur, hv, hbase, hb, h1, h2, h3, h4⟩
    · exact absurd e h0
    · cases hv
      refine (Try.slices_Compact (Value.int .i64) oneInt (EqlAt.intD _ _ _) (NeqAt.intD _ _ _) 0 Try.zeroValue3 g 0 c xs.toArray w (Go.holds_of_blockI hb (by simpa [nums] using h4)) (by simp; omega) (by simpa using h1)).mono ?_
      rintro e w' ⟨he, n, rfl⟩
      refine ⟨he, ?_, fun w0 hw0 hB => ?_⟩
      · have hle := litOnce_le xs
        have := Go.ownsRow_sortedI (n := n) (os := #[]) (ss := xs) (ts := litOnce xs ++ List.replicate (xs.length - (litOnce xs).length) 0) (by simp; omega) hbase hb h1 h2 h3
        rw [Go.Sort.grow_empty] at this
        exact own_prefix this hle
      · subst hw0
        have := Go.grownBy_sortedI (w := w) (g := g) (n := n) (os := #[]) (litOnce xs ++ List.replicate (xs.length - (litOnce xs).length) 0).toArray
        rw [Go.Sort.grow_empty] at this
        exact pw_below_grown hB (some g) (hB.size) this (fun k hk => by cases hk; exact hbase)
/-- Two neighbours of a row in order are of one variable, or one is none. -/
def badAt (s : List Int) (i : Nat) : Prop := pvar (YtdlfmobnmcamaaaW.PrintWords.rd s i) = 0 ∨ (0 < i ∧ pvar (YtdlfmobnmcamaaaW.PrintWords.rd s ((i : Int) - 1)) = pvar (YtdlfmobnmcamaaaW.PrintWords.rd s i))
instance (s : List Int) (i : Nat) : Decidable (badAt s i) := by unfold badAt; infer_instance
def litBad (s : List Int) : Prop := ∃ i, i < s.length ∧ badAt s i
instance (s : List Int) : Decidable (litBad s) := by unfold litBad; infer_instance
def normOf (l : List Int) : List Int × Bool := if litBad (litOnce (litSort l)) then ([], false) else (litOnce (litSort l), true)
def prop_Norm.f (l : List Int) : Option (List Int × Bool) := if l.length < 17592186044416 then some (normOf l) else none
theorem eqb_true {a b : Int} (h : a = b) : (a == b) = true := by simpa using h
theorem eqb_false {a b : Int} (h : ¬ a = b) : (a == b) = false := by simpa using h
set_option maxHeartbeats 4000000 in
set_option maxRecDepth 100000 in
theorem norm_any (A0 : Option Addr) (c0 : Nat) (l0 : List Int) (w : World) (hr0 : Kd.C (Kd.int .i64) w A0 l0.length l0) (hm : l0.length < 17592186044416) :
    Calls Try.prog 34 #[.slice A0 l0.length c0] w fun e w' => ∃ v0_, e = .returned (.tuple #[v0_, .bool (normOf l0).2]) ∧ w'.ownsRow w.heap.size 3 1 v0_ (normOf l0).1.length (nums .i64 (normOf l0).1) ∧ Below w.heap.size w w' := by
  have H1 := Aside0.mk (clone_own A0 c0 l0 w hr0 hm)
  have HM := Aside0.mk hm
  obtain ⟨s, hs⟩ : ∃ s, litOnce (litSort l0) = s := ⟨_, rfl⟩
  obtain ⟨r, hr⟩ : ∃ r, normOf l0 = r := ⟨_, rfl⟩
  have HS : Aside0 (s.length < 17592186044416) := ⟨by rw [← hs]; have := litOnce_le (litSort l0); rw [litSort_length] at this; omega⟩
  rw [hr]
  have HR : Aside0 ((if litBad s then ([], false) else (s, true)) = r) := ⟨by rw [← hr, normOf, hs]⟩
  replace hs := Aside0.mk hs
  clear hr0 hm hr
  go_enter Try.func34, Try.ntmps34
  go_wp2_with fail
  go_at_call 57
  refine H1.out.mono ?_
  rintro e w1 ⟨v1, rfl, ho1, hb1⟩
  obtain ⟨A, c, rfl⟩ := own_slice ho1
  have H2 := Aside0.mk (sort_own A _ c w.heap.size l0 w1 rfl HM.out ho1)
  have HB1 := Aside0.mk hb1
  clear ho1 hb1
  go_wp2_with fail
  go_at_call 58
  refine H2.out.mono ?_
  rintro e w2 ⟨rfl, ho2, hb2⟩
  have h3 := compact_own A _ c w.heap.size (litSort l0) w2 (litSort_length l0).symm (by rw [litSort_length]; exact HM.out) ho2
  rw [hs.out] at h3
  have H3 := Aside0.mk h3
  have HB2 := Aside0.mk (hb2 w rfl HB1.out)
  clear ho2 hb2 h3
  go_wp2_with fail
  go_at_call 62
  refine H3.out.mono ?_
  rintro e w3 ⟨rfl, ho3, hb3⟩
  have HB3 := Aside0.mk (hb3 w rfl HB2.out)
  have HO3 := Aside0.mk ho3
  clear ho3 hb3 H1 H2 H3 HB1 HB2 hs HM
  go_wp2_with fail
  go_loopw [15] (fun v w' => ∃ i : Nat, v = .int .i64 (i : Int) ∧ Aside0 (∀ j, j < i → ¬ badAt s j) ∧ i ≤ s.length ∧ Aside0 (Drawn0 w3 w')) (fun v _ => s.length - (intOf v).toNat)
  case atStart => exact ⟨0, rfl, ⟨fun j hj => absurd hj (Nat.not_lt_zero j)⟩, by omega, ⟨Drawn0.refl _⟩⟩
  case round =>
    obtain ⟨i, rfl, HI, hi, ⟨⟨nd, rfl⟩⟩⟩ := hrel
    have hm := HS.out
    by_cases hlt : i < s.length
    · obtain ⟨ad, rfl, hx⟩ := (own_reads' HO3.out).at_ (i : Int) (by omega) (by omega)
      rw [Int.toNat_natCast] at hx
      replace hx : (w3.drewN nd).cell? (ad.add i) = _ := hx
      by_cases e0 : pvar (YtdlfmobnmcamaaaW.PrintWords.rd s (i : Int)) = 0
      · have e1 := eqb_true e0
        have HE : Aside0 (r = ([], false)) := ⟨by rw [← HR.out, if_pos ⟨i, hlt, .inl e0⟩]⟩
        clear e0
        go_wp2_with (refine (pvar_calls _ _).mono ?_; rintro e w' ⟨rfl, rfl⟩)
        go_ret2
        exact ⟨_, by rw [HE.out]; rfl, by rw [HE.out]; exact own_nil _ _ _ _, pw_below_drewN HB3.out _⟩
      · have e1 := eqb_false e0
        by_cases h0 : 0 < i
        · obtain ⟨ad', e', hy⟩ := (own_reads' HO3.out).at_ ((i : Int) - 1) (by omega) (by omega)
          cases e'
          have e9 : ((i : Int) - 1).toNat = i - 1 := by omega
          rw [e9] at hy
          have hw : wrap64 ((i : Int) - 1) = (i : Int) - 1 := by rw [wrap64]; omega
          replace hy : (w3.drewN nd).cell? (ad.add (i - 1)) = _ := hy
          by_cases e2 : pvar (YtdlfmobnmcamaaaW.PrintWords.rd s ((i : Int) - 1)) = pvar (YtdlfmobnmcamaaaW.PrintWords.rd s (i : Int))
          · have HE : Aside0 (r = ([], false)) := ⟨by rw [← HR.out, if_pos ⟨i, hlt, .inr ⟨h0, e2⟩⟩]⟩
            replace e2 := eqb_true e2
            clear e0
            go_wp2_with (refine (pvar_calls _ _).mono ?_; rintro e w' ⟨rfl, rfl⟩)
            go_ret2
            exact ⟨_, by rw [HE.out]; rfl, by rw [HE.out]; exact own_nil _ _ _ _, pw_below_drewN HB3.out _⟩
          · have HI2 : Aside0 (∀ j, j < i + 1 → ¬ badAt s j) := ⟨fun j hj => by
              by_cases c : j = i
              · subst c; rintro (h | ⟨_, h⟩); exact e0 h; exact e2 h
              · exact HI.out j (by omega)⟩
            replace e2 := eqb_false e2
            clear e0
            go_wp2_with (refine (pvar_calls _ _).mono ?_; rintro e w' ⟨rfl, rfl⟩)
            go_roundw
            case rel => exact ⟨i + 1, by go_num, HI2, by omega, ⟨by repeat (first | exact Drawn0.refl _ | apply Drawn0.step)⟩⟩
            case measure => simp [intOf]; omega
        · have HI2 : Aside0 (∀ j, j < i + 1 → ¬ badAt s j) := ⟨fun j hj => by
            by_cases c : j = i
            · subst c; rintro (h | ⟨h, _⟩); exact e0 h; exact h0 h
            · exact HI.out j (by omega)⟩
          replace h0 : ¬ (0 : Int) < (i : Int) := by omega
          clear e0
          go_wp2_with (refine (pvar_calls _ _).mono ?_; rintro e w' ⟨rfl, rfl⟩)
          go_roundw
          case rel => exact ⟨i + 1, by go_num, HI2, by omega, ⟨by repeat (first | exact Drawn0.refl _ | apply Drawn0.step)⟩⟩
          case measure => simp [intOf]; omega
    · have HE : Aside0 (r = (s, true)) := ⟨by
        rw [← HR.out, if_neg]
        rintro ⟨j, hj, hb⟩
        exact HI.out j (by omega) hb⟩
      go_wp2
      go_ret2
      exact ⟨_, by rw [HE.out]; rfl, by rw [HE.out]; exact HO3.out, pw_below_drewN HB3.out _⟩
theorem prop_Norm.calls (A0 : Option Addr) (c0 : Nat) (l0 : List Int) (r1 : List Int) (r2 : Bool) (w : World) (hr0 : Kd.C (Kd.int .i64) w A0 l0.length l0) (hc0 : l0.length ≤ c0) (h : prop_Norm.f l0 = some (r1, r2)) :
    Calls Try.prog 34 #[.slice A0 l0.length c0] w fun e w' => ∃ v0_, e = .returned (.tuple #[v0_, .bool r2]) ∧ Kd.R (Kd.int .i64) 3 w' w.heap.size (fun _ => True) v0_ r1 ∧ Below w.heap.size w w' := by
  unfold prop_Norm.f at h
  split at h
  · rename_i hm
    have e := Option.some.inj h
    refine (norm_any A0 c0 l0 w hr0 hm).mono ?_
    rintro e' w' ⟨v, he, ho, hb⟩
    rw [e] at he ho
    exact ⟨v, he, Kd.R_of_own ho (fun _ _ => trivial), hb⟩
  · cases h

end
end Go.Proofs.Ytdlfmobnmcamaaa.Q
