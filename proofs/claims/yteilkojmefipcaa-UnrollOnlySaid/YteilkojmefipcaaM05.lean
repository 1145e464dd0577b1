/- Unroll: walks and plain laws of this seat's functions, merged out of smaller texts of this session (Uq2, Uz, Uaa, Uab, Uac, Uad, Uae, Uaf, Uag, Uah). -/
import Derived.Test.YteilkojmefipcaaM04
namespace Go.Proofs.Yteilkojmefipcaa.U
open Go.RowKit Go.Proofs.YteilkojmefipcaaW.PrintWords Go.Proofs.YteilkojmefipcaaW.PrintLast
set_option linter.unusedVariables false
set_option linter.unusedSimpArgs false
section
variable {P : Program} {ops : Array Oper} {md : Region.Mode} {Q : Exit → Act → World → Prop} {S : World → Prop} {ds : List Nat}
/-- An operation of a region that draws, which its guard leaves out. -/
theorem pn {oi : Oper} {fuel : Nat} {l : Array Bool} {a : Act} {w : World} {a' : Act} (i : Nat) (N : Tmp)
    (h : wpAnyLast P md ops Q S ds fuel (l.setIfInBounds i true) a' w) (hc : anyB md ops l (l.setIfInBounds i true) i = true := by kernel_rfl) (hi : ops[i]? = some oi := by rfl) (hN : oi.dst = some N := by rfl)
    (hQ : ∀ c a w, Q (.panic c) (a.put oi.dst undef) w → Q (.panic c) a w := by exact (fun _ _ _ h => h)) (hy : Yields P ops oi undef a := by exact Or.inr ⟨by rfl, rfl⟩)
    (ha : a.put (some N) undef = a' := by simp only [Act.put, List.setIfInBounds_toArray, List.set_cons_zero, List.set_cons_succ]; rfl) : wpAnyLast P md ops Q S ds (fuel + 1) l a w := pure_ _ hi hN hc hQ hy ha h
/-- A call in a region that draws; what it hands back is known. -/
theorem cl {oi : Oper} {fuel : Nat} {l : Array Bool} {a : Act} {w : World} {a' : Act} {fn : Func} {ars : Array Operand} {ts : Array TypeId} {args : Array Value} (i : Nat) (N : Tmp) (f : FuncId) (v : Value) (hf : P.funcs[f]? = some fn) (R : World → Prop) (_hS : S w)
    (hcall : Calls P f args w (fun e w' => e = .returned v ∧ R w')) (hs : ∀ w', R w' → S w')
    (h : ∀ w', R w' → S w' → wpAnyLast P md ops Q S ds fuel (l.setIfInBounds i true) a' w')
    (hc : readyB md ops l (l.setIfInBounds i true) i = true := by kernel_rfl) (hi : ops[i]? = some oi := by rfl) (hN : oi.dst = some N := by rfl) (hd : i ∉ ds := by decide) (hw : Region.wanted oi (yielded ops a.tmps) = true := by rfl)
    (hname : (fn.name == "runtime.NumGoroutine") = false := by kernel_rfl) (hb : fn.body.isSome = true := by rfl)
    (hop : oi.op = .call { callee := .value (.func f), args := ars, argTypes := ts } := by rfl) (hargs : ars.map a.eval = args := by (try simp only [List.map_toArray, List.map_cons, List.map_nil]); first | done | rfl)
    (ha : a.put (some N) v = a' := by simp only [Act.put, List.setIfInBounds_toArray, List.set_cons_zero, List.set_cons_succ]; rfl) : wpAnyLast P md ops Q S ds (fuel + 1) l a w := by
  refine one_ (N := some N) _ hi hN hc hd (fun K hK => ?_)
  refine goes_ hf hname hb args hw hN hop hargs (hcall.mono ?_)
  rintro e w' ⟨rfl, hr⟩
  refine ⟨_, rfl, hK.out _ _ (hs _ hr) (fun hs2 => ?_)⟩
  rw [ha]
  exact h _ hr hs2
end
theorem RetI.is {z : Int} {w : World} {f : FuncId} {args : Array Value} (h : Calls Try.prog f args w (RetI (fun r => r = z) w)) : Calls Try.prog f args w (fun e w' => e = .returned (.int .i64 z) ∧ Below w.heap.size w w') :=
  h.mono (fun e w' ⟨r, he, hr, hb⟩ => ⟨by rw [he, hr], hb⟩)
theorem below_drewNq {B : Nat} {w W : World} (h : Below B w W) (n : Nat) : Below B w (W.drewN n) := ⟨h.os, h.tape, h.output, h.size, h.block⟩
def litOf (off l : Int) : Int := (off + 1 + l / 2) * (1 - 2 * (l % 2))
theorem litOf_wrap (off l : Int) (h0 : 0 ≤ l) (h1 : l ≤ 1000000000000) (h2 : 0 ≤ off) (h3 : off ≤ 1000000000000) : wrap64 ((off + 1 + l / 2) * wrap64 (1 - wrap64 (2 * bits BinOp.and IntKind.i64 l 1))) = litOf off l := by
  rw [i64_and1]
  unfold litOf
  rcases (by omega : l % 2 = 0 ∨ l % 2 = 1) with h | h
  · rw [h, show wrap64 (2 * 0) = 0 from by unfold wrap64; omega, show wrap64 (1 - 0) = 1 from by unfold wrap64; omega]
    rw [show (1 : Int) - 2 * 0 = 1 by omega, Int.mul_one]
    unfold wrap64; omega
  · rw [h, show wrap64 (2 * 1) = 2 from by unfold wrap64; omega, show wrap64 (1 - 2) = -1 from by unfold wrap64; omega]
    rw [show (1 : Int) - 2 * 1 = -1 by omega]
    unfold wrap64; omega
set_option maxHeartbeats 4000000 in
theorem of_any (l off : Int) (w : World) (h0 : 0 ≤ l) (h1 : l ≤ 1000000000000) (h2 : 0 ≤ off) (h3 : off ≤ 1000000000000) :
    Calls Try.prog 100 #[.int .i64 l, .int .i64 off] w (fun e w' => e = .returned (.int .i64 (litOf off l)) ∧ w' = w) := by
  go_enter Try.func100, Try.ntmps100
  go_wp2
  go_ret
  exact ⟨congrArg (fun z => Ending.returned (.int .i64 z)) (litOf_wrap off l h0 h1 h2 h3), rfl⟩
set_option maxHeartbeats 4000000 in
theorem Of_any (l off : Int) (w : World) (h0 : 0 ≤ l) (h1 : l ≤ 1000000000000) (h2 : 0 ≤ off) (h3 : off ≤ 1000000000000) :
    Calls Try.prog 80 #[.int .i64 l, .int .i64 off] w (fun e w' => e = .returned (.int .i64 (litOf off l)) ∧ w' = w) := by
  go_enter Try.func80, Try.ntmps80
  go_wp2_with (go_at_call 100; refine (of_any l off _ h0 h1 h2 h3).mono ?_; rintro e w' ⟨rfl, rfl⟩)
  go_ret
  exact ⟨rfl, rfl⟩
section
variable {P : Program} {ops : Array Oper} {md : Region.Mode} {Q : Exit → Act → World → Prop} {S : World → Prop} {ds : List Nat}
/-- A new box in a region that draws. -/
theorem obx {oi : Oper} {fuel : Nat} {l : Array Bool} {a : Act} {w w0 : World} {L : List Bx} (i : Nat) (N : Tmp) (cs : List Value) (t : TypeId) (HL : Aside0 (Led L w0 w)) (hS : ∀ w1, Below w.heap.size w w1 → S w1)
    (h : ∀ g w1, Aside0 (Led ((g, cs, t) :: L) w0 w1) → S w1 → wpAnyLast P md ops Q S ds fuel (l.setIfInBounds i true) (a.put (some N) (.pointer (some ⟨g, 0, none⟩))) w1)
    (hc : readyB md ops l (l.setIfInBounds i true) i = true := by kernel_rfl) (hi : ops[i]? = some oi := by rfl) (hN : oi.dst = some N := by rfl) (hd : i ∉ ds := by decide) (hw : Region.wanted oi (yielded ops a.tmps) = true := by rfl)
    (hrun : (execOp a.eval oi).run P w = .ok (.value (.pointer (some ⟨w.heap.size, 0, none⟩))) (w.alloc (.cells cs.toArray t (0, 0))) := by first | (go_simp; done) | (go_simp; rfl)) : wpAnyLast P md ops Q S ds (fuel + 1) l a w := by
  have hb : Below w.heap.size w (w.alloc (.cells cs.toArray t (0, 0))) := below_alloc (Below.refl _ _) _
  refine one_ (N := some N) _ hi hN hc hd (fun K hK => ?_)
  rw [← hN]
  refine event_step hw hrun (hK.out _ _ (hS _ hb) (fun hs => ?_))
  rw [hN]
  exact h _ _ ⟨HL.out.box rfl (blk_new w _) hb⟩ hs
end
/-- How many variables a frame has. -/
def sizeOf (c : S35) : Int := 1 + c.f0.f0 + c.f0.f1.length
set_option maxHeartbeats 4000000 in
theorem vars_any (ins : Int) (A : Option Addr) (n k : Nat) (w : World) (h0 : 0 ≤ ins) (h1 : ins ≤ 1000000000) (h2 : n ≤ 1000000000) :
    Calls Try.prog 33 #[.agg #[.int .i64 ins, .slice A n k]] w (RetI (fun r => r = 1 + ins + n) w) := by
  have HL : Aside0 (Led [] w w) := ⟨Led.nil w⟩
  go_enter Try.func33, Try.ntmps33
  go_wp2_with ((with_reducible refine zg 1 rfl ?_); refine zx 1 [.int .i64 ins, .slice A n k] 30 HL ?_; clear HL; intro g1 w1_ HL hb; clear hb; have hk0 : w1_.cell? ⟨g1, 0, none⟩ = some (.int .i64 ins) := blk_cell HL.out.g0 0; have hk1 : w1_.cell? ⟨g1, 1, none⟩ = some (.slice A n k) := blk_cell HL.out.g0 1)
  go_ret
  exact ⟨_, rfl, rfl, HL.out.below⟩
/-- The frames of a circuit, at a place. -/
def Fr (w : World) (g : Nat) (c : S35) (k : Nat) (fs : Bool) : Prop := ∃ A1 c1 A2 c2 A3 c3 A4 c4, k35.K w c [.int .i64 c.f0.f0, .slice A1 c.f0.f1.length c1, .slice A2 c.f1.length c2, .slice A3 c.f2.length c3, .slice A4 c.f3.length c4] ∧ w.cell? ⟨g, 0, none⟩ = some (.int .i64 c.f0.f0) ∧ w.cell? ⟨g, 1, none⟩ = some (.slice A1 c.f0.f1.length c1) ∧ w.cell? ⟨g, 2, none⟩ = some (.slice A2 c.f1.length c2) ∧ w.cell? ⟨g, 3, none⟩ = some (.slice A3 c.f2.length c3) ∧ w.cell? ⟨g, 4, none⟩ = some (.slice A4 c.f3.length c4) ∧ w.cell? ⟨g, 5, none⟩ = some (.int .i64 (k : Int)) ∧ w.cell? ⟨g, 6, none⟩ = some (.bool fs) ∧ w.cell? ⟨g, 7, none⟩ = some (.int .i64 (sizeOf c))
theorem Fr.below {w W : World} {g : Nat} {c : S35} {k : Nat} {fs : Bool} (h : Fr w g c k fs) (hb : Below w.heap.size w W) : Fr W g c k fs := by
  obtain ⟨A1, c1, A2, c2, A3, c3, A4, c4, hK, h0, h1, h2, h3, h4, h5, h6, h7⟩ := h
  exact ⟨A1, c1, A2, c2, A3, c3, A4, c4, k35.K_below hb hK, pw_cell_below hb h0, pw_cell_below hb h1, pw_cell_below hb h2, pw_cell_below hb h3, pw_cell_below hb h4, pw_cell_below hb h5, pw_cell_below hb h6, pw_cell_below hb h7⟩
/-- Frames are handed back. -/
def RetFr (c : S35) (k : Nat) (fs : Bool) (w : World) (e : Ending) (w' : World) : Prop := ∃ g, e = .returned (.pointer (some ⟨g, 0, none⟩)) ∧ w.heap.size ≤ g ∧ Fr w' g c k fs ∧ Below w.heap.size w w'
set_option maxHeartbeats 8000000 in
theorem new_any (c : S35) (cs : List Value) (k : Nat) (fs : Bool) (w : World) (h : k35.K w c cs) (h0 : 0 ≤ c.f0.f0) (h1 : c.f0.f0 ≤ 1000000000) (h2 : c.f0.f1.length ≤ 1000000000) :
    Calls Try.prog 13 #[.agg cs.toArray, .int .i64 (k : Int), .bool fs] w (RetFr c k fs w) := by
  have HK := am h
  obtain ⟨A1, c1, A2, c2, A3, c3, A4, c4, rfl, _⟩ := k35_open h
  have HL : Aside0 (Led [] w w) := ⟨Led.nil w⟩
  have hu35 := Try.underlying35
  have hu93 := Try.underlying93
  have hu30 := Try.underlying30
  clear h
  go_enter Try.func13, Try.ntmps13
  go_upto_region 1 with ((with_reducible refine zg 3 rfl ?_); refine zx 3 [.int .i64 c.f0.f0, .slice A1 c.f0.f1.length c1, .slice A2 c.f1.length c2, .slice A3 c.f2.length c3, .slice A4 c.f3.length c4] 35 HL ?_; clear HL; intro g3 w3_ HL hb; clear hb)
  have k0 : w3_.cell? ⟨g3, 0, none⟩ = some (.int .i64 c.f0.f0) := blk_cell (HL.out.get 0 rfl) 0
  have k1 : w3_.cell? ⟨g3, 1, none⟩ = some (.slice A1 c.f0.f1.length c1) := blk_cell (HL.out.get 0 rfl) 1
  have k2 : w3_.cell? ⟨g3, 2, none⟩ = some (.slice A2 c.f1.length c2) := blk_cell (HL.out.get 0 rfl) 2
  have k3 : w3_.cell? ⟨g3, 3, none⟩ = some (.slice A3 c.f2.length c3) := blk_cell (HL.out.get 0 rfl) 3
  have k4 : w3_.cell? ⟨g3, 4, none⟩ = some (.slice A4 c.f3.length c4) := blk_cell (HL.out.get 0 rfl) 4
  have hbd : Below w3_.heap.size w3_ w3_.drew := below_drew (Below.refl _ _)
  refine start_ (n := 9) (S := fun W => W.cell? ⟨g3, 0, none⟩ = some (.int .i64 c.f0.f0) ∧ W.cell? ⟨g3, 1, none⟩ = some (.slice A1 c.f0.f1.length c1) ∧ W.cell? ⟨g3, 2, none⟩ = some (.slice A2 c.f1.length c2) ∧ W.cell? ⟨g3, 3, none⟩ = some (.slice A3 c.f2.length c3) ∧ W.cell? ⟨g3, 4, none⟩ = some (.slice A4 c.f3.length c4)) (ds := []) #[false, false, false, false, false, false, false, false, false] (by kernel_rfl) rfl rfl ⟨k0, k1, k2, k3, k4⟩ (fun hHeld => ?_)
  refine pu 1 8 ?_
  refine pu 2 9 ?_
  refine pu 3 10 ?_
  refine tk 0 7 hHeld ?_
  refine tk 4 11 hHeld ?_
  refine cl 5 12 33 (.int .i64 (sizeOf c)) Try.func33 (fun we => Below w3_.drew.heap.size w3_.drew we) hHeld (RetI.is (vars_any c.f0.f0 A1 c.f0.f1.length c1 _ h0 h1 h2)) (fun we hb => ⟨pw_cell_below hb hHeld.1, pw_cell_below hb hHeld.2.1, pw_cell_below hb hHeld.2.2.1, pw_cell_below hb hHeld.2.2.2.1, pw_cell_below hb hHeld.2.2.2.2⟩) ?_
  intro we hb hHeld2
  refine pu 6 13 ?_
  have HL2 := am (HL.out.drew.step hb)
  refine obx 7 14 [.int .i64 c.f0.f0, .slice A1 c.f0.f1.length c1, .slice A2 c.f1.length c2, .slice A3 c.f2.length c3, .slice A4 c.f3.length c4, .int .i64 (k : Int), .bool fs, .int .i64 (sizeOf c)] 93 HL2 (fun w1 hb => ⟨pw_cell_below hb hHeld2.1, pw_cell_below hb hHeld2.2.1, pw_cell_below hb hHeld2.2.2.1, pw_cell_below hb hHeld2.2.2.2.1, pw_cell_below hb hHeld2.2.2.2.2⟩) ?_
  intro g14 w5 HL5 _
  refine norm_ (a' := ?_) ?_ ?_
  rotate_left
  · simp only [Act.put, List.setIfInBounds_toArray, List.set_cons_zero, List.set_cons_succ]; rfl
  refine pu 8 6 ?_
  refine done_ (by kernel_rfl) ?_
  go_wp2_with (fail)
  go_ret
  have HB := HL5.out.get 0 rfl
  refine ⟨g14, rfl, (HL5.out.boxes _ (List.mem_cons_self ..)).2, ⟨A1, c1, A2, c2, A3, c3, A4, c4, k35.K_below HL5.out.below HK.out, blk_cell HB 0, blk_cell HB 1, blk_cell HB 2, blk_cell HB 3, blk_cell HB 4, blk_cell HB 5, blk_cell HB 6, blk_cell HB 7⟩, HL5.out.below⟩
theorem Fr.size {w : World} {g : Nat} {c : S35} {k : Nat} {fs : Bool} (h : Fr w g c k fs) : w.cell? ⟨g, 7, none⟩ = some (.int .i64 (sizeOf c)) ∧ w.cell? ⟨g, 5, none⟩ = some (.int .i64 (k : Int)) ∧ w.cell? ⟨g, 6, none⟩ = some (.bool fs) := by
  obtain ⟨A1, c1, A2, c2, A3, c3, A4, c4, hK, h0, h1, h2, h3, h4, h5, h6, h7⟩ := h
  exact ⟨h7, h5, h6⟩
/-- A value is handed back. -/
def RetV (v : Value) (w : World) (e : Ending) (w' : World) : Prop := e = .returned v ∧ Below w.heap.size w w'
set_option maxHeartbeats 8000000 in
theorem frame_any (c : S35) (g : Nat) (k : Nat) (fs : Bool) (a : Int) (w : World) (h : Fr w g c k fs) (h0 : 0 ≤ a) (h1 : a ≤ 1000) (h2 : 0 ≤ sizeOf c) (h3 : sizeOf c ≤ 1000000000) :
    Calls Try.prog 48 #[.pointer (some ⟨g, 0, none⟩), .int .i64 a] w (RetV (.agg #[.int .i64 (a * sizeOf c)]) w) := by
  obtain ⟨hz, _⟩ := h.size
  have HZ := am hz
  have HL : Aside0 (Led [] w w) := ⟨Led.nil w⟩
  have hu98 := Try.underlying98
  obtain ⟨z, ez⟩ : ∃ z, sizeOf c = z := ⟨_, rfl⟩
  rw [ez] at HZ h2 h3 ⊢
  have hp0 : 0 ≤ a * z := Int.mul_nonneg h0 h2
  have hp1 : a * z ≤ 1000000000000 := by
    have h4 := Int.mul_le_mul h1 h3 h2 (by omega : (0 : Int) ≤ 1000)
    omega
  have HP : Aside0 (wrap64 (a * z) = a * z) := ⟨by unfold wrap64; omega⟩
  clear h hz ez
  go_enter Try.func48, Try.ntmps48
  go_wp2_with (first
    | ((with_reducible refine zg 4 rfl ?_); refine zx 4 [.int .i64 0] 98 HL ?_; clear HL; intro g4 w1_ HL hb; have hk7 := pw_cell_below hb HZ.out; clear hb)
    | ((with_reducible refine zst 98 (.tmp 4) (.tmp 11) rfl ?_); refine zs 0 0 98 (.tmp 4) (.tmp 11) [.int .i64 (wrap64 (a * z))] HL ?_; intro w2_ HLn hfar; replace HL := HLn; clear HLn hfar)
    | ((with_reducible refine zst 98 (.tmp 4) (.tmp 11) rfl ?_); refine zs 0 0 98 (.tmp 4) (.tmp 11) [.int .i64 (a * z)] HL ?_; intro w2_ HLn hfar; replace HL := HLn; clear HLn hfar))
  first
    | (refine bodyPost_ret (results_cell_row rfl _ _ g4 98 #[.int .i64 (wrap64 (a * z))] (0, 0) _ rfl HL.out.g0 Try.underlying98 rfl (by kernel_rfl)) rfl ?_
       rw [HP.out]
       exact ⟨rfl, HL.out.below⟩)
    | (refine bodyPost_ret (results_cell_row rfl _ _ g4 98 #[.int .i64 (a * z)] (0, 0) _ rfl HL.out.g0 Try.underlying98 rfl (by kernel_rfl)) rfl ?_
       exact ⟨rfl, HL.out.below⟩)
set_option maxHeartbeats 8000000 in
theorem flit_any (off x : Int) (w : World) (h0 : 0 ≤ x) (h1 : x ≤ 1000000000000) (h2 : 0 ≤ off) (h3 : off ≤ 1000000000000) :
    Calls Try.prog 81 #[.agg #[.int .i64 off], .int .i64 x] w (RetV (.int .i64 (litOf off x)) w) := by
  have HL : Aside0 (Led [] w w) := ⟨Led.nil w⟩
  go_enter Try.func81, Try.ntmps81
  go_wp2_with (first
    | ((with_reducible refine zg 2 rfl ?_); refine zx 2 [.int .i64 off] 98 HL ?_; clear HL; intro g2 w1_ HL hb; have hk0 : w1_.cell? ⟨g2, 0, none⟩ = some (.int .i64 off) := blk_cell HL.out.g0 0; clear hb)
    | (go_at_call 80; refine (Of_any x off _ h0 h1 h2 h3).mono ?_; rintro e w' ⟨rfl, rfl⟩))
  go_ret
  exact ⟨rfl, HL.out.below⟩
set_option maxHeartbeats 8000000 in
theorem fvars_any (c : S35) (g : Nat) (k : Nat) (fs : Bool) (w : World) (h : Fr w g c k fs) (h1 : k ≤ 1000) (h2 : 0 ≤ sizeOf c) (h3 : sizeOf c ≤ 1000000000) :
    Calls Try.prog 19 #[.pointer (some ⟨g, 0, none⟩)] w (RetV (.int .i64 (k * sizeOf c)) w) := by
  obtain ⟨hz, hk, _⟩ := h.size
  obtain ⟨z, ez⟩ : ∃ z, sizeOf c = z := ⟨_, rfl⟩
  rw [ez] at hz h2 h3 ⊢
  have hp0 : 0 ≤ (k : Int) * z := Int.mul_nonneg (by omega) h2
  have hp1 : (k : Int) * z ≤ 1000000000000 := by
    have h4 := Int.mul_le_mul (show (k : Int) ≤ 1000 by omega) h3 h2 (by omega : (0 : Int) ≤ 1000)
    omega
  have HP : Aside0 (wrap64 ((k : Int) * z) = k * z) := ⟨by unfold wrap64; omega⟩
  clear h ez
  go_enter Try.func19, Try.ntmps19
  go_wp2_with (fail)
  go_quiet (fail)
  go_wp2
  go_ret
  refine ⟨?_, below_drewNq (Below.refl _ _) _⟩
  first | rfl | exact congrArg (fun z => Ending.returned (.int .i64 z)) HP.out
theorem at84 {w : World} {A : Option Addr} {l : List S84} (h : Kd.C k84 w A l.length l) (i : Nat) (hi : i < l.length) : ∃ ad, A = some ad ∧ w.cell? (ad.add (i * 5)) = some (.int .i64 l[i].f0) ∧ w.cell? ⟨(ad.add (i * 5)).block, (ad.add (i * 5)).off + 1, none⟩ = some (.int .i64 l[i].f1) ∧ w.cell? ⟨(ad.add (i * 5)).block, (ad.add (i * 5)).off + 2, none⟩ = some (.bool l[i].f2) ∧ w.cell? ⟨(ad.add (i * 5)).block, (ad.add (i * 5)).off + 3, none⟩ = some (.int .i64 l[i].f3) ∧ w.cell? ⟨(ad.add (i * 5)).block, (ad.add (i * 5)).off + 4, none⟩ = some (.int .i64 l[i].f4) := by
  have e : rd_T84 l (i : Int) = l[i] := by simp [rd_T84, List.getD_eq_getElem?_getD, hi]
  have h2 := at_T84 h (i : Int) (by omega) (by omega)
  rw [e, Int.toNat_natCast] at h2
  exact h2
theorem Fr.f2 {w : World} {g : Nat} {c : S35} {k : Nat} {fs : Bool} (h : Fr w g c k fs) : ∃ A q, w.cell? ⟨g, 3, none⟩ = some (.slice A c.f2.length q) ∧ k84.C w A c.f2.length c.f2 := by
  obtain ⟨A1, c1, A2, c2, A3, c3, A4, c4, hK, h0, h1, h2, h3, h4, h5, h6, h7⟩ := h
  obtain ⟨_, _, _, _, _, _, _, _, he, _, g1, _, g2, _, g3, _, g4⟩ := k35_open hK
  injection he with _ he; injection he with e1 he; injection he with e2 he; injection he with e3 he; injection he with e4 _
  cases e1; cases e2; cases e3; cases e4
  exact ⟨_, _, h3, g3⟩
set_option maxHeartbeats 8000000 in
theorem latchC_any (c : S35) (g b : Nat) (k : Nat) (fs : Bool) (i : Nat) (w : World) (h : Fr w g c k fs) (hb : w.cell? ⟨b, 0, none⟩ = some (.pointer (some ⟨g, 0, none⟩))) (hi : i < c.f2.length) (h0 : 0 ≤ c.f2[i].f0) (h1 : c.f2[i].f0 ≤ 100000000000) :
    Calls Try.prog 56 #[.int .i64 (i : Int), .pointer (some ⟨b, 0, none⟩)] w (fun e w' => e = .returned (.int .i64 (2 * c.f2[i].f0)) ∧ w' = w) := by
  obtain ⟨A, q, hs, hC⟩ := h.f2
  have hm : c.f2.length ≤ 9223372036854775807 := hC.2.1
  obtain ⟨ad, rfl, hx, hr⟩ := at84 hC i hi
  clear hr
  obtain ⟨x, hx_⟩ : ∃ x, c.f2[i].f0 = x := ⟨_, rfl⟩
  rw [hx_] at hx h0 h1 ⊢
  have q0 : (0 : Int) ≤ (i : Int) := by omega
  have q1 : (i : Int) < (c.f2.length : Int) := by omega
  clear h hC hx_ hi
  go_enter Try.func56, Try.ntmps56
  go_wp2
  go_ret
  exact ⟨rfl, rfl⟩
theorem at80 {w : World} {A : Option Addr} {l : List S80} (h : Kd.C k80 w A l.length l) (i : Nat) (hi : i < l.length) : ∃ ad, A = some ad ∧ w.cell? (ad.add (i * 3)) = some (.int .i64 l[i].f0) ∧ w.cell? ⟨(ad.add (i * 3)).block, (ad.add (i * 3)).off + 1, none⟩ = some (.int .i64 l[i].f1) ∧ w.cell? ⟨(ad.add (i * 3)).block, (ad.add (i * 3)).off + 2, none⟩ = some (.int .i64 l[i].f2) := by
  have e : rd_T80 l (i : Int) = l[i] := by simp [rd_T80, List.getD_eq_getElem?_getD, hi]
  have h2 := at_T80 h (i : Int) (by omega) (by omega)
  rw [e, Int.toNat_natCast] at h2
  exact h2
theorem Fr.f1 {w : World} {g : Nat} {c : S35} {k : Nat} {fs : Bool} (h : Fr w g c k fs) : ∃ A q, w.cell? ⟨g, 2, none⟩ = some (.slice A c.f1.length q) ∧ k80.C w A c.f1.length c.f1 := by
  obtain ⟨A1, c1, A2, c2, A3, c3, A4, c4, hK, h0, h1, h2, h3, h4, h5, h6, h7⟩ := h
  obtain ⟨_, _, _, _, _, _, _, _, he, _, g1, _, g2, _, g3, _, g4⟩ := k35_open hK
  injection he with _ he; injection he with e1 he; injection he with e2 he; injection he with e3 he; injection he with e4 _
  cases e1; cases e2; cases e3; cases e4
  exact ⟨_, _, h2, g2⟩
set_option maxHeartbeats 8000000 in
theorem inC_any (c : S35) (g b : Nat) (k : Nat) (fs : Bool) (i : Nat) (w : World) (h : Fr w g c k fs) (hb : w.cell? ⟨b, 0, none⟩ = some (.pointer (some ⟨g, 0, none⟩))) (hi : i < c.f1.length) (h0 : 0 ≤ c.f1[i].f0) (h1 : c.f1[i].f0 ≤ 100000000000) :
    Calls Try.prog 58 #[.int .i64 (i : Int), .pointer (some ⟨b, 0, none⟩)] w (fun e w' => e = .returned (.int .i64 (2 * c.f1[i].f0)) ∧ w' = w) := by
  obtain ⟨A, q, hs, hC⟩ := h.f1
  have hm : c.f1.length ≤ 9223372036854775807 := hC.2.1
  obtain ⟨ad, rfl, hx, hr⟩ := at80 hC i hi
  clear hr
  obtain ⟨x, hx_⟩ : ∃ x, c.f1[i].f0 = x := ⟨_, rfl⟩
  rw [hx_] at hx h0 h1 ⊢
  have q0 : (0 : Int) ≤ (i : Int) := by omega
  have q1 : (i : Int) < (c.f1.length : Int) := by omega
  clear h hC hx_ hi
  go_enter Try.func58, Try.ntmps58
  go_wp2
  go_ret
  exact ⟨rfl, rfl⟩
theorem at88 {w : World} {A : Option Addr} {l : List S88} (h : Kd.C k88 w A l.length l) (i : Nat) (hi : i < l.length) : ∃ ad, A = some ad ∧ w.cell? (ad.add (i * 3)) = some (.int .i64 l[i].f0) ∧ w.cell? ⟨(ad.add (i * 3)).block, (ad.add (i * 3)).off + 1, none⟩ = some (.int .i64 l[i].f1) ∧ w.cell? ⟨(ad.add (i * 3)).block, (ad.add (i * 3)).off + 2, none⟩ = some (.int .i64 l[i].f2) := by
  have e : rd_T88 l (i : Int) = l[i] := by simp [rd_T88, List.getD_eq_getElem?_getD, hi]
  have h2 := at_T88 h (i : Int) (by omega) (by omega)
  rw [e, Int.toNat_natCast] at h2
  exact h2
theorem Fr.f3 {w : World} {g : Nat} {c : S35} {k : Nat} {fs : Bool} (h : Fr w g c k fs) : ∃ A q, w.cell? ⟨g, 4, none⟩ = some (.slice A c.f3.length q) ∧ k88.C w A c.f3.length c.f3 := by
  obtain ⟨A1, c1, A2, c2, A3, c3, A4, c4, hK, h0, h1, h2, h3, h4, h5, h6, h7⟩ := h
  obtain ⟨_, _, _, _, _, _, _, _, he, _, g1, _, g2, _, g3, _, g4⟩ := k35_open hK
  injection he with _ he; injection he with e1 he; injection he with e2 he; injection he with e3 he; injection he with e4 _
  cases e1; cases e2; cases e3; cases e4
  exact ⟨_, _, h4, g4⟩
set_option maxHeartbeats 8000000 in
theorem outC_any (c : S35) (g b : Nat) (k : Nat) (fs : Bool) (i : Nat) (w : World) (h : Fr w g c k fs) (hb : w.cell? ⟨b, 0, none⟩ = some (.pointer (some ⟨g, 0, none⟩))) (hi : i < c.f3.length) (h0 : 0 ≤ c.f3[i].f1) (h1 : c.f3[i].f1 ≤ 100000000000) :
    Calls Try.prog 59 #[.int .i64 (i : Int), .pointer (some ⟨b, 0, none⟩)] w (fun e w' => e = .returned (.int .i64 (c.f3[i].f1)) ∧ w' = w) := by
  obtain ⟨A, q, hs, hC⟩ := h.f3
  have hm : c.f3.length ≤ 9223372036854775807 := hC.2.1
  obtain ⟨ad, rfl, hr, hx, hr2⟩ := at88 hC i hi
  clear hr hr2
  obtain ⟨x, hx_⟩ : ∃ x, c.f3[i].f1 = x := ⟨_, rfl⟩
  rw [hx_] at hx h0 h1 ⊢
  have q0 : (0 : Int) ≤ (i : Int) := by omega
  have q1 : (i : Int) < (c.f3.length : Int) := by omega
  clear h hC hx_ hi
  go_enter Try.func59, Try.ntmps59
  go_wp2
  go_ret
  exact ⟨rfl, rfl⟩
/-- A literal of a frame, by its place in a list; 0, if there is no such one. -/
def atL (k : Nat) (sz : Int) (l : List Int) (a i : Int) : Int := if 0 ≤ a ∧ a < k ∧ 0 ≤ i ∧ i < l.length then litOf (a * sz) (l.getD i.toNat 0) else 0
theorem atL_no {k : Nat} {sz : Int} {l : List Int} {a i : Int} (h : ¬(0 ≤ a ∧ a < k ∧ 0 ≤ i ∧ i < l.length)) : 0 = atL k sz l a i := by unfold atL; rw [if_neg h]
set_option maxHeartbeats 16000000 in
theorem at_latch (c : S35) (g b : Nat) (k : Nat) (fs : Bool) (a i : Int) (w : World) (h : Fr w g c k fs) (hb : w.cell? ⟨b, 0, none⟩ = some (.pointer (some ⟨g, 0, none⟩))) (hk : k ≤ 1000) (h2 : 0 ≤ sizeOf c) (h3 : sizeOf c ≤ 1000000000) (hx : ∀ x ∈ c.f2, 0 ≤ x.f0 ∧ x.f0 ≤ 100000000000) :
    Calls Try.prog 55 #[.pointer (some ⟨g, 0, none⟩), .int .i64 a, .int .i64 i, .int .i64 (c.f2.length : Int), .func (.func 56) #[] #[.pointer (some ⟨b, 0, none⟩)]] w (RetV (.int .i64 (atL k (sizeOf c) (c.f2.map (fun x => 2 * x.f0)) a i)) w) := by
  obtain ⟨hz, hk5, _⟩ := h.size
  have hlen : (c.f2.map (fun x => 2 * x.f0)).length = c.f2.length := List.length_map ..
  by_cases b0 : 0 ≤ a
  · have e0 : decide (a < 0) = false := decide_eq_false (by omega)
    by_cases b1 : a < k
    · have e1 : decide ((k : Int) ≤ a) = false := decide_eq_false (by omega)
      by_cases b2 : 0 ≤ i
      · have e2 : decide (i < 0) = false := decide_eq_false (by omega)
        by_cases b3 : i < c.f2.length
        · have e3 : decide ((c.f2.length : Int) ≤ i) = false := decide_eq_false (by omega)
          obtain ⟨j, rfl⟩ := Int.eq_ofNat_of_zero_le b2
          have hj : j < c.f2.length := by omega
          obtain ⟨q0, q1⟩ := hx _ (List.getElem_mem hj)
          have HR : Aside0 (litOf (a * sizeOf c) (2 * c.f2[j].f0) = atL k (sizeOf c) (c.f2.map (fun x => 2 * x.f0)) a (j : Int)) := ⟨by
            unfold atL
            rw [if_pos ⟨b0, b1, b2, by rw [hlen]; exact b3⟩, Int.toNat_natCast, List.getD_eq_getElem?_getD, List.getElem?_eq_getElem (by rw [hlen]; exact hj), Option.getD_some, List.getElem_map]⟩
          have hp0 : 0 ≤ a * sizeOf c := Int.mul_nonneg b0 h2
          have hp1 : a * sizeOf c ≤ 1000000000000 := by
            have h4 := Int.mul_le_mul (show a ≤ 1000 by omega) h3 h2 (by omega : (0 : Int) ≤ 1000)
            omega
          have KF := am (fun W (hb : Below w.heap.size w W) => frame_any c g k fs a W (h.below hb) b0 (by omega) h2 h3)
          have KC := am (fun W (hw : Below w.heap.size w W) => latchC_any c g b k fs j W (h.below hw) (pw_cell_below hw hb) hj q0 q1)
          have KL := am (fun W => flit_any (a * sizeOf c) (2 * c.f2[j].f0) W (by omega) (by omega) hp0 hp1)
          have HB := am (Below.refl w.heap.size w)
          obtain ⟨z, ez⟩ : ∃ z, a * sizeOf c = z := ⟨_, rfl⟩
          obtain ⟨x, ex⟩ : ∃ x, 2 * c.f2[j].f0 = x := ⟨_, rfl⟩
          rw [ez, ex] at HR KL
          rw [ez] at KF
          rw [ex] at KC
          clear h hz hb hx hlen ez ex q0 q1 hp0 hp1 b1 b3 hk h2 h3
          go_enter Try.func55, Try.ntmps55
          go_wp2_with (first
            | (go_at_call 48; refine (KF.out _ HB.out).mono ?_; rintro e w1 ⟨rfl, hb1⟩; clear hk5; replace HB := am (below_step HB.out hb1); clear hb1)
            | (go_at_call 56; refine (KC.out _ HB.out).mono ?_; rintro e w2 ⟨rfl, rfl⟩)
            | (go_at_call 81; refine (KL.out _).mono ?_; rintro e w3 ⟨rfl, hb1⟩; replace HB := am (below_step HB.out hb1); clear hb1))
          go_ret
          exact ⟨congrArg (fun z => Ending.returned (.int .i64 z)) HR.out, HB.out⟩
        · have e3 : decide ((c.f2.length : Int) ≤ i) = true := decide_eq_true (by omega)
          have HR := am (atL_no (k := k) (sz := sizeOf c) (l := (c.f2.map (fun x => 2 * x.f0))) (a := a) (i := i) (by rw [hlen]; omega))
          clear h hz hb hx hlen
          go_enter Try.func55, Try.ntmps55
          go_wp2
          go_ret
          exact ⟨congrArg (fun z => Ending.returned (.int .i64 z)) HR.out, Below.refl _ _⟩
      · have e2 : decide (i < 0) = true := decide_eq_true (by omega)
        have HR := am (atL_no (k := k) (sz := sizeOf c) (l := (c.f2.map (fun x => 2 * x.f0))) (a := a) (i := i) (by omega))
        clear h hz hb hx hlen
        go_enter Try.func55, Try.ntmps55
        go_wp2
        go_ret
        exact ⟨congrArg (fun z => Ending.returned (.int .i64 z)) HR.out, Below.refl _ _⟩
    · have e1 : decide ((k : Int) ≤ a) = true := decide_eq_true (by omega)
      have HR := am (atL_no (k := k) (sz := sizeOf c) (l := (c.f2.map (fun x => 2 * x.f0))) (a := a) (i := i) (by omega))
      clear h hz hb hx hlen
      go_enter Try.func55, Try.ntmps55
      go_wp2
      go_ret
      exact ⟨congrArg (fun z => Ending.returned (.int .i64 z)) HR.out, Below.refl _ _⟩
  · have e0 : decide (a < 0) = true := decide_eq_true (by omega)
    have HR := am (atL_no (k := k) (sz := sizeOf c) (l := (c.f2.map (fun x => 2 * x.f0))) (a := a) (i := i) (by omega))
    clear h hz hb hx hlen
    go_enter Try.func55, Try.ntmps55
    go_wp2
    go_ret
    exact ⟨congrArg (fun z => Ending.returned (.int .i64 z)) HR.out, Below.refl _ _⟩
set_option maxHeartbeats 16000000 in
theorem latch_any (c : S35) (g : Nat) (k : Nat) (fs : Bool) (a i : Int) (w : World) (h : Fr w g c k fs) (hk : k ≤ 1000) (h2 : 0 ≤ sizeOf c) (h3 : sizeOf c ≤ 1000000000) (hx : ∀ x ∈ c.f2, 0 ≤ x.f0 ∧ x.f0 ≤ 100000000000) :
    Calls Try.prog 21 #[.pointer (some ⟨g, 0, none⟩), .int .i64 a, .int .i64 i] w (RetV (.int .i64 (atL k (sizeOf c) (c.f2.map (fun x => 2 * x.f0)) a i)) w) := by
  obtain ⟨A, q, hs, hC⟩ := h.f2
  have hm : c.f2.length ≤ 9223372036854775807 := hC.2.1
  have HS := am hs
  have KA := am (fun W (hw : Below w.heap.size w W) b hb => at_latch c g b k fs a i W (h.below hw) hb hk h2 h3 hx)
  have HL : Aside0 (Led [] w w) := ⟨Led.nil w⟩
  clear h hs hC
  go_enter Try.func21, Try.ntmps21
  go_upto_region 1 with ((with_reducible refine zg 3 rfl ?_); refine zx 3 [.pointer (some ⟨g, 0, none⟩)] 41 HL ?_; clear HL; intro g3 w1_ HL hb; clear hb)
  have k0 : w1_.cell? ⟨g3, 0, none⟩ = some (.pointer (some ⟨g, 0, none⟩)) := blk_cell (HL.out.get 0 rfl) 0
  have k1 := pw_cell_below HL.out.below HS.out
  refine start_ (n := 12) (S := (fun W => (W.cell? ⟨g3, 0, none⟩ = some (.pointer (some ⟨g, 0, none⟩)) ∧ W.cell? ⟨g, 3, none⟩ = some (.slice A c.f2.length q)) ∧ Aside0 (Below w1_.heap.size w1_ W))) (ds := []) #[false, false, false, false, false, false, false, false, false, false, false, false] (by kernel_rfl) rfl rfl ⟨⟨k0, k1⟩, ⟨below_drew (Below.refl _ _)⟩⟩ (fun hHeld => ?_)
  refine pu 1 8 ?_
  refine pu 2 9 ?_
  refine tk 0 7 hHeld ?_
  refine tk 3 10 hHeld ?_
  refine pu 4 11 ?_
  refine pu 5 12 ?_
  refine pu 6 13 ?_
  refine tk 7 14 hHeld ?_
  refine pu 8 15 ?_
  refine pu 9 16 ?_
  refine cl 10 17 55 (.int .i64 (atL k (sizeOf c) (c.f2.map (fun x => 2 * x.f0)) a i)) Try.func55 (fun we => Below w1_.drew.heap.size w1_.drew we) hHeld (KA.out _ HL.out.drew.below g3 hHeld.1.1) (fun we hb => ⟨⟨pw_cell_below hb hHeld.1.1, pw_cell_below hb hHeld.1.2⟩, ⟨below_step (below_drew (Below.refl _ _)) hb⟩⟩) ?_
  intro we hb hHeld2
  refine pu 11 6 ?_
  refine done_ (by kernel_rfl) ?_
  go_wp2_with (fail)
  go_ret
  exact ⟨rfl, HL.out.drew.step hb |>.below⟩
set_option maxHeartbeats 16000000 in
theorem at_in_ (c : S35) (g b : Nat) (k : Nat) (fs : Bool) (a i : Int) (w : World) (h : Fr w g c k fs) (hb : w.cell? ⟨b, 0, none⟩ = some (.pointer (some ⟨g, 0, none⟩))) (hk : k ≤ 1000) (h2 : 0 ≤ sizeOf c) (h3 : sizeOf c ≤ 1000000000) (hx : ∀ x ∈ c.f1, 0 ≤ x.f0 ∧ x.f0 ≤ 100000000000) :
    Calls Try.prog 55 #[.pointer (some ⟨g, 0, none⟩), .int .i64 a, .int .i64 i, .int .i64 (c.f1.length : Int), .func (.func 58) #[] #[.pointer (some ⟨b, 0, none⟩)]] w (RetV (.int .i64 (atL k (sizeOf c) (c.f1.map (fun x => 2 * x.f0)) a i)) w) := by
  obtain ⟨hz, hk5, _⟩ := h.size
  have hlen : (c.f1.map (fun x => 2 * x.f0)).length = c.f1.length := List.length_map ..
  by_cases b0 : 0 ≤ a
  · have e0 : decide (a < 0) = false := decide_eq_false (by omega)
    by_cases b1 : a < k
    · have e1 : decide ((k : Int) ≤ a) = false := decide_eq_false (by omega)
      by_cases b2 : 0 ≤ i
      · have e2 : decide (i < 0) = false := decide_eq_false (by omega)
        by_cases b3 : i < c.f1.length
        · have e3 : decide ((c.f1.length : Int) ≤ i) = false := decide_eq_false (by omega)
          obtain ⟨j, rfl⟩ := Int.eq_ofNat_of_zero_le b2
          have hj : j < c.f1.length := by omega
          obtain ⟨q0, q1⟩ := hx _ (List.getElem_mem hj)
          have HR : Aside0 (litOf (a * sizeOf c) (2 * c.f1[j].f0) = atL k (sizeOf c) (c.f1.map (fun x => 2 * x.f0)) a (j : Int)) := ⟨by
            unfold atL
            rw [if_pos ⟨b0, b1, b2, by rw [hlen]; exact b3⟩, Int.toNat_natCast, List.getD_eq_getElem?_getD, List.getElem?_eq_getElem (by rw [hlen]; exact hj), Option.getD_some, List.getElem_map]⟩
          have hp0 : 0 ≤ a * sizeOf c := Int.mul_nonneg b0 h2
          have hp1 : a * sizeOf c ≤ 1000000000000 := by
            have h4 := Int.mul_le_mul (show a ≤ 1000 by omega) h3 h2 (by omega : (0 : Int) ≤ 1000)
            omega
          have KF := am (fun W (hb : Below w.heap.size w W) => frame_any c g k fs a W (h.below hb) b0 (by omega) h2 h3)
          have KC := am (fun W (hw : Below w.heap.size w W) => inC_any c g b k fs j W (h.below hw) (pw_cell_below hw hb) hj q0 q1)
          have KL := am (fun W => flit_any (a * sizeOf c) (2 * c.f1[j].f0) W (by omega) (by omega) hp0 hp1)
          have HB := am (Below.refl w.heap.size w)
          obtain ⟨z, ez⟩ : ∃ z, a * sizeOf c = z := ⟨_, rfl⟩
          obtain ⟨x, ex⟩ : ∃ x, 2 * c.f1[j].f0 = x := ⟨_, rfl⟩
          rw [ez, ex] at HR KL
          rw [ez] at KF
          rw [ex] at KC
          clear h hz hb hx hlen ez ex q0 q1 hp0 hp1 b1 b3 hk h2 h3
          go_enter Try.func55, Try.ntmps55
          go_wp2_with (first
            | (go_at_call 48; refine (KF.out _ HB.out).mono ?_; rintro e w1 ⟨rfl, hb1⟩; clear hk5; replace HB := am (below_step HB.out hb1); clear hb1)
            | (go_at_call 58; refine (KC.out _ HB.out).mono ?_; rintro e w2 ⟨rfl, rfl⟩)
            | (go_at_call 81; refine (KL.out _).mono ?_; rintro e w3 ⟨rfl, hb1⟩; replace HB := am (below_step HB.out hb1); clear hb1))
          go_ret
          exact ⟨congrArg (fun z => Ending.returned (.int .i64 z)) HR.out, HB.out⟩
        · have e3 : decide ((c.f1.length : Int) ≤ i) = true := decide_eq_true (by omega)
          have HR := am (atL_no (k := k) (sz := sizeOf c) (l := (c.f1.map (fun x => 2 * x.f0))) (a := a) (i := i) (by rw [hlen]; omega))
          clear h hz hb hx hlen
          go_enter Try.func55, Try.ntmps55
          go_wp2
          go_ret
          exact ⟨congrArg (fun z => Ending.returned (.int .i64 z)) HR.out, Below.refl _ _⟩
      · have e2 : decide (i < 0) = true := decide_eq_true (by omega)
        have HR := am (atL_no (k := k) (sz := sizeOf c) (l := (c.f1.map (fun x => 2 * x.f0))) (a := a) (i := i) (by omega))
        clear h hz hb hx hlen
        go_enter Try.func55, Try.ntmps55
        go_wp2
        go_ret
        exact ⟨congrArg (fun z => Ending.returned (.int .i64 z)) HR.out, Below.refl _ _⟩
    · have e1 : decide ((k : Int) ≤ a) = true := decide_eq_true (by omega)
      have HR := am (atL_no (k := k) (sz := sizeOf c) (l := (c.f1.map (fun x => 2 * x.f0))) (a := a) (i := i) (by omega))
      clear h hz hb hx hlen
      go_enter Try.func55, Try.ntmps55
      go_wp2
      go_ret
      exact ⟨congrArg (fun z => Ending.returned (.int .i64 z)) HR.out, Below.refl _ _⟩
  · have e0 : decide (a < 0) = true := decide_eq_true (by omega)
    have HR := am (atL_no (k := k) (sz := sizeOf c) (l := (c.f1.map (fun x => 2 * x.f0))) (a := a) (i := i) (by omega))
    clear h hz hb hx hlen
    go_enter Try.func55, Try.ntmps55
    go_wp2
    go_ret
    exact ⟨congrArg (fun z => Ending.returned (.int .i64 z)) HR.out, Below.refl _ _⟩
set_option maxHeartbeats 16000000 in
theorem in__any (c : S35) (g : Nat) (k : Nat) (fs : Bool) (a i : Int) (w : World) (h : Fr w g c k fs) (hk : k ≤ 1000) (h2 : 0 ≤ sizeOf c) (h3 : sizeOf c ≤ 1000000000) (hx : ∀ x ∈ c.f1, 0 ≤ x.f0 ∧ x.f0 ≤ 100000000000) :
    Calls Try.prog 23 #[.pointer (some ⟨g, 0, none⟩), .int .i64 a, .int .i64 i] w (RetV (.int .i64 (atL k (sizeOf c) (c.f1.map (fun x => 2 * x.f0)) a i)) w) := by
  obtain ⟨A, q, hs, hC⟩ := h.f1
  have hm : c.f1.length ≤ 9223372036854775807 := hC.2.1
  have HS := am hs
  have KA := am (fun W (hw : Below w.heap.size w W) b hb => at_in_ c g b k fs a i W (h.below hw) hb hk h2 h3 hx)
  have HL : Aside0 (Led [] w w) := ⟨Led.nil w⟩
  clear h hs hC
  go_enter Try.func23, Try.ntmps23
  go_upto_region 1 with ((with_reducible refine zg 3 rfl ?_); refine zx 3 [.pointer (some ⟨g, 0, none⟩)] 41 HL ?_; clear HL; intro g3 w1_ HL hb; clear hb)
  have k0 : w1_.cell? ⟨g3, 0, none⟩ = some (.pointer (some ⟨g, 0, none⟩)) := blk_cell (HL.out.get 0 rfl) 0
  have k1 := pw_cell_below HL.out.below HS.out
  refine start_ (n := 12) (S := (fun W => (W.cell? ⟨g3, 0, none⟩ = some (.pointer (some ⟨g, 0, none⟩)) ∧ W.cell? ⟨g, 2, none⟩ = some (.slice A c.f1.length q)) ∧ Aside0 (Below w1_.heap.size w1_ W))) (ds := []) #[false, false, false, false, false, false, false, false, false, false, false, false] (by kernel_rfl) rfl rfl ⟨⟨k0, k1⟩, ⟨below_drew (Below.refl _ _)⟩⟩ (fun hHeld => ?_)
  refine pu 1 8 ?_
  refine pu 2 9 ?_
  refine tk 0 7 hHeld ?_
  refine tk 3 10 hHeld ?_
  refine pu 4 11 ?_
  refine pu 5 12 ?_
  refine pu 6 13 ?_
  refine tk 7 14 hHeld ?_
  refine pu 8 15 ?_
  refine pu 9 16 ?_
  refine cl 10 17 55 (.int .i64 (atL k (sizeOf c) (c.f1.map (fun x => 2 * x.f0)) a i)) Try.func55 (fun we => Below w1_.drew.heap.size w1_.drew we) hHeld (KA.out _ HL.out.drew.below g3 hHeld.1.1) (fun we hb => ⟨⟨pw_cell_below hb hHeld.1.1, pw_cell_below hb hHeld.1.2⟩, ⟨below_step (below_drew (Below.refl _ _)) hb⟩⟩) ?_
  intro we hb hHeld2
  refine pu 11 6 ?_
  refine done_ (by kernel_rfl) ?_
  go_wp2_with (fail)
  go_ret
  exact ⟨rfl, HL.out.drew.step hb |>.below⟩
set_option maxHeartbeats 16000000 in
theorem at_out (c : S35) (g b : Nat) (k : Nat) (fs : Bool) (a i : Int) (w : World) (h : Fr w g c k fs) (hb : w.cell? ⟨b, 0, none⟩ = some (.pointer (some ⟨g, 0, none⟩))) (hk : k ≤ 1000) (h2 : 0 ≤ sizeOf c) (h3 : sizeOf c ≤ 1000000000) (hx : ∀ x ∈ c.f3, 0 ≤ x.f1 ∧ x.f1 ≤ 100000000000) :
    Calls Try.prog 55 #[.pointer (some ⟨g, 0, none⟩), .int .i64 a, .int .i64 i, .int .i64 (c.f3.length : Int), .func (.func 59) #[] #[.pointer (some ⟨b, 0, none⟩)]] w (RetV (.int .i64 (atL k (sizeOf c) (c.f3.map (fun x => x.f1)) a i)) w) := by
  obtain ⟨hz, hk5, _⟩ := h.size
  have hlen : (c.f3.map (fun x => x.f1)).length = c.f3.length := List.length_map ..
  by_cases b0 : 0 ≤ a
  · have e0 : decide (a < 0) = false := decide_eq_false (by omega)
    by_cases b1 : a < k
    · have e1 : decide ((k : Int) ≤ a) = false := decide_eq_false (by omega)
      by_cases b2 : 0 ≤ i
      · have e2 : decide (i < 0) = false := decide_eq_false (by omega)
        by_cases b3 : i < c.f3.length
        · have e3 : decide ((c.f3.length : Int) ≤ i) = false := decide_eq_false (by omega)
          obtain ⟨j, rfl⟩ := Int.eq_ofNat_of_zero_le b2
          have hj : j < c.f3.length := by omega
          obtain ⟨q0, q1⟩ := hx _ (List.getElem_mem hj)
          have HR : Aside0 (litOf (a * sizeOf c) (c.f3[j].f1) = atL k (sizeOf c) (c.f3.map (fun x => x.f1)) a (j : Int)) := ⟨by
            unfold atL
            rw [if_pos ⟨b0, b1, b2, by rw [hlen]; exact b3⟩, Int.toNat_natCast, List.getD_eq_getElem?_getD, List.getElem?_eq_getElem (by rw [hlen]; exact hj), Option.getD_some, List.getElem_map]⟩
          have hp0 : 0 ≤ a * sizeOf c := Int.mul_nonneg b0 h2
          have hp1 : a * sizeOf c ≤ 1000000000000 := by
            have h4 := Int.mul_le_mul (show a ≤ 1000 by omega) h3 h2 (by omega : (0 : Int) ≤ 1000)
            omega
          have KF := am (fun W (hb : Below w.heap.size w W) => frame_any c g k fs a W (h.below hb) b0 (by omega) h2 h3)
          have KC := am (fun W (hw : Below w.heap.size w W) => outC_any c g b k fs j W (h.below hw) (pw_cell_below hw hb) hj q0 q1)
          have KL := am (fun W => flit_any (a * sizeOf c) (c.f3[j].f1) W (by omega) (by omega) hp0 hp1)
          have HB := am (Below.refl w.heap.size w)
          obtain ⟨z, ez⟩ : ∃ z, a * sizeOf c = z := ⟨_, rfl⟩
          obtain ⟨x, ex⟩ : ∃ x, c.f3[j].f1 = x := ⟨_, rfl⟩
          rw [ez, ex] at HR KL
          rw [ez] at KF
          rw [ex] at KC
          clear h hz hb hx hlen ez ex q0 q1 hp0 hp1 b1 b3 hk h2 h3
          go_enter Try.func55, Try.ntmps55
          go_wp2_with (first
            | (go_at_call 48; refine (KF.out _ HB.out).mono ?_; rintro e w1 ⟨rfl, hb1⟩; clear hk5; replace HB := am (below_step HB.out hb1); clear hb1)
            | (go_at_call 59; refine (KC.out _ HB.out).mono ?_; rintro e w2 ⟨rfl, rfl⟩)
            | (go_at_call 81; refine (KL.out _).mono ?_; rintro e w3 ⟨rfl, hb1⟩; replace HB := am (below_step HB.out hb1); clear hb1))
          go_ret
          exact ⟨congrArg (fun z => Ending.returned (.int .i64 z)) HR.out, HB.out⟩
        · have e3 : decide ((c.f3.length : Int) ≤ i) = true := decide_eq_true (by omega)
          have HR := am (atL_no (k := k) (sz := sizeOf c) (l := (c.f3.map (fun x => x.f1))) (a := a) (i := i) (by rw [hlen]; omega))
          clear h hz hb hx hlen
          go_enter Try.func55, Try.ntmps55
          go_wp2
          go_ret
          exact ⟨congrArg (fun z => Ending.returned (.int .i64 z)) HR.out, Below.refl _ _⟩
      · have e2 : decide (i < 0) = true := decide_eq_true (by omega)
        have HR := am (atL_no (k := k) (sz := sizeOf c) (l := (c.f3.map (fun x => x.f1))) (a := a) (i := i) (by omega))
        clear h hz hb hx hlen
        go_enter Try.func55, Try.ntmps55
        go_wp2
        go_ret
        exact ⟨congrArg (fun z => Ending.returned (.int .i64 z)) HR.out, Below.refl _ _⟩
    · have e1 : decide ((k : Int) ≤ a) = true := decide_eq_true (by omega)
      have HR := am (atL_no (k := k) (sz := sizeOf c) (l := (c.f3.map (fun x => x.f1))) (a := a) (i := i) (by omega))
      clear h hz hb hx hlen
      go_enter Try.func55, Try.ntmps55
      go_wp2
      go_ret
      exact ⟨congrArg (fun z => Ending.returned (.int .i64 z)) HR.out, Below.refl _ _⟩
  · have e0 : decide (a < 0) = true := decide_eq_true (by omega)
    have HR := am (atL_no (k := k) (sz := sizeOf c) (l := (c.f3.map (fun x => x.f1))) (a := a) (i := i) (by omega))
    clear h hz hb hx hlen
    go_enter Try.func55, Try.ntmps55
    go_wp2
    go_ret
    exact ⟨congrArg (fun z => Ending.returned (.int .i64 z)) HR.out, Below.refl _ _⟩
set_option maxHeartbeats 16000000 in
theorem out_any (c : S35) (g : Nat) (k : Nat) (fs : Bool) (a i : Int) (w : World) (h : Fr w g c k fs) (hk : k ≤ 1000) (h2 : 0 ≤ sizeOf c) (h3 : sizeOf c ≤ 1000000000) (hx : ∀ x ∈ c.f3, 0 ≤ x.f1 ∧ x.f1 ≤ 100000000000) :
    Calls Try.prog 25 #[.pointer (some ⟨g, 0, none⟩), .int .i64 a, .int .i64 i] w (RetV (.int .i64 (atL k (sizeOf c) (c.f3.map (fun x => x.f1)) a i)) w) := by
  obtain ⟨A, q, hs, hC⟩ := h.f3
  have hm : c.f3.length ≤ 9223372036854775807 := hC.2.1
  have HS := am hs
  have KA := am (fun W (hw : Below w.heap.size w W) b hb => at_out c g b k fs a i W (h.below hw) hb hk h2 h3 hx)
  have HL : Aside0 (Led [] w w) := ⟨Led.nil w⟩
  clear h hs hC
  go_enter Try.func25, Try.ntmps25
  go_upto_region 1 with ((with_reducible refine zg 3 rfl ?_); refine zx 3 [.pointer (some ⟨g, 0, none⟩)] 41 HL ?_; clear HL; intro g3 w1_ HL hb; clear hb)
  have k0 : w1_.cell? ⟨g3, 0, none⟩ = some (.pointer (some ⟨g, 0, none⟩)) := blk_cell (HL.out.get 0 rfl) 0
  have k1 := pw_cell_below HL.out.below HS.out
  refine start_ (n := 12) (S := (fun W => (W.cell? ⟨g3, 0, none⟩ = some (.pointer (some ⟨g, 0, none⟩)) ∧ W.cell? ⟨g, 4, none⟩ = some (.slice A c.f3.length q)) ∧ Aside0 (Below w1_.heap.size w1_ W))) (ds := []) #[false, false, false, false, false, false, false, false, false, false, false, false] (by kernel_rfl) rfl rfl ⟨⟨k0, k1⟩, ⟨below_drew (Below.refl _ _)⟩⟩ (fun hHeld => ?_)
  refine pu 1 8 ?_
  refine pu 2 9 ?_
  refine tk 0 7 hHeld ?_
  refine tk 3 10 hHeld ?_
  refine pu 4 11 ?_
  refine pu 5 12 ?_
  refine pu 6 13 ?_
  refine tk 7 14 hHeld ?_
  refine pu 8 15 ?_
  refine pu 9 16 ?_
  refine cl 10 17 55 (.int .i64 (atL k (sizeOf c) (c.f3.map (fun x => x.f1)) a i)) Try.func55 (fun we => Below w1_.drew.heap.size w1_.drew we) hHeld (KA.out _ HL.out.drew.below g3 hHeld.1.1) (fun we hb => ⟨⟨pw_cell_below hb hHeld.1.1, pw_cell_below hb hHeld.1.2⟩, ⟨below_step (below_drew (Below.refl _ _)) hb⟩⟩) ?_
  intro we hb hHeld2
  refine pu 11 6 ?_
  refine done_ (by kernel_rfl) ?_
  go_wp2_with (fail)
  go_ret
  exact ⟨rfl, HL.out.drew.step hb |>.below⟩
section
variable {P : Program} {ops : Array Oper} {rest : List Oper} {o : Oper} {a : Act} {Q : Exit → Act → World → Prop}
theorem zl2 {w0 W : World} {L : List Bx} (N : Tmp) (n0 n1 : Int) (HL : Aside0 (Led L w0 W))
    (h : ∀ v1 w1, Aside0 (Ri w1 w0.heap.size v1 [n0, n1]) → Aside0 (Led L w0 w1) → Below W.heap.size W w1 → wpList P ops Q rest (a.put o.dst v1) w1)
    (_hd : o.dst = some N := by rfl) (hgd : o.guard = none := by rfl)
    (hrun : (execOp a.eval o).run P W = .ok (.value (.slice (some ⟨W.heap.size, 0, none⟩) 2 2)) (W.alloc (.cells #[.int .i64 n0, .int .i64 n1] 3)) := by first | (go_simp; done) | (go_simp; rfl)) : wpList P ops Q (o :: rest) a W :=
  Kd.R_lit (Kd.int .i64) (w0 := w0) w0.heap.size 3 hgd (N := N) _hd (xs := [n0, n1]) (inner := [.int .i64 n0, .int .i64 n1]) (ok := Any) (okp := fun _ => False) hrun ⟨rfl, fun j p hp => by
    cases j with
    | zero => have : n0 = p := by simpa using hp
              subst this; rfl
    | succ j => cases j with
      | zero => have : n1 = p := by simpa using hp
                subst this; rfl
      | succ j => simp at hp⟩ (fun _ h => h.elim) trivial HL.out.below HL.out.below.size (by simp) (fun v1 w1 h1 _ hg _ => h v1 w1 ⟨h1⟩ ⟨HL.out.step (below_none hg)⟩ (below_none hg))
theorem zl3 {w0 W : World} {L : List Bx} (N : Tmp) (n0 n1 n2 : Int) (HL : Aside0 (Led L w0 W))
    (h : ∀ v1 w1, Aside0 (Ri w1 w0.heap.size v1 [n0, n1, n2]) → Aside0 (Led L w0 w1) → Below W.heap.size W w1 → wpList P ops Q rest (a.put o.dst v1) w1)
    (_hd : o.dst = some N := by rfl) (hgd : o.guard = none := by rfl)
    (hrun : (execOp a.eval o).run P W = .ok (.value (.slice (some ⟨W.heap.size, 0, none⟩) 3 3)) (W.alloc (.cells #[.int .i64 n0, .int .i64 n1, .int .i64 n2] 3)) := by first | (go_simp; done) | (go_simp; rfl)) : wpList P ops Q (o :: rest) a W :=
  Kd.R_lit (Kd.int .i64) (w0 := w0) w0.heap.size 3 hgd (N := N) _hd (xs := [n0, n1, n2]) (inner := [.int .i64 n0, .int .i64 n1, .int .i64 n2]) (ok := Any) (okp := fun _ => False) hrun ⟨rfl, fun j p hp => by
    cases j with
    | zero => have : n0 = p := by simpa using hp
              subst this; rfl
    | succ j => cases j with
      | zero => have : n1 = p := by simpa using hp
                subst this; rfl
      | succ j => cases j with
        | zero => have : n2 = p := by simpa using hp
                  subst this; rfl
        | succ j => simp at hp⟩ (fun _ h => h.elim) trivial HL.out.below HL.out.below.size (by simp) (fun v1 w1 h1 _ hg _ => h v1 w1 ⟨h1⟩ ⟨HL.out.step (below_none hg)⟩ (below_none hg))
theorem zaprT (T : TypeId) {w0 W : World} {L : List Bx} (s x : Operand) {z : Value} {v vi : Value} {ls : List (List Int)} {ys : List Int}
    (HL : Aside0 (Led L w0 W)) (HO : Aside0 (Rr W v ls)) (HN : Aside0 (Own w0 v)) (hi : Ri W 0 vi ys) (ht : P.underlying T = some (.slice 66)) (hinfo : (P.info? 66).map (fun i => (i.zero, i.size, i.bytes)) = some (some z, 1, 24)) (hl : ls.length ≤ 100000000)
    (h : ∀ v1 w1, Aside0 (Rr w1 v1 (ls ++ [ys])) → Aside0 (Own w0 v1) → Aside0 (Led L w0 w1) → W.grownBy w1 v.ownBlock → wpList P ops Q rest (a.put o.dst v1) w1)
    (hne : ∀ b, b ∈ L → 66 ≠ b.2.2 := by simp) (ho : o.op = .call { callee := .builtin .append, args := #[s, x], argTypes := #[T, T] } := by rfl) (hgd : o.guard = none := by rfl)
    (hz : z.cells.size = 1 := by rfl) (hs : a.eval s = v := by rfl) (hx : a.eval x = .slice (some ⟨W.heap.size, 0, none⟩) 1 1 := by rfl) :
    wpList P ops Q (o :: rest) a (W.alloc (.cells #[vi] 66)) :=
  Kd.R_append kR (w0 := W) 0 hgd s x T 66 z 24 ho ht hinfo hz (by decide) (by decide) v ls ys [vi] Any _ hs hx (inner_ok HO.out hi) (fun k hk => ⟨trivial, hk⟩) (fun _ _ => trivial) HO.out ⟨rfl, rfl, rfl, Nat.le_refl _, fun _ _ => rfl⟩ (Nat.zero_le _) (by omega)
    (fun v1 w1 h1 _ hg hat => h v1 w1 ⟨h1⟩ ⟨fun k hk => by
      rcases hat with e | ⟨b, e, hb⟩
      · exact HN.out k (e ▸ hk)
      · rw [e] at hk; injection hk with hk; subst hk; exact Nat.le_trans HL.out.below.size hb⟩
      ⟨HL.out.grown HO.out hg (pw_below_grown HL.out.below _ HL.out.below.size hg HN.out) hne⟩ hg)
end
/-- What add leaves. -/
def RetAdd (L : List Bx) (w0 : World) (i g : Nat) (ls : List (List Int)) (e : Ending) (w' : World) : Prop := (∃ v, e = .returned v) ∧ ∃ A q, Led (L.set i (g, [.slice A ls.length q], 126)) w0 w' ∧ Rr w' (.slice A ls.length q) ls ∧ Own w0 (.slice A ls.length q)
set_option maxHeartbeats 8000000 in
theorem add_any {L : List Bx} {w0 w : World} (i g : Nat) (A : Option Addr) (q : Nat) (vi : Value) (ls : List (List Int)) (ys : List Int) (HL : Led L w0 w) (hi : L[i]? = some (g, [.slice A ls.length q], 126)) (hne : ∀ b, b ∈ L → 66 ≠ b.2.2) (HO : Rr w (.slice A ls.length q) ls) (HN : Own w0 (.slice A ls.length q)) (hr : Ri w 0 vi ys) (hl : ls.length ≤ 100000000) :
    Calls Try.prog 79 #[.pointer (some ⟨g, 0, none⟩), vi] w (RetAdd L w0 i g (ls ++ [ys])) := by
  have k0 : w.cell? ⟨g, 0, none⟩ = some (.slice A ls.length q) := blk_cell (HL.get i hi) 0
  have hlt : g < w.heap.size := blk_lt (HL.get i hi)
  obtain ⟨B, p, rfl⟩ := Kd.R_slice hr
  have HL := am HL
  have HO := am HO
  have HN := am HN
  have hr := am hr
  go_enter Try.func79, Try.ntmps79
  go_wp2_with (first
    | ((with_reducible refine zg 10 rfl ?_); refine zaprT 126 (.tmp 7) (.tmp 9) HL HO HN hr.out Try.underlying126 info66 hl ?_ hne; intro v9 w9 HO9 HN9 HL9 hg; obtain ⟨ls2, e2⟩ : ∃ z, ls ++ [ys] = z := ⟨_, rfl⟩; rw [e2] at HO9 ⊢; clear e2; obtain ⟨A9, q9, rfl⟩ := Kd.R_slice HO9.out; clear hg)
    | ((with_reducible refine zst 126 (.tmp 11) (.tmp 10) rfl ?_); refine zs i 0 126 (.tmp 11) (.tmp 10) [.slice A9 ls2.length q9] HL9 ?_ hi; intro w2_ HLn hfar))
  first | go_ret | go_end0
  exact ⟨⟨_, rfl⟩, A9, q9, HLn.out, RfarG HO9.out HL9.out i hi hfar, HN9.out⟩
def gateOf (ins off : Int) (i : Nat) (x : S117) : List (List Int) := [[-litOf off (2 * (1 + ins + i)), litOf off x.f0], [-litOf off (2 * (1 + ins + i)), litOf off x.f1], [litOf off (2 * (1 + ins + i)), -litOf off x.f0, -litOf off x.f1]]
def gatesTo (ins off : Int) (l : List S117) (i : Nat) : List (List Int) := (List.range i).flatMap (fun j => gateOf ins off j (l.getD j ⟨0, 0⟩))
theorem gatesTo_succ (ins off : Int) (l : List S117) (i : Nat) (h : i < l.length) : gatesTo ins off l (i + 1) = gatesTo ins off l i ++ gateOf ins off i l[i] := by
  unfold gatesTo; rw [List.range_succ, List.flatMap_append]; simp [List.getD_eq_getElem?_getD, h]
theorem gatesTo_len (ins off : Int) (l : List S117) : ∀ i, (gatesTo ins off l i).length = 3 * i
  | 0 => rfl
  | i + 1 => by
    have := gatesTo_len ins off l i
    unfold gatesTo at this ⊢
    rw [List.range_succ, List.flatMap_append, List.length_append, this]
    simp [gateOf]; omega
/-- The clauses of a graph, one frame. -/
def clausesTo (ins off : Int) (l : List S117) (i : Nat) : List (List Int) := [-litOf off 0] :: gatesTo ins off l i
theorem clausesTo_succ (ins off : Int) (l : List S117) (i : Nat) (h : i < l.length) : clausesTo ins off l (i + 1) = clausesTo ins off l i ++ gateOf ins off i l[i] := by
  unfold clausesTo; rw [gatesTo_succ ins off l i h]; rfl
/-- Rows of rows are handed back. -/
def RetLs (ls : List (List Int)) (w : World) (e : Ending) (w' : World) : Prop := ∃ v, e = .returned v ∧ Rr w' v ls ∧ Own w v ∧ Below w.heap.size w w'
theorem litOf_bnd (off l : Int) (h0 : 0 ≤ l) (h1 : l ≤ 1000000000000) (h2 : 0 ≤ off) (h3 : off ≤ 1000000000000) : -2000000000000 ≤ litOf off l ∧ litOf off l ≤ 2000000000000 := by
  unfold litOf
  rcases (by omega : l % 2 = 0 ∨ l % 2 = 1) with h | h
  · rw [h, show (1 : Int) - 2 * 0 = 1 by omega, Int.mul_one]; omega
  · rw [h, show (1 : Int) - 2 * 1 = -1 by omega]; omega
set_option maxHeartbeats 32000000 in
set_option maxRecDepth 100000 in
theorem clauses_any (ins off : Int) (A0 : Option Addr) (c0 : Nat) (l : List S117) (w : World) (hC : k117.C w A0 l.length l) (hok : OkA ins l) (hi0 : 0 ≤ ins) (hi1 : ins ≤ 1000000000) (ho0 : 0 ≤ off) (ho1 : off ≤ 1000000000) (hl : l.length ≤ 1000000) :
    Calls Try.prog 47 #[.agg #[.int .i64 ins, .slice A0 l.length c0], .int .i64 off] w (RetLs (clausesTo ins off l l.length) w) := by
  have HC := am hC
  have HOK := am hok
  have HL : Aside0 (Led [] w w) := ⟨Led.nil w⟩
  have HO : Aside0 (Rr w (.slice none 0 0) []) := ⟨Kd.R_nil _ _ _ _ _⟩
  have HN : Aside0 (Own w (.slice none 0 0)) := ⟨fun k hk => by simp [Value.ownBlock] at hk⟩
  have hu117 := Try.underlying117
  have K0 : Aside0 (∀ W, Calls Try.prog 80 #[.int .i64 0, .int .i64 off] W (fun e w' => e = .returned (.int .i64 (litOf off 0)) ∧ w' = W)) := ⟨fun W => Of_any 0 off W (by omega) (by omega) ho0 (by omega)⟩
  obtain ⟨hb0, hb1⟩ := litOf_bnd off 0 (by omega) (by omega) ho0 (by omega)
  obtain ⟨z0, e0⟩ : ∃ z, litOf off 0 = z := ⟨_, rfl⟩
  rw [e0] at K0 hb0 hb1
  have HE0 := am e0
  have hm : l.length ≤ 9223372036854775807 := hC.2.1
  clear hok hC e0
  go_enter Try.func47, Try.ntmps47
  go_wp2_with (first
    | ((with_reducible refine zg 2 rfl ?_); refine zx 2 [.int .i64 ins, .slice A0 l.length c0] 30 HL ?_; clear HL; intro g2 w1_ HL hb; replace HO := am (Kd.R_below HO.out hb); clear hb)
    | ((with_reducible refine zg 5 rfl ?_); refine zx 5 [.slice none 0 0] 126 HL ?_; clear HL; intro g5 w2_ HL hb; replace HO := am (Kd.R_below HO.out hb); clear hb)
    | (go_at_call 80; refine (K0.out _).mono ?_; rintro e w' ⟨rfl, rfl⟩)
    | ((with_reducible refine zg 17 rfl ?_); refine zl1 17 (-z0) HL ?_; clear HL; intro v17 w3_ hr HL hb; replace HO := am (Kd.R_below HO.out hb); clear hb)
    | (go_at_call 79; refine (add_any 0 g5 none 0 _ [] [-z0] HL.out rfl (by simp) HO.out HN.out (Kd.R_lower hr.out (Nat.zero_le _)) (by simp)).mono ?_; rintro e w4_ ⟨⟨ve, rfl⟩, A', q', hL, hO, hN⟩; clear HL HO HN hr; have HL : Aside0 (Led [(g5, [.slice A' 1 q'], 126), (g2, [.int .i64 ins, .slice A0 l.length c0], 30)] w w4_) := ⟨hL⟩; have HO : Aside0 (Rr w4_ (.slice A' 1 q') [[-z0]]) := ⟨hO⟩; have HN : Aside0 (Own w (.slice A' 1 q')) := ⟨hN⟩; clear hL hO hN; have hk1 : w4_.cell? ⟨g2, 1, none⟩ = some (.slice A0 l.length c0) := blk_cell (HL.out.get 1 rfl) 1))
  clear hk1
  go_loopw [22] (fun v22 wr => ∃ (i : Nat) (ls : List (List Int)) (A : Option Addr) (q : Nat), v22 = .int .i64 (i : Int) ∧ i ≤ l.length ∧ Aside0 (Led [(g5, [.slice A ls.length q], 126), (g2, [.int .i64 ins, .slice A0 l.length c0], 30)] w wr) ∧ Aside0 (Rr wr (.slice A ls.length q) ls) ∧ Aside0 (Own w (.slice A ls.length q)) ∧ Aside0 (ls = clausesTo ins off l i)) (fun v _ => l.length - (intOf v).toNat)
  case atStart => exact ⟨0, [[-z0]], A', q', rfl, Nat.zero_le _, HL, HO, HN, ⟨by rw [← HE0.out]; rfl⟩⟩
  case round =>
    clear HL HO HN
    obtain ⟨i, ls, A, q, rfl, hi, HL, HO, HN, HLS⟩ := hrel
    by_cases hlt : i < l.length
    · have hk0 : wr.cell? ⟨g2, 0, none⟩ = some (.int .i64 ins) := blk_cell (HL.out.get 1 rfl) 0
      obtain ⟨ad, cx, rfl, hKx, hcx⟩ := el_get HC.out i hlt
      have hv := HOK.out i hlt
      have HSU := am (clausesTo_succ ins off l i hlt)
      obtain ⟨⟨xa, xb⟩, hx⟩ : ∃ x, l[i] = x := ⟨_, rfl⟩
      rw [hx] at hKx hv HSU
      obtain rfl := k117_open hKx
      have HCX := am hcx
      have hln : ls.length = 1 + 3 * i := by rw [HLS.out]; unfold clausesTo; rw [List.length_cons, gatesTo_len]; omega
      have HLN := am hln
      have q0 : (0 : Int) ≤ (i : Int) := by omega
      have q1 : (i : Int) < (l.length : Int) := by omega
      unfold Vld at hv
      dsimp only at hv
      obtain ⟨va, vb⟩ := hv
      have va0 : 0 ≤ xa ∧ xa ≤ 1000000000000 := ⟨va.1, by have := va.2; omega⟩
      have vb0 : 0 ≤ xb ∧ xb ≤ 1000000000000 := ⟨vb.1, by have := vb.2; omega⟩
      have vg0 : 0 ≤ 2 * (1 + ins + (i : Int)) ∧ 2 * (1 + ins + (i : Int)) ≤ 1000000000000 := ⟨by omega, by omega⟩
      have KG : Aside0 (∀ W, Calls Try.prog 80 #[.int .i64 (2 * (1 + ins + (i : Int))), .int .i64 off] W (fun e w' => e = .returned (.int .i64 (litOf off (2 * (1 + ins + (i : Int))))) ∧ w' = W)) := ⟨fun W => Of_any _ off W vg0.1 vg0.2 ho0 (by omega)⟩
      have KA : Aside0 (∀ W, Calls Try.prog 80 #[.int .i64 xa, .int .i64 off] W (fun e w' => e = .returned (.int .i64 (litOf off xa)) ∧ w' = W)) := ⟨fun W => Of_any _ off W va0.1 va0.2 ho0 (by omega)⟩
      have KB_ : Aside0 (∀ W, Calls Try.prog 80 #[.int .i64 xb, .int .i64 off] W (fun e w' => e = .returned (.int .i64 (litOf off xb)) ∧ w' = W)) := ⟨fun W => Of_any _ off W vb0.1 vb0.2 ho0 (by omega)⟩
      obtain ⟨bg0, bg1⟩ := litOf_bnd off _ vg0.1 vg0.2 ho0 (by omega)
      obtain ⟨ba0, ba1⟩ := litOf_bnd off _ va0.1 va0.2 ho0 (by omega)
      obtain ⟨bb0, bb1⟩ := litOf_bnd off _ vb0.1 vb0.2 ho0 (by omega)
      unfold gateOf at HSU
      dsimp only at HSU
      obtain ⟨zg_, eg⟩ : ∃ z, litOf off (2 * (1 + ins + (i : Int))) = z := ⟨_, rfl⟩
      obtain ⟨za, ea⟩ : ∃ z, litOf off xa = z := ⟨_, rfl⟩
      obtain ⟨zb, eb⟩ : ∃ z, litOf off xb = z := ⟨_, rfl⟩
      rw [eg] at KG bg0 bg1 HSU
      rw [ea] at KA ba0 ba1 HSU
      rw [eb] at KB_ bb0 bb1 HSU
      clear hKx hcx hx va vb va0 vb0 vg0 eg ea eb hln
      go_wp2_with (first
        | ((with_reducible refine zg 26 rfl ?_); refine zle 26 117 (.tmp 25) [.int .i64 xa, .int .i64 xb] (HCX.out _ HL.out.below) hu117 ?_)
        | ((with_reducible refine zg 8 rfl ?_); refine zx 8 [.int .i64 0, .int .i64 0] 117 HL ?_; clear HL; intro g8 w5_ HL hb; replace HO := am (Kd.R_below HO.out hb); clear hb hk0)
        | ((with_reducible refine zst 117 (.tmp 8) (.tmp 26) rfl ?_); refine zs 0 0 117 (.tmp 8) (.tmp 26) [.int .i64 xa, .int .i64 xb] HL ?_; intro w6_ HLn hfar; replace HO := am (RfarG HO.out HL.out 0 rfl hfar); replace HL := HLn; clear HLn hfar; have hk0 : w6_.cell? ⟨g2, 0, none⟩ = some (.int .i64 ins) := blk_cell (HL.out.get 2 rfl) 0; have hj0 : w6_.cell? ⟨g8, 0, none⟩ = some (.int .i64 xa) := blk_cell (HL.out.get 0 rfl) 0; have hj1 : w6_.cell? ⟨g8, 1, none⟩ = some (.int .i64 xb) := blk_cell (HL.out.get 0 rfl) 1)
        | (go_at_call 80; refine (KG.out _).mono ?_; rintro e w6b ⟨rfl, rfl⟩))
      go_quiet (first | (go_at_call 80; exact Calls.quiet_of_same (KA.out _)) | (go_at_call 80; exact Calls.quiet_of_same (KB_.out _)))
      generalize hgw : World.drewN _ _ = wd
      have hbw : Below w6b.heap.size w6b wd := by rw [← hgw]; exact below_drewNq (Below.refl _ _) _
      replace HL := am (HL.out.step hbw)
      replace HO := am (Kd.R_below HO.out hbw)
      clear hgw hbw hk0 hj0 hj1
      go_wp2_with (first
        | ((with_reducible refine zg 47 rfl ?_); refine zl2 47 (-zg_) za HL ?_; clear HL; intro v47 w7_ hr1 HL hb; replace HO := am (Kd.R_below HO.out hb); clear hb)
        | (go_at_call 79; refine (add_any 1 g5 A q _ ls [-zg_, za] HL.out rfl (by simp) HO.out HN.out (Kd.R_lower hr1.out (Nat.zero_le _)) (by have := HLN.out; omega)).mono ?_; rintro e w8_ ⟨⟨ve, rfl⟩, A_1, q_1, hL, hO, hN⟩; obtain ⟨ls1, e1⟩ : ∃ z, ls ++ [[-zg_, za]] = z := ⟨_, rfl⟩; rw [e1] at hL hO hN; have HE1 := am e1; clear HL HO HN hr1 e1; have HL : Aside0 (Led [(g8, [.int .i64 xa, .int .i64 xb], 117), (g5, [.slice A_1 ls1.length q_1], 126), (g2, [.int .i64 ins, .slice (some ad) l.length c0], 30)] w w8_) := ⟨hL⟩; have HO := am hO; have HN := am hN; clear hL hO hN)
        | ((with_reducible refine zg 53 rfl ?_); refine zl2 53 (-zg_) zb HL ?_; clear HL; intro v53 w9_ hr2 HL hb; replace HO := am (Kd.R_below HO.out hb); clear hb)
        | (go_at_call 79; refine (add_any 1 g5 A_1 q_1 _ ls1 [-zg_, zb] HL.out rfl (by simp) HO.out HN.out (Kd.R_lower hr2.out (Nat.zero_le _)) (by have := HLN.out; rw [← HE1.out, List.length_append, List.length_singleton]; omega)).mono ?_; rintro e w10_ ⟨⟨ve, rfl⟩, A_2, q_2, hL, hO, hN⟩; obtain ⟨ls2, e2⟩ : ∃ z, ls1 ++ [[-zg_, zb]] = z := ⟨_, rfl⟩; rw [e2] at hL hO hN; have HE2 := am e2; clear HL HO HN hr2 e2; have HL : Aside0 (Led [(g8, [.int .i64 xa, .int .i64 xb], 117), (g5, [.slice A_2 ls2.length q_2], 126), (g2, [.int .i64 ins, .slice (some ad) l.length c0], 30)] w w10_) := ⟨hL⟩; have HO := am hO; have HN := am hN; clear hL hO hN)
        | ((with_reducible refine zg 61 rfl ?_); refine zl3 61 zg_ (-za) (-zb) HL ?_; clear HL; intro v61 w11_ hr3 HL hb; replace HO := am (Kd.R_below HO.out hb); clear hb)
        | (go_at_call 79; refine (add_any 1 g5 A_2 q_2 _ ls2 [zg_, -za, -zb] HL.out rfl (by simp) HO.out HN.out (Kd.R_lower hr3.out (Nat.zero_le _)) (by have := HLN.out; rw [← HE2.out, ← HE1.out, List.length_append, List.length_append, List.length_singleton, List.length_singleton]; omega)).mono ?_; rintro e w12_ ⟨⟨ve, rfl⟩, A_3, q_3, hL, hO, hN⟩; obtain ⟨ls3, e3⟩ : ∃ z, ls2 ++ [[zg_, -za, -zb]] = z := ⟨_, rfl⟩; rw [e3] at hL hO hN; have HE3 := am e3; clear HL HO HN hr3 e3; have HL : Aside0 (Led [(g8, [.int .i64 xa, .int .i64 xb], 117), (g5, [.slice A_3 ls3.length q_3], 126), (g2, [.int .i64 ins, .slice (some ad) l.length c0], 30)] w w12_) := ⟨hL⟩; have HO := am hO; have HN := am hN; clear hL hO hN))
      go_roundw
      case rel => exact ⟨i + 1, ls3, A_3, q_3, by go_num, by omega, ⟨HL.out.drop⟩, HO, HN, ⟨by rw [HSU.out, ← HLS.out, ← HE3.out, ← HE2.out, ← HE1.out]; simp⟩⟩
      case measure => simp [intOf]; omega
    · obtain rfl : i = l.length := by omega
      have hk5 : wr.cell? ⟨g5, 0, none⟩ = some (.slice A ls.length q) := blk_cell (HL.out.get 0 rfl) 0
      go_wp2
      go_ret
      exact ⟨_, rfl, HLS.out ▸ HO.out, HN.out, HL.out.below⟩
section
variable {P : Program} {ops : Array Oper} {rest : List Oper} {o : Oper} {a : Act} {Q : Exit → Act → World → Prop}
theorem zlr2 {W w0 : World} {L : List Bx} (N : Tmp) {vi vj : Value} {ys zs_ : List Int} (HL : Aside0 (Led L w0 W)) (hi : Ri W 0 vi ys) (hj : Ri W 0 vj zs_)
    (h : ∀ v1 w1, Aside0 (Rr w1 v1 [ys, zs_]) → Aside0 (Own w0 v1) → Aside0 (Led L w0 w1) → Below W.heap.size W w1 → wpList P ops Q rest (a.put o.dst v1) w1)
    (_hd : o.dst = some N := by rfl) (hgd : o.guard = none := by rfl)
    (hrun : (execOp a.eval o).run P W = .ok (.value (.slice (some ⟨W.heap.size, 0, none⟩) 2 2)) (W.alloc (.cells #[vi, vj] 66)) := by first | (go_simp; done) | (go_simp; rfl)) : wpList P ops Q (o :: rest) a W :=
  Kd.R_lit kR (w0 := W) 0 66 hgd (N := N) _hd (xs := [ys, zs_]) (inner := [vi, vj]) (ok := Any) (okp := Any) hrun ⟨rfl, fun j p hp => by
    cases j with
    | zero => have : ys = p := by simpa using hp
              subst this; exact ⟨vi, rfl, hi⟩
    | succ j => cases j with
      | zero => have : zs_ = p := by simpa using hp
                subst this; exact ⟨vj, rfl, hj⟩
      | succ j => simp at hp⟩ (fun _ h => trivial) trivial ⟨rfl, rfl, rfl, Nat.le_refl _, fun _ _ => rfl⟩ (Nat.zero_le _) (by simp)
    (fun v1 w1 h1 _ hg hat => h v1 w1 ⟨h1⟩ ⟨fun k hk => by
      obtain ⟨b, e, hb⟩ := hat
      rw [e] at hk; injection hk with hk; subst hk; exact Nat.le_trans HL.out.below.size hb⟩ ⟨HL.out.step (below_none hg)⟩ (below_none hg))
theorem rows_M {W : World} {v v2 : Value} {ls ls2 : List (List Int)} (hO : Rr W v ls) (h2 : Rr W v2 ls2) : ∃ A c, v2 = .slice A ls2.length c ∧ ReadsRow (kR.M W 0 (fun k => some k ≠ v.ownBlock)) 1 W A ls2.length ls2 := by
  obtain ⟨A, c, he, _, hr⟩ := OwnRow.reads h2.2
  refine ⟨A, c, he, hr.imp_ (Below.refl _ _) (fun x cs hx => ?_)⟩
  obtain ⟨vi, rfl, hi⟩ := hx
  exact inner_ok hO (Kd.R_mono hi (fun _ _ => trivial))
/-- Rows behind rows. -/
theorem zapls (T : TypeId) {w0 W : World} {L : List Bx} (s x : Operand) {z : Value} {v v2 : Value} {ls ls2 : List (List Int)}
    (HL : Aside0 (Led L w0 W)) (HO : Aside0 (Rr W v ls)) (HN : Aside0 (Own w0 v)) (h2 : Rr W v2 ls2) (ht : P.underlying T = some (.slice 66)) (hinfo : (P.info? 66).map (fun i => (i.zero, i.size, i.bytes)) = some (some z, 1, 24)) (hl : ls.length + ls2.length ≤ 100000000)
    (h : ∀ v1 w1, Aside0 (Rr w1 v1 (ls ++ ls2)) → Aside0 (Own w0 v1) → Aside0 (Led L w0 w1) → W.grownBy w1 v.ownBlock → wpList P ops Q rest (a.put o.dst v1) w1)
    (hne : ∀ b, b ∈ L → 66 ≠ b.2.2 := by simp) (ho : o.op = .call { callee := .builtin .append, args := #[s, x], argTypes := #[T, T] } := by rfl) (hgd : o.guard = none := by rfl)
    (hz : z.cells.size = 1 := by rfl) (hs : a.eval s = v := by rfl) (hx : a.eval x = v2 := by rfl) : wpList P ops Q (o :: rest) a W := by
  obtain ⟨A, c, e, hr⟩ := rows_M HO.out h2
  exact Kd.R_append_rows kR (w0 := W) 0 hgd s x T 66 z 24 ho ht hinfo hz (by decide) (by decide) v ls ls2 A _ c Any _ hs (hx.trans e) HO.out hr (fun _ _ h => h) (fun k hk => ⟨trivial, hk⟩) (fun _ _ => trivial) ⟨rfl, rfl, rfl, Nat.le_refl _, fun _ _ => rfl⟩ (Nat.zero_le _) (by omega)
    (fun v1 w1 h1 _ hg hat => h v1 w1 ⟨h1⟩ ⟨fun k hk => by
      rcases hat with e | ⟨b, e, hb⟩
      · exact HN.out k (e ▸ hk)
      · rw [e] at hk; injection hk with hk; subst hk; exact Nat.le_trans HL.out.below.size hb⟩
      ⟨HL.out.grown HO.out hg (pw_below_grown HL.out.below _ HL.out.below.size hg HN.out) hne⟩ hg)
end
def initOf (x : S84) : List Int := [if x.f2 then litOf 0 (2 * x.f0) else -litOf 0 (2 * x.f0)]
/-- Latches' numbers are small. -/
def LatB (c : S35) : Prop := ∀ x ∈ c.f2, (0 ≤ x.f0 ∧ x.f0 ≤ 100000000000) ∧ 0 ≤ x.f1 ∧ x.f1 ≤ 100000000000
set_option maxHeartbeats 32000000 in
set_option maxRecDepth 100000 in
theorem inits_any (c : S35) (g k : Nat) (fs : Bool) (w : World) (h : Fr w g c k fs) (h2 : 0 ≤ sizeOf c) (h3 : sizeOf c ≤ 1000000000) (hb : LatB c) (hl : c.f2.length ≤ 10000000) :
    Calls Try.prog 50 #[.pointer (some ⟨g, 0, none⟩)] w (RetLs (c.f2.map initOf) w) := by
  have KF := am (fun W (hb : Below w.heap.size w W) => frame_any c g k fs 0 W (h.below hb) (by omega) (by omega) h2 h3)
  obtain ⟨A, q, hs, hC⟩ := h.f2
  have HC := am hC
  have HS := am hs
  have HBD := am hb
  have hm : c.f2.length ≤ 9223372036854775807 := hC.2.1
  have HL : Aside0 (Led [] w w) := ⟨Led.nil w⟩
  have hu84 := Try.underlying84
  obtain ⟨z, ez⟩ : ∃ z, 0 * sizeOf c = z := ⟨_, rfl⟩
  rw [ez] at KF
  have hz0 : z = 0 := by rw [← ez]; omega
  have HZ := am hz0
  clear h hs hC hb ez hz0 h2 h3
  go_enter Try.func50, Try.ntmps50
  go_wp2_with (go_at_call 48; refine (KF.out _ HL.out.below).mono ?_; rintro e w1 ⟨rfl, hb⟩; replace HL := am (HL.out.step hb); clear hb; have hk := pw_cell_below HL.out.below HS.out)
  clear hk
  go_loopw [3, 17] (fun v3 v17 wr => ∃ (i : Nat) (ls : List (List Int)), v17 = .int .i64 (i : Int) ∧ i ≤ c.f2.length ∧ Aside0 (Led [] w wr) ∧ Aside0 (Rr wr v3 ls) ∧ Aside0 (Own w v3) ∧ Aside0 (ls = (c.f2.take i).map initOf)) (fun _ v _ => c.f2.length - (intOf v).toNat)
  case atStart => exact ⟨0, [], rfl, Nat.zero_le _, HL, ⟨Kd.R_nil _ _ _ _ _⟩, ⟨fun k hk => by simp [Value.ownBlock] at hk⟩, ⟨rfl⟩⟩
  case round =>
    clear HL
    obtain ⟨i, ls, rfl, hi, HL, HO, HN, HLS⟩ := hrel
    by_cases hlt : i < c.f2.length
    · obtain ⟨ad, cx, rfl, hKx, hcx⟩ := el_get HC.out i hlt
      obtain ⟨⟨hx0, hx1⟩, _⟩ := HBD.out _ (List.getElem_mem hlt)
      have HSU : Aside0 ((c.f2.take (i + 1)).map initOf = (c.f2.take i).map initOf ++ [initOf c.f2[i]]) := ⟨by rw [List.take_succ_eq_append_getElem hlt, List.map_append]; rfl⟩
      have hln : ls.length ≤ 10000000 := by rw [HLS.out, List.length_map, List.length_take]; omega
      obtain ⟨⟨xv, xn, xi, x3, x4⟩, hx⟩ : ∃ x, c.f2[i] = x := ⟨_, rfl⟩
      rw [hx] at hKx HSU hx0 hx1
      dsimp only at hx0 hx1
      obtain rfl := k84_open hKx
      have HCX := am hcx
      have q0 : (0 : Int) ≤ (i : Int) := by omega
      have q1 : (i : Int) < (c.f2.length : Int) := by omega
      have KL : Aside0 (∀ W, Calls Try.prog 81 #[.agg #[.int .i64 z], .int .i64 (2 * xv)] W (RetV (.int .i64 (litOf 0 (2 * xv))) W)) := ⟨fun W => by have := flit_any z (2 * xv) W (by omega) (by omega) (by rw [HZ.out]; omega) (by rw [HZ.out]; omega); rw [HZ.out] at this; rw [HZ.out]; exact this⟩
      obtain ⟨bl0, bl1⟩ := litOf_bnd 0 (2 * xv) (by omega) (by omega) (by omega) (by omega)
      obtain ⟨zl_, el⟩ : ∃ z, litOf 0 (2 * xv) = z := ⟨_, rfl⟩
      rw [el] at KL bl0 bl1
      have HEL := am el
      have HLN := am hln
      clear hKx hcx hx el hln
      cases xi
      · go_wp2_with (first
          | ((with_reducible refine zg 20 rfl ?_); refine zle 20 84 (.tmp 19) [.int .i64 xv, .int .i64 xn, .bool false, .int .i64 x3, .int .i64 x4] (HCX.out _ HL.out.below) hu84 ?_)
          | ((with_reducible refine zg 6 rfl ?_); refine zx 6 [.int .i64 0, .int .i64 0, .bool false, .int .i64 0, .int .i64 0] 84 HL ?_; clear HL; intro g6 w5_ HL hb; replace HO := am (Kd.R_below HO.out hb); clear hb)
          | ((with_reducible refine zst 84 (.tmp 6) (.tmp 20) rfl ?_); refine zs 0 0 84 (.tmp 6) (.tmp 20) [.int .i64 xv, .int .i64 xn, .bool false, .int .i64 x3, .int .i64 x4] HL ?_; intro w6_ HLn hfar; replace HO := am (RfarG HO.out HL.out 0 rfl hfar); replace HL := HLn; clear HLn hfar; have hj0 : w6_.cell? ⟨g6, 0, none⟩ = some (.int .i64 xv) := blk_cell (HL.out.get 0 rfl) 0)
          | (go_at_call 81; refine (KL.out _).mono ?_; rintro e w7_ ⟨rfl, hb⟩; replace HO := am (Kd.R_below HO.out hb); replace HL := am (HL.out.step hb); clear hb hj0; have hj2 : w7_.cell? ⟨g6, 2, none⟩ = some (.bool false) := blk_cell (HL.out.get 0 rfl) 2)
          | ((with_reducible refine zg 33 rfl ?_); refine zl1 33 (-zl_) HL ?_; clear HL; intro v33 w9_ hr HL hb; obtain ⟨B33, q33, rfl⟩ := Kd.R_slice hr.out; replace HO := am (Kd.R_below HO.out hb); clear hb hj2)
          | ((with_reducible refine zg 35 rfl ?_); refine zaprT 47 (.tmp 31) (.tmp 34) HL HO HN (Kd.R_lower hr.out (Nat.zero_le _)) Try.underlying47 info66 (by have := HLN.out; omega) ?_; intro v9_ w10_ HO9 HN9 HL9 hg; clear hg HO HN HL))
        go_roundw
        case rel => exact ⟨i + 1, _, by go_num, by omega, ⟨HL9.out.drop⟩, HO9, HN9, ⟨by rw [HSU.out, ← HLS.out]; show ls ++ [[-zl_]] = ls ++ [[-litOf 0 (2 * xv)]]; rw [HEL.out]⟩⟩
        case measure => simp [intOf]; omega
      · go_wp2_with (first
          | ((with_reducible refine zg 20 rfl ?_); refine zle 20 84 (.tmp 19) [.int .i64 xv, .int .i64 xn, .bool true, .int .i64 x3, .int .i64 x4] (HCX.out _ HL.out.below) hu84 ?_)
          | ((with_reducible refine zg 6 rfl ?_); refine zx 6 [.int .i64 0, .int .i64 0, .bool false, .int .i64 0, .int .i64 0] 84 HL ?_; clear HL; intro g6 w5_ HL hb; replace HO := am (Kd.R_below HO.out hb); clear hb)
          | ((with_reducible refine zst 84 (.tmp 6) (.tmp 20) rfl ?_); refine zs 0 0 84 (.tmp 6) (.tmp 20) [.int .i64 xv, .int .i64 xn, .bool true, .int .i64 x3, .int .i64 x4] HL ?_; intro w6_ HLn hfar; replace HO := am (RfarG HO.out HL.out 0 rfl hfar); replace HL := HLn; clear HLn hfar; have hj0 : w6_.cell? ⟨g6, 0, none⟩ = some (.int .i64 xv) := blk_cell (HL.out.get 0 rfl) 0)
          | (go_at_call 81; refine (KL.out _).mono ?_; rintro e w7_ ⟨rfl, hb⟩; replace HO := am (Kd.R_below HO.out hb); replace HL := am (HL.out.step hb); clear hb hj0; have hj2 : w7_.cell? ⟨g6, 2, none⟩ = some (.bool true) := blk_cell (HL.out.get 0 rfl) 2)
          | ((with_reducible refine zg 33 rfl ?_); refine zl1 33 (zl_) HL ?_; clear HL; intro v33 w9_ hr HL hb; obtain ⟨B33, q33, rfl⟩ := Kd.R_slice hr.out; replace HO := am (Kd.R_below HO.out hb); clear hb hj2)
          | ((with_reducible refine zg 35 rfl ?_); refine zaprT 47 (.tmp 31) (.tmp 34) HL HO HN (Kd.R_lower hr.out (Nat.zero_le _)) Try.underlying47 info66 (by have := HLN.out; omega) ?_; intro v9_ w10_ HO9 HN9 HL9 hg; clear hg HO HN HL))
        go_roundw
        case rel => exact ⟨i + 1, _, by go_num, by omega, ⟨HL9.out.drop⟩, HO9, HN9, ⟨by rw [HSU.out, ← HLS.out]; show ls ++ [[zl_]] = ls ++ [[litOf 0 (2 * xv)]]; rw [HEL.out]⟩⟩
        case measure => simp [intOf]; omega
    · obtain rfl : i = c.f2.length := by omega
      go_wp2
      go_ret
      refine ⟨_, rfl, ?_, HN.out, HL.out.below⟩
      have := HLS.out
      rw [List.take_length] at this
      rw [← this]
      exact HO.out
def linkOf (o1 o2 : Int) (x : S84) : List (List Int) := [[-litOf o1 (2 * x.f0), litOf o2 x.f1], [litOf o1 (2 * x.f0), -litOf o2 x.f1]]
set_option maxHeartbeats 32000000 in
set_option maxRecDepth 100000 in
theorem links_any (c : S35) (g k : Nat) (fs : Bool) (a : Int) (w : World) (h : Fr w g c k fs) (ha : 1 ≤ a) (ha1 : a ≤ 1000) (h2 : 0 ≤ sizeOf c) (h3 : sizeOf c ≤ 1000000000) (hb : LatB c) (hl : c.f2.length ≤ 10000000) :
    Calls Try.prog 49 #[.pointer (some ⟨g, 0, none⟩), .int .i64 a] w (RetLs (c.f2.flatMap (linkOf (a * sizeOf c) ((a - 1) * sizeOf c))) w) := by
  have KF := am (fun W (hb : Below w.heap.size w W) => frame_any c g k fs a W (h.below hb) (by omega) (by omega) h2 h3)
  have KF2 := am (fun W (hb : Below w.heap.size w W) => frame_any c g k fs (a - 1) W (h.below hb) (by omega) (by omega) h2 h3)
  have pb : ∀ b : Int, 0 ≤ b → b ≤ 1000 → 0 ≤ b * sizeOf c ∧ b * sizeOf c ≤ 1000000000000 := fun b h0 h1 => ⟨Int.mul_nonneg h0 h2, by
    have h4 := Int.mul_le_mul h1 h3 h2 (by omega : (0 : Int) ≤ 1000)
    omega⟩
  obtain ⟨p0, p1⟩ := pb a (by omega) ha1
  obtain ⟨p2, p3⟩ := pb (a - 1) (by omega) (by omega)
  obtain ⟨A, q, hs, hC⟩ := h.f2
  have HC := am hC
  have HS := am hs
  have HBD := am hb
  have hm : c.f2.length ≤ 9223372036854775807 := hC.2.1
  have HL : Aside0 (Led [] w w) := ⟨Led.nil w⟩
  have hu84 := Try.underlying84
  obtain ⟨o1, e1⟩ : ∃ z, a * sizeOf c = z := ⟨_, rfl⟩
  obtain ⟨o2, e2⟩ : ∃ z, (a - 1) * sizeOf c = z := ⟨_, rfl⟩
  rw [e1] at KF p0 p1 ⊢
  rw [e2] at KF2 p2 p3 ⊢
  clear h hs hC hb e1 e2 h2 h3 pb
  go_enter Try.func49, Try.ntmps49
  go_wp2_with (first
    | (go_at_call 48; (with_reducible refine (KF.out _ HL.out.below).mono ?_); rintro e w1 ⟨rfl, hb⟩; replace HL := am (HL.out.step hb); clear hb)
    | (go_at_call 48; (with_reducible refine (KF2.out _ HL.out.below).mono ?_); rintro e w2 ⟨rfl, hb⟩; replace HL := am (HL.out.step hb); clear hb; have hk := pw_cell_below HL.out.below HS.out))
  clear hk KF KF2
  go_loopw [5, 27] (fun v5 v27 wr => ∃ (i : Nat) (ls : List (List Int)), v27 = .int .i64 (i : Int) ∧ i ≤ c.f2.length ∧ Aside0 (Led [] w wr) ∧ Aside0 (Rr wr v5 ls) ∧ Aside0 (Own w v5) ∧ Aside0 (ls = (c.f2.take i).flatMap (linkOf o1 o2)) ∧ Aside0 (ls.length = 2 * i)) (fun _ v _ => c.f2.length - (intOf v).toNat)
  case atStart => exact ⟨0, [], rfl, Nat.zero_le _, HL, ⟨Kd.R_nil _ _ _ _ _⟩, ⟨fun k hk => by simp [Value.ownBlock] at hk⟩, ⟨rfl⟩, ⟨rfl⟩⟩
  case round =>
    clear HL
    obtain ⟨i, ls, rfl, hi, HL, HO, HN, HLS, HLN⟩ := hrel
    by_cases hlt : i < c.f2.length
    · obtain ⟨ad, cx, rfl, hKx, hcx⟩ := el_get HC.out i hlt
      obtain ⟨⟨hx0, hx1⟩, hx2, hx3⟩ := HBD.out _ (List.getElem_mem hlt)
      have HSU : Aside0 ((c.f2.take (i + 1)).flatMap (linkOf o1 o2) = (c.f2.take i).flatMap (linkOf o1 o2) ++ linkOf o1 o2 c.f2[i]) := ⟨by rw [List.take_succ_eq_append_getElem hlt, List.flatMap_append, List.flatMap_singleton]⟩
      obtain ⟨⟨xv, xn, xi, x3, x4⟩, hx⟩ : ∃ x, c.f2[i] = x := ⟨_, rfl⟩
      rw [hx] at hKx HSU hx0 hx1 hx2 hx3
      dsimp only at hx0 hx1 hx2 hx3
      obtain rfl := k84_open hKx
      have HCX := am hcx
      have q0 : (0 : Int) ≤ (i : Int) := by omega
      have q1 : (i : Int) < (c.f2.length : Int) := by omega
      have hw : IntKind.i64.wrap (2 * xv) = 2 * xv := by rw [i64_w]; unfold wrap64; omega
      have KL : Aside0 (∀ W, Calls Try.prog 81 #[.agg #[.int .i64 o1], .int .i64 (IntKind.i64.wrap (2 * xv))] W (RetV (.int .i64 (litOf o1 (2 * xv))) W)) := ⟨fun W => by rw [hw]; exact flit_any o1 (2 * xv) W (by omega) (by omega) p0 p1⟩
      clear hw
      have KM := am (fun W => flit_any o2 xn W (by omega) (by omega) p2 p3)
      obtain ⟨bl0, bl1⟩ := litOf_bnd o1 (2 * xv) (by omega) (by omega) p0 p1
      obtain ⟨bm0, bm1⟩ := litOf_bnd o2 xn (by omega) (by omega) p2 p3
      obtain ⟨zl_, el⟩ : ∃ z, litOf o1 (2 * xv) = z := ⟨_, rfl⟩
      obtain ⟨zm_, em_⟩ : ∃ z, litOf o2 xn = z := ⟨_, rfl⟩
      rw [el] at KL bl0 bl1
      rw [em_] at KM bm0 bm1
      have HEL := am el
      have HEM := am em_
      clear hKx hcx hx el em_
      go_upto_region 6 with (first
          | ((with_reducible refine zg 30 rfl ?_); refine zle 30 84 (.tmp 29) [.int .i64 xv, .int .i64 xn, .bool xi, .int .i64 x3, .int .i64 x4] (HCX.out _ HL.out.below) hu84 ?_)
          | ((with_reducible refine zg 9 rfl ?_); refine zx 9 [.int .i64 0, .int .i64 0, .bool false, .int .i64 0, .int .i64 0] 84 HL ?_; clear HL; intro g9 w5_ HL hb; replace HO := am (Kd.R_below HO.out hb); clear hb)
          | ((with_reducible refine zst 84 (.tmp 9) (.tmp 30) rfl ?_); refine zs 0 0 84 (.tmp 9) (.tmp 30) [.int .i64 xv, .int .i64 xn, .bool xi, .int .i64 x3, .int .i64 x4] HL ?_; intro w6_ HLn hfar; replace HO := am (RfarG HO.out HL.out 0 rfl hfar); replace HL := HLn; clear HLn hfar; have hj0 : w6_.cell? ⟨g9, 0, none⟩ = some (.int .i64 xv) := blk_cell (HL.out.get 0 rfl) 0; have hj1 : w6_.cell? ⟨g9, 1, none⟩ = some (.int .i64 xn) := blk_cell (HL.out.get 0 rfl) 1))
      have KS : Aside0 (∀ W, Below w6_.heap.size w6_ W → (W.cell? ⟨g9, 0, none⟩ = some (.int .i64 xv) ∧ W.cell? ⟨g9, 1, none⟩ = some (.int .i64 xn)) ∧ Aside0 (Below w6_.heap.size w6_ W)) := ⟨fun W hb => ⟨⟨pw_cell_below hb hj0, pw_cell_below hb hj1⟩, ⟨hb⟩⟩⟩
      go_wp2_with (fail)
      go_cut [10, 11] (fun v10 v11 wx => v10 = .int .i64 zl_ ∧ v11 = .int .i64 zm_ ∧ Aside0 (Led [(g9, [.int .i64 xv, .int .i64 xn, .bool xi, .int .i64 x3, .int .i64 x4], 84)] w wx) ∧ Aside0 (Rr wx u5 ls))
      case first =>
        go_region_held3 (fun w' => (w'.cell? ⟨g9, 0, none⟩ = some (.int .i64 xv) ∧ w'.cell? ⟨g9, 1, none⟩ = some (.int .i64 xn)) ∧ Aside0 (Below w6_.heap.size w6_ w'))
          ((refine KS.out _ ?_; repeat (first | exact Aside0.out (And.right (by assumption)) | refine below_alloc ?_ _ | refine below_step ?_ (by assumption) | refine below_drew ?_ | exact Below.refl _ _)))
          (first | (go_at_call 81; (with_reducible refine (KL.out _).mono ?_); rintro e we1 ⟨rfl, hb⟩) | (go_at_call 81; (with_reducible refine (KM.out _).mono ?_); rintro e we2 ⟨rfl, hb⟩))
        all_goals
          go_wp2_with (fail)
          go_meet
          exact ⟨rfl, rfl, ⟨HL.out.step (by repeat (first | (with_reducible exact Below.refl _ _) | refine below_alloc ?_ _ | refine below_drew ?_ | refine below_drewNq ?_ _ | refine below_step ?_ (by assumption)))⟩, ⟨Kd.R_below HO.out (by repeat (first | (with_reducible exact Below.refl _ _) | refine below_alloc ?_ _ | refine below_drew ?_ | refine below_drewNq ?_ _ | refine below_step ?_ (by assumption)))⟩⟩
      case rest =>
        clear hj0 hj1 KS HL HO
        obtain ⟨rfl, rfl, HL, HO⟩ := hcut
        go_wp2_with (first
          | ((with_reducible refine zg 44 rfl ?_); refine zl2 44 (-zl_) zm_ HL ?_; clear HL; intro v44 w7_ hr1 HL hb; obtain ⟨B1, n1, rfl⟩ := Kd.R_slice hr1.out; replace HO := am (Kd.R_below HO.out hb); clear hb)
          | ((with_reducible refine zg 48 rfl ?_); refine zl2 48 zl_ (-zm_) HL ?_; clear HL; intro v48 w8_ hr2 HL hb; obtain ⟨B2, n2, rfl⟩ := Kd.R_slice hr2.out; replace HO := am (Kd.R_below HO.out hb); replace hr1 := am (Kd.R_below hr1.out hb); clear hb)
          | ((with_reducible refine zg 49 rfl ?_); refine zlr2 49 HL (Kd.R_lower hr1.out (Nat.zero_le _)) (Kd.R_lower hr2.out (Nat.zero_le _)) ?_; intro v49 w9_ HR2 _ HLn hb; obtain ⟨B3, n3, rfl⟩ := Kd.R_slice HR2.out; replace HL := HLn; replace HO := am (Kd.R_below HO.out hb); clear hb HLn hr1 hr2)
          | ((with_reducible refine zg 50 rfl ?_); refine zapls 47 (.tmp 40) (.tmp 49) HL HO HN HR2.out Try.underlying47 info66 (by have := HLN.out; show ls.length + 2 ≤ _; omega) ?_; intro v9_ w10_ HO9 HN9 HL9 hg; clear hg HO HN HL))
        go_roundw
        case rel => exact ⟨i + 1, _, by go_num, by omega, ⟨HL9.out.drop⟩, HO9, HN9, ⟨by rw [HSU.out, ← HLS.out]; show ls ++ [[-zl_, zm_], [zl_, -zm_]] = ls ++ [[-litOf o1 (2 * xv), litOf o2 xn], [litOf o1 (2 * xv), -litOf o2 xn]]; rw [HEL.out, HEM.out]⟩, ⟨by rw [List.length_append, HLN.out]; show 2 * i + 2 = _; omega⟩⟩
        case measure => simp [intOf]; omega
    · obtain rfl : i = c.f2.length := by omega
      go_wp2
      go_ret
      refine ⟨_, rfl, ?_, HN.out, HL.out.below⟩
      have := HLS.out
      rw [List.take_length] at this
      rw [← this]
      exact HO.out
end Go.Proofs.Yteilkojmefipcaa.U
