/- Unroll: walks and plain laws of this seat's functions, merged out of smaller texts of this session (Uai, Uaj, Uak, Ual, Uam, Uan, Uao, Uap, Uaq, Uar). -/
import Derived.Test.YteilkojmefipcaaM05
namespace Go.Proofs.Yteilkojmefipcaa.U
open Go.RowKit Go.Proofs.YteilkojmefipcaaW.PrintWords Go.Proofs.YteilkojmefipcaaW.PrintLast
set_option linter.unusedVariables false
set_option linter.unusedSimpArgs false
section
variable {P : Program} {ops : Array Oper} {md : Region.Mode} {Q : Exit → Act → World → Prop} {S : World → Prop} {ds : List Nat}
/-- A call in a region that draws; what it hands back is told by its contract. -/
theorem clE {oi : Oper} {fuel : Nat} {l : Array Bool} {a : Act} {w : World} {fn : Func} {ars : Array Operand} {ts : Array TypeId} {args : Array Value} (i : Nat) (N : Tmp) (f : FuncId) (hf : P.funcs[f]? = some fn) (R : Value → World → Prop)
    (hcall : Calls P f args w (fun e w' => ∃ v, e = .returned v ∧ R v w')) (hs : ∀ v w', R v w' → S w')
    (h : ∀ v w', R v w' → S w' → wpAnyLast P md ops Q S ds fuel (l.setIfInBounds i true) (a.put (some N) v) w')
    (hc : readyB md ops l (l.setIfInBounds i true) i = true := by kernel_rfl) (hi : ops[i]? = some oi := by rfl) (hN : oi.dst = some N := by rfl) (hd : i ∉ ds := by decide) (hw : Region.wanted oi (yielded ops a.tmps) = true := by rfl)
    (hname : (fn.name == "runtime.NumGoroutine") = false := by kernel_rfl) (hb : fn.body.isSome = true := by rfl)
    (hop : oi.op = .call { callee := .value (.func f), args := ars, argTypes := ts } := by rfl) (hargs : ars.map a.eval = args := by (try simp only [List.map_toArray, List.map_cons, List.map_nil]); first | done | rfl) : wpAnyLast P md ops Q S ds (fuel + 1) l a w := by
  refine one_ (N := some N) _ hi hN hc hd (fun K hK => ?_)
  refine goes_ hf hname hb args hw hN hop hargs (hcall.mono ?_)
  rintro e w' ⟨v, rfl, hr⟩
  exact ⟨_, rfl, hK.out _ _ (hs _ _ hr) (fun hs2 => h _ _ hr hs2)⟩
/-- Rows behind rows, in a region that draws. -/
theorem onapls {oi : Oper} {fuel : Nat} {l : Array Bool} {a : Act} {w0 W : World} {L : List Bx} (i : Nat) (N : Tmp) (T : TypeId) (s x : Operand) {z : Value} {v v2 : Value} {ls ls2 : List (List Int)}
    (HL : Aside0 (Led L w0 W)) (HO : Aside0 (Rr W v ls)) (HN : Aside0 (Own w0 v)) (h2 : Rr W v2 ls2) (ht : P.underlying T = some (.slice 66)) (hinfo : (P.info? 66).map (fun i => (i.zero, i.size, i.bytes)) = some (some z, 1, 24)) (hl : ls.length + ls2.length ≤ 100000000)
    (hS : ∀ w1, Led L w0 w1 → S w1)
    (h : ∀ v1 w1, Aside0 (Rr w1 v1 (ls ++ ls2)) → Aside0 (Own w0 v1) → Aside0 (Led L w0 w1) → S w1 → wpAnyLast P md ops Q S ds fuel (l.setIfInBounds i true) (a.put (some N) v1) w1)
    (hne : ∀ b, b ∈ L → 66 ≠ b.2.2 := by simp)
    (hc : readyB md ops l (l.setIfInBounds i true) i = true := by kernel_rfl) (hi : ops[i]? = some oi := by rfl) (hN : oi.dst = some N := by rfl) (hd : i ∉ ds := by decide) (hw : Region.wanted oi (yielded ops a.tmps) = true := by rfl)
    (ho : oi.op = .call { callee := .builtin .append, args := #[s, x], argTypes := #[T, T] } := by rfl)
    (hz : z.cells.size = 1 := by rfl) (hs : a.eval s = v := by rfl) (hx : a.eval x = v2 := by rfl) : wpAnyLast P md ops Q S ds (fuel + 1) l a W := by
  obtain ⟨A, c, e, hr⟩ := rows_M HO.out h2
  refine one_ (N := some N) _ hi hN hc hd (fun K hK => ?_)
  rw [← hN]
  refine Kd.R_append_rows_step kR (w0 := W) 0 hw s x T 66 z 24 ho ht hinfo hz (by decide) (by decide) v ls ls2 A _ c Any _ hs (hx.trans e) HO.out hr (fun _ _ h => h) (fun k hk => ⟨trivial, hk⟩) (fun _ _ => trivial) ⟨rfl, rfl, rfl, Nat.le_refl _, fun _ _ => rfl⟩ (Nat.zero_le _) (by omega)
    (fun v1 w1 h1 _ hg hat => ?_)
  have HL1 : Led L w0 w1 := HL.out.grown HO.out hg (pw_below_grown HL.out.below _ HL.out.below.size hg HN.out) hne
  refine hK.out _ _ (hS _ HL1) (fun hs2 => ?_)
  rw [hN]
  exact h v1 w1 ⟨h1⟩ ⟨fun k hk => by
      rcases hat with e | ⟨b, e, hb⟩
      · exact HN.out k (e ▸ hk)
      · rw [e] at hk; injection hk with hk; subst hk; exact Nat.le_trans HL.out.below.size hb⟩ ⟨HL1⟩ hs2
end
theorem RetLs.is {ls : List (List Int)} {w : World} {f : FuncId} {args : Array Value} (h : Calls Try.prog f args w (RetLs ls w)) : Calls Try.prog f args w (fun e w' => ∃ v, e = .returned v ∧ Rr w' v ls ∧ Below w.heap.size w w') :=
  h.mono (fun e w' ⟨v, he, hr, _, hb⟩ => ⟨v, he, hr, hb⟩)
/-- The clauses of frame i. -/
def frameC (c : S35) (fs : Bool) (i : Nat) : List (List Int) := clausesTo c.f0.f0 (i * sizeOf c) c.f0.f1 c.f0.f1.length ++ (if i = 0 then (if fs then c.f2.map initOf else []) else c.f2.flatMap (linkOf (i * sizeOf c) (((i : Int) - 1) * sizeOf c)))
def framesC (c : S35) (fs : Bool) (k : Nat) : List (List Int) := (List.range k).flatMap (frameC c fs)
theorem framesC_succ (c : S35) (fs : Bool) (k : Nat) : framesC c fs (k + 1) = framesC c fs k ++ frameC c fs k := by unfold framesC; rw [List.range_succ, List.flatMap_append, List.flatMap_singleton]
theorem links_len (o1 o2 : Int) (l : List S84) : (l.flatMap (linkOf o1 o2)).length = 2 * l.length := by
  induction l with
  | nil => rfl
  | cons x r ih => rw [List.flatMap_cons, List.length_append, ih, List.length_cons]; show 2 + _ = _; omega
theorem clausesTo_len (ins off : Int) (l : List S117) (i : Nat) : (clausesTo ins off l i).length = 1 + 3 * i := by unfold clausesTo; rw [List.length_cons, gatesTo_len]; omega
theorem field98 (z : Int) (w : World) : (Instr.field 98 (.agg #[.int .i64 z]) 0).run Try.prog w = .ok (.int .i64 z) w := by
  first | kernel_rfl | rfl | (simp [Instr.field, run_underlying Try.underlying98, part, asAgg]; done)
theorem Fr.g {w : World} {g : Nat} {c : S35} {k : Nat} {fs : Bool} (h : Fr w g c k fs) : ∃ A q, w.cell? ⟨g, 0, none⟩ = some (.int .i64 c.f0.f0) ∧ w.cell? ⟨g, 1, none⟩ = some (.slice A c.f0.f1.length q) ∧ k117.C w A c.f0.f1.length c.f0.f1 := by
  obtain ⟨A1, c1, A2, c2, A3, c3, A4, c4, hK, h0, h1, h2, h3, h4, h5, h6, h7⟩ := h
  obtain ⟨_, _, _, _, _, _, _, _, he, _, g1, _, g2, _, g3, _, g4⟩ := k35_open hK
  injection he with _ he; injection he with e1 he
  cases e1
  exact ⟨_, _, h0, h1, g1⟩
set_option maxHeartbeats 32000000 in
set_option maxRecDepth 100000 in
theorem frames_any (c : S35) (g k : Nat) (fs : Bool) (w : World) (h : Fr w g c k fs) (hok : OkA c.f0.f0 c.f0.f1) (hi0 : 0 ≤ c.f0.f0) (hi1 : c.f0.f0 ≤ 1000000) (hl : c.f0.f1.length ≤ 1000000) (hb : LatB c) (hl2 : c.f2.length ≤ 1000000) (hk : k ≤ 10) :
    Calls Try.prog 17 #[.pointer (some ⟨g, 0, none⟩)] w (RetLs (framesC c fs k) w) := by
  have h2 : 0 ≤ sizeOf c := by unfold sizeOf; omega
  have h3 : sizeOf c ≤ 10000000 := by unfold sizeOf; omega
  obtain ⟨A, q, hg0, hg1, hC⟩ := h.g
  have hm : c.f0.f1.length ≤ 9223372036854775807 := hC.2.1
  have pb : ∀ b : Int, 0 ≤ b → b ≤ 10 → 0 ≤ b * sizeOf c ∧ b * sizeOf c ≤ 1000000000 := fun b h0 h1 => ⟨Int.mul_nonneg h0 h2, by
    have h4 := Int.mul_le_mul h1 h3 h2 (by omega : (0 : Int) ≤ 10)
    omega⟩
  have KF := am (fun W (hb : Below w.heap.size w W) (a : Int) (h0 : 0 ≤ a) (h1 : a ≤ 10) => frame_any c g k fs a W (h.below hb) h0 (by omega) h2 (by omega))
  have KC := am (fun W (hb : Below w.heap.size w W) (a : Int) (h0 : 0 ≤ a) (h1 : a ≤ 10) => RetLs.is (clauses_any c.f0.f0 (a * sizeOf c) A q c.f0.f1 W (Kd.C_below hC hb) hok hi0 (by omega) (pb a h0 h1).1 (pb a h0 h1).2 hl))
  have KI := am (fun W (hw : Below w.heap.size w W) => inits_any c g k fs W (h.below hw) h2 (by omega) hb (by omega))
  have KK := am (fun W (hw : Below w.heap.size w W) (a : Int) (h0 : 1 ≤ a) (h1 : a ≤ 10) => links_any c g k fs a W (h.below hw) h0 (by omega) h2 (by omega) hb (by omega))
  obtain ⟨_, h5, h6⟩ := h.size
  have H5 := am h5
  have H6 := am h6
  have HG0 := am hg0
  have HG1 := am hg1
  have HL : Aside0 (Led [] w w) := ⟨Led.nil w⟩
  have hu30 := Try.underlying30
  have hfld := field98
  clear h hok hC hb hg0 hg1 h6 pb
  go_enter Try.func17, Try.ntmps17
  go_wp2_with (fail)
  clear h5
  go_loopw [3, 9] (fun v3 v9 wr => ∃ (i : Nat) (ls : List (List Int)), v9 = .int .i64 (i : Int) ∧ i ≤ k ∧ Aside0 (Led [] w wr) ∧ Aside0 (Rr wr v3 ls) ∧ Aside0 (Own w v3) ∧ Aside0 (ls = framesC c fs i) ∧ Aside0 (ls.length ≤ i * 5000001)) (fun _ v _ => k - (intOf v).toNat)
  case atStart => exact ⟨0, [], rfl, Nat.zero_le _, HL, ⟨Kd.R_nil _ _ _ _ _⟩, ⟨fun k hk => by simp [Value.ownBlock] at hk⟩, ⟨rfl⟩, ⟨Nat.zero_le _⟩⟩
  case round =>
    clear HL
    obtain ⟨i, ls, rfl, hi, HL, HO, HN, HLS, HLN⟩ := hrel
    by_cases hlt : i < k
    · have HSU : Aside0 (framesC c fs (i + 1) = ls ++ frameC c fs i) := ⟨by rw [framesC_succ, HLS.out]⟩
      go_upto_region 5 with (fail)
      obtain ⟨v3, ev⟩ : ∃ z, u3 = z := ⟨_, rfl⟩
      rw [ev] at HO HN ⊢
      clear ev
      have k0 := pw_cell_below HL.out.below HG0.out
      have k1 := pw_cell_below HL.out.below HG1.out
      have hln := HLN.out
      have hcl : (clausesTo c.f0.f0 ((i : Int) * sizeOf c) c.f0.f1 c.f0.f1.length).length ≤ 3000001 := by rw [clausesTo_len]; omega
      refine start_ (n := 13) (S := fun W => (W.cell? ⟨g, 0, none⟩ = some (.int .i64 c.f0.f0) ∧ W.cell? ⟨g, 1, none⟩ = some (.slice A c.f0.f1.length q)) ∧ Aside0 (Below w.heap.size w W)) (ds := []) #[false, false, false, false, false, false, false, false, false, false, false, false, false] (by kernel_rfl) rfl rfl ⟨⟨k0, k1⟩, ⟨HL.out.drew.below⟩⟩ (fun hHeld => ?_)
      have HL1 := am HL.out.drew
      have HO1 := am (Kd.R_below HO.out (below_drew (Below.refl _ _)))
      refine pu 0 12 ?_
      refine pu 1 13 ?_
      refine pu 2 14 ?_
      refine pu 3 15 ?_
      refine pu 4 16 ?_
      refine pu 6 18 ?_
      refine pu 7 19 ?_
      refine tk 5 17 hHeld ?_
      refine cl 8 20 48 (.agg #[.int .i64 ((i : Int) * sizeOf c)]) Try.func48 (fun we => Below wr.drew.heap.size wr.drew we) hHeld (KF.out _ HL1.out.below (i : Int) (by omega) (by omega)) (fun we hb => ⟨⟨pw_cell_below hb hHeld.1.1, pw_cell_below hb hHeld.1.2⟩, ⟨(HL1.out.step hb).below⟩⟩) ?_
      intro we1 hb1 hHeld1
      replace HL1 := am (HL1.out.step hb1)
      replace HO1 := am (Kd.R_below HO1.out hb1)
      refine pu 9 21 ?_
      refine clE 10 22 47 Try.func47 (fun v w' => Rr w' v (clausesTo c.f0.f0 ((i : Int) * sizeOf c) c.f0.f1 c.f0.f1.length) ∧ Below we1.heap.size we1 w') (KC.out _ HL1.out.below (i : Int) (by omega) (by omega)) (fun v we hb => ⟨⟨pw_cell_below hb.2 hHeld1.1.1, pw_cell_below hb.2 hHeld1.1.2⟩, ⟨(HL1.out.step hb.2).below⟩⟩) ?_
      rintro v22 we2 ⟨hr, hb2⟩ hHeld2
      replace HL1 := am (HL1.out.step hb2)
      replace HO1 := am (Kd.R_below HO1.out hb2)
      refine norm_ (a' := ?_) ?_ ?_
      rotate_left
      · simp only [Act.put, List.setIfInBounds_toArray, List.set_cons_zero, List.set_cons_succ]; rfl
      refine onapls 11 23 47 (.tmp 12) (.tmp 22) HL1 HO1 HN hr Try.underlying47 info66 (by omega) (fun w1 hL => ⟨⟨pw_cell_below hL.below HG0.out, pw_cell_below hL.below HG1.out⟩, ⟨hL.below⟩⟩) ?_
      intro v23 w5 HO3 HN3 HL3 _
      obtain ⟨lsa, ela⟩ : ∃ z, ls ++ clausesTo c.f0.f0 ((i : Int) * sizeOf c) c.f0.f1 c.f0.f1.length = z := ⟨_, rfl⟩
      have hla : lsa.length ≤ i * 5000001 + 3000001 := by rw [← ela, List.length_append]; omega
      rw [ela] at HO3
      have HEA := am ela
      have HLA := am hla
      clear hln hcl hla ela hr hb1 hb2 hHeld hHeld1 hHeld2 HL1 HO1 HL HO HN k0 k1
      refine norm_ (a' := ?_) ?_ ?_
      rotate_left
      · simp only [Act.put, List.setIfInBounds_toArray, List.set_cons_zero, List.set_cons_succ]; rfl
      refine pu 12 3 ?_
      refine done_ (by kernel_rfl) ?_
      by_cases h0 : i = 0
      · subst h0
        cases fs
        · have k6 := pw_cell_below HL3.out.below H6.out
          go_wp2_with (fail)
          go_roundw
          case rel => exact ⟨1, lsa, by go_num, by omega, HL3, HO3, HN3, ⟨by rw [HSU.out, ← HEA.out]; unfold frameC; simp⟩, ⟨by have := HLA.out; omega⟩⟩
          case measure => simp [intOf]; omega
        · have k6 := pw_cell_below HL3.out.below H6.out
          go_wp2_with (first
            | (go_at_call 50; refine (KI.out _ HL3.out.below).mono ?_; rintro e w7 ⟨v39, rfl, hr, _, hb⟩; obtain ⟨li, eli⟩ : ∃ z, c.f2.map initOf = z := ⟨_, rfl⟩; rw [eli] at hr; have HLI := am eli; clear eli; obtain ⟨B, n39, rfl⟩ := Kd.R_slice hr; replace HL3 := am (HL3.out.step hb); replace HO3 := am (Kd.R_below HO3.out hb); clear hb k6)
            | ((with_reducible refine zg 40 rfl ?_); refine zapls 47 (.tmp 37) (.tmp 39) HL3 HO3 HN3 hr Try.underlying47 info66 (by have := HLA.out; rw [← HLI.out, List.length_map]; omega) ?_; intro v9_ w10_ HO9 HN9 HL9 hg; clear hg HO3 HN3 HL3))
          go_roundw
          case rel => exact ⟨1, _, by go_num, by omega, HL9, HO9, HN9, ⟨by rw [HSU.out, ← HEA.out, ← HLI.out]; unfold frameC; simp⟩, ⟨by have := HLA.out; rw [List.length_append, ← HLI.out, List.length_map]; omega⟩⟩
          case measure => simp [intOf]; omega
      · have q0 : (0 : Int) < (i : Int) := by omega
        have e26 : decide ((0 : Int) < (i : Int)) = true := decide_eq_true q0
        go_wp2_with (first
          | (go_at_call 49; refine (KK.out _ HL3.out.below (i : Int) (by omega) (by omega)).mono ?_; rintro e w7 ⟨v30, rfl, hr, _, hb⟩; obtain ⟨li, eli⟩ : ∃ z, c.f2.flatMap (linkOf ((i : Int) * sizeOf c) (((i : Int) - 1) * sizeOf c)) = z := ⟨_, rfl⟩; rw [eli] at hr; have HLI := am eli; clear eli; obtain ⟨B, n30, rfl⟩ := Kd.R_slice hr; replace HL3 := am (HL3.out.step hb); replace HO3 := am (Kd.R_below HO3.out hb); clear hb)
          | ((with_reducible refine zg 31 rfl ?_); refine zapls 47 (.tmp 27) (.tmp 30) HL3 HO3 HN3 hr Try.underlying47 info66 (by have := HLA.out; rw [← HLI.out, links_len]; omega) ?_; intro v9_ w10_ HO9 HN9 HL9 hg; clear hg HO3 HN3 HL3))
        go_roundw
        case rel => exact ⟨i + 1, _, by go_num, by omega, HL9, HO9, HN9, ⟨by rw [HSU.out, ← HEA.out, ← HLI.out]; unfold frameC; rw [if_neg h0]; simp⟩, ⟨by have := HLA.out; rw [List.length_append, ← HLI.out, links_len]; omega⟩⟩
        case measure => simp [intOf]; omega
    · obtain rfl : i = k := by omega
      go_wp2
      go_ret
      refine ⟨_, rfl, ?_, HN.out, HL.out.below⟩
      rw [← HLS.out]
      exact HO.out
section
variable {P : Program} {ops : Array Oper} {rest : List Oper} {o : Oper} {a : Act} {Q : Exit → Act → World → Prop}
/-- A literal of one struct. -/
theorem zlk {α : Type} (d : Kd α) {w0 W : World} {L : List Bx} (N : Tmp) (e : Nat) (x : α) (inner : List Value) (HL : Aside0 (Led L w0 W)) (hM : d.M W w0.heap.size (fun _ => False) x inner) (hlen : inner.length = d.sz)
    (h : ∀ v1 w1, Aside0 (d.R e w1 w0.heap.size Any v1 [x]) → Aside0 (Led L w0 w1) → Below W.heap.size W w1 → wpList P ops Q rest (a.put o.dst v1) w1)
    (_hd : o.dst = some N := by rfl) (hgd : o.guard = none := by rfl)
    (hrun : (execOp a.eval o).run P W = .ok (.value (.slice (some ⟨W.heap.size, 0, none⟩) 1 1)) (W.alloc (.cells inner.toArray e)) := by first | (go_simp; done) | (go_simp; rfl)) : wpList P ops Q (o :: rest) a W :=
  Kd.R_lit d (w0 := w0) w0.heap.size e hgd (N := N) _hd (xs := [x]) (inner := inner) (ok := Any) (okp := fun _ => False) hrun (by
    have := Reps.snoc (Reps.none (d.M W w0.heap.size (fun _ => False)) d.sz) hM hlen
    simpa using this) (fun _ h => h.elim) trivial HL.out.below HL.out.below.size (by simp) (fun v1 w1 h1 _ hg _ => h v1 w1 ⟨h1⟩ ⟨HL.out.step (below_none hg)⟩ (below_none hg))
end
def turnsC : S35 := ⟨⟨1, []⟩, [], [⟨1, 3, true, 0, 0⟩], [⟨10, 3, 0⟩]⟩
def RetCirc (c : S35) (w : World) (e : Ending) (w' : World) : Prop := ∃ cs : List Value, e = .returned (.agg cs.toArray) ∧ k35.K w' c cs ∧ Below w.heap.size w w'
set_option maxHeartbeats 8000000 in
theorem turns_any (w : World) : Calls Try.prog 38 #[] w (RetCirc turnsC w) := by
  have HL : Aside0 (Led [] w w) := ⟨Led.nil w⟩
  have hu35 := Try.underlying35
  go_enter Try.func38, Try.ntmps38
  go_wp2_with (first
    | ((with_reducible refine zg 0 rfl ?_); refine zx 0 [.int .i64 0, .slice none 0 0, .slice none 0 0, .slice none 0 0, .slice none 0 0] 35 HL ?_; clear HL; intro g0 w1_ HL hb; clear hb)
    | ((with_reducible refine zg 3 rfl ?_); refine zlk k84 3 84 ⟨1, 3, true, 0, 0⟩ [.int .i64 1, .int .i64 3, .bool true, .int .i64 0, .int .i64 0] HL (k84_mkM _ _ _ ⟨1, 3, true, 0, 0⟩) rfl ?_; clear HL; intro v3 w2_ HR1 HL hb; obtain ⟨A1, q1, rfl⟩ := Kd.R_slice HR1.out; clear hb)
    | ((with_reducible refine zg 5 rfl ?_); refine zlk k88 5 88 ⟨10, 3, 0⟩ [.int .i64 10, .int .i64 3, .int .i64 0] HL (k88_mkM _ _ _ ⟨10, 3, 0⟩) rfl ?_; clear HL; intro v5 w3_ HR2 HL hb; obtain ⟨A2, q2, rfl⟩ := Kd.R_slice HR2.out; replace HR1 := am (Kd.R_below HR1.out hb); clear hb)
    | ((with_reducible refine zst 35 (.tmp 0) (.tmp 6) rfl ?_); refine zs 0 0 35 (.tmp 0) (.tmp 6) [.int .i64 1, .slice none 0 0, .slice none 0 0, .slice A1 1 q1, .slice A2 1 q2] HL ?_; intro w4_ HLn hfar; replace HR1 := am (RfarG HR1.out HL.out 0 rfl hfar); replace HR2 := am (RfarG HR2.out HL.out 0 rfl hfar); replace HL := HLn; clear HLn hfar))
  refine bodyPost_ret (results_cell_row rfl _ _ g0 35 #[.int .i64 1, .slice none 0 0, .slice none 0 0, .slice A1 1 q1, .slice A2 1 q2] (0, 0) _ rfl (HL.out.get 0 rfl) Try.underlying35 rfl (by kernel_rfl)) rfl ?_
  exact ⟨_, rfl, k35.K_of_M (k35_mkM _ 0 Any turnsC (Kd.R_nil _ _ _ _ _) (Kd.R_nil _ _ _ _ _) (Kd.R_lower HR1.out (Nat.zero_le _)) (Kd.R_lower HR2.out (Nat.zero_le _))), HL.out.below⟩
set_option maxHeartbeats 4000000 in
theorem some_any (m : Int) (w : World) (h0 : 0 ≤ m) (h1 : m ≤ 255) : Calls Try.prog 14 #[.int .u8 m] w (fun e w' => e = .returned (.int .i64 (m % 5)) ∧ w' = w) := by
  go_enter Try.func14, Try.ntmps14
  go_wp2
  go_ret
  refine ⟨?_, rfl⟩
  first | rfl | (simp [Int.tmod_eq_emod_of_nonneg h0]; done) | (rw [Int.tmod_eq_emod_of_nonneg h0])
section
variable {P : Program} {ops : Array Oper} {rest : List Oper} {o : Oper} {a : Act} {Q : Exit → Act → World → Prop}
/-- A literal of some structs. -/
theorem zlks {α : Type} (d : Kd α) {w0 W : World} {L : List Bx} (N : Tmp) (e n : Nat) (xs : List α) (inner : List Value) (HL : Aside0 (Led L w0 W)) (hrep : ∀ W', Reps (d.M W' w0.heap.size (fun _ => False)) d.sz xs inner) (hn : xs.length = n) (hn2 : n ≤ 100)
    (h : ∀ v1 w1, Aside0 (d.R e w1 w0.heap.size Any v1 xs) → Aside0 (Led L w0 w1) → Below W.heap.size W w1 → wpList P ops Q rest (a.put o.dst v1) w1)
    (_hd : o.dst = some N := by rfl) (hgd : o.guard = none := by rfl)
    (hrun : (execOp a.eval o).run P W = .ok (.value (.slice (some ⟨W.heap.size, 0, none⟩) n n)) (W.alloc (.cells inner.toArray e)) := by first | (go_simp; done) | (go_simp; rfl)) : wpList P ops Q (o :: rest) a W := by
  subst hn
  exact Kd.R_lit d (w0 := w0) w0.heap.size e hgd (N := N) _hd (xs := xs) (inner := inner) (ok := Any) (okp := fun _ => False) hrun (hrep W) (fun _ h => h.elim) trivial HL.out.below HL.out.below.size (by omega) (fun v1 w1 h1 _ hg _ => h v1 w1 ⟨h1⟩ ⟨HL.out.step (below_none hg)⟩ (below_none hg))
end
def someC : S35 := ⟨⟨4, [⟨4, 9⟩, ⟨3, 5⟩]⟩, [⟨1, 0, 0⟩], [⟨2, 2, true, 0, 0⟩, ⟨3, 7, false, 1, 0⟩, ⟨4, 0, false, 2, 0⟩], [⟨8, 10, 0⟩, ⟨10, 6, 1⟩, ⟨9, 13, 2⟩]⟩
set_option maxHeartbeats 16000000 in
set_option maxRecDepth 100000 in
theorem Some_any (w : World) : Calls Try.prog 39 #[] w (RetCirc someC w) := by
  have HL : Aside0 (Led [] w w) := ⟨Led.nil w⟩
  have hu35 := Try.underlying35
  go_enter Try.func39, Try.ntmps39
  go_wp2_with (first
    | ((with_reducible refine zg 0 rfl ?_); refine zx 0 [.int .i64 0, .slice none 0 0, .slice none 0 0, .slice none 0 0, .slice none 0 0] 35 HL ?_; clear HL; intro g0 w1_ HL hb; clear hb)
    | ((with_reducible refine zg 3 rfl ?_); refine zlks k117 3 117 2 [⟨4, 9⟩, ⟨3, 5⟩] [.int .i64 4, .int .i64 9, .int .i64 3, .int .i64 5] HL (fun W' => by have := Reps.snoc (Reps.snoc (Reps.none (k117.M W' w.heap.size (fun _ => False)) k117.sz) (k117_mkM W' _ _ ⟨4, 9⟩) rfl) (k117_mkM W' _ _ ⟨3, 5⟩) rfl; simpa using this) rfl (by decide) ?_; clear HL; intro v3 w3_ H1 HL hb; obtain ⟨AH1, qH1, rfl⟩ := Kd.R_slice H1.out; clear hb)
    | ((with_reducible refine zg 6 rfl ?_); refine zlks k80 6 80 1 [⟨1, 0, 0⟩] [.int .i64 1, .int .i64 0, .int .i64 0] HL (fun W' => by have := Reps.snoc (Reps.none (k80.M W' w.heap.size (fun _ => False)) k80.sz) (k80_mkM W' _ _ ⟨1, 0, 0⟩) rfl; simpa using this) rfl (by decide) ?_; clear HL; intro v6 w6_ H2 HL hb; obtain ⟨AH2, qH2, rfl⟩ := Kd.R_slice H2.out; replace H1 := am (Kd.R_below H1.out hb); clear hb)
    | ((with_reducible refine zg 10 rfl ?_); refine zlks k84 10 84 3 [⟨2, 2, true, 0, 0⟩, ⟨3, 7, false, 1, 0⟩, ⟨4, 0, false, 2, 0⟩] [.int .i64 2, .int .i64 2, .bool true, .int .i64 0, .int .i64 0, .int .i64 3, .int .i64 7, .bool false, .int .i64 1, .int .i64 0, .int .i64 4, .int .i64 0, .bool false, .int .i64 2, .int .i64 0] HL (fun W' => by have := Reps.snoc (Reps.snoc (Reps.snoc (Reps.none (k84.M W' w.heap.size (fun _ => False)) k84.sz) (k84_mkM W' _ _ ⟨2, 2, true, 0, 0⟩) rfl) (k84_mkM W' _ _ ⟨3, 7, false, 1, 0⟩) rfl) (k84_mkM W' _ _ ⟨4, 0, false, 2, 0⟩) rfl; simpa using this) rfl (by decide) ?_; clear HL; intro v10 w10_ H3 HL hb; obtain ⟨AH3, qH3, rfl⟩ := Kd.R_slice H3.out; replace H1 := am (Kd.R_below H1.out hb); replace H2 := am (Kd.R_below H2.out hb); clear hb)
    | ((with_reducible refine zg 14 rfl ?_); refine zlks k88 14 88 3 [⟨8, 10, 0⟩, ⟨10, 6, 1⟩, ⟨9, 13, 2⟩] [.int .i64 8, .int .i64 10, .int .i64 0, .int .i64 10, .int .i64 6, .int .i64 1, .int .i64 9, .int .i64 13, .int .i64 2] HL (fun W' => by have := Reps.snoc (Reps.snoc (Reps.snoc (Reps.none (k88.M W' w.heap.size (fun _ => False)) k88.sz) (k88_mkM W' _ _ ⟨8, 10, 0⟩) rfl) (k88_mkM W' _ _ ⟨10, 6, 1⟩) rfl) (k88_mkM W' _ _ ⟨9, 13, 2⟩) rfl; simpa using this) rfl (by decide) ?_; clear HL; intro v14 w14_ H4 HL hb; obtain ⟨AH4, qH4, rfl⟩ := Kd.R_slice H4.out; replace H1 := am (Kd.R_below H1.out hb); replace H2 := am (Kd.R_below H2.out hb); replace H3 := am (Kd.R_below H3.out hb); clear hb)
    | ((with_reducible refine zst 35 (.tmp 0) (.tmp 15) rfl ?_); refine zs 0 0 35 (.tmp 0) (.tmp 15) [.int .i64 4, .slice AH1 2 qH1, .slice AH2 1 qH2, .slice AH3 3 qH3, .slice AH4 3 qH4] HL ?_; intro w4_ HLn hfar; replace H1 := am (RfarG H1.out HL.out 0 rfl hfar); replace H2 := am (RfarG H2.out HL.out 0 rfl hfar); replace H3 := am (RfarG H3.out HL.out 0 rfl hfar); replace H4 := am (RfarG H4.out HL.out 0 rfl hfar); replace HL := HLn; clear HLn hfar))
  refine bodyPost_ret (results_cell_row rfl _ _ g0 35 #[.int .i64 4, .slice AH1 2 qH1, .slice AH2 1 qH2, .slice AH3 3 qH3, .slice AH4 3 qH4] (0, 0) _ rfl (HL.out.get 0 rfl) Try.underlying35 rfl (by kernel_rfl)) rfl ?_
  exact ⟨_, rfl, k35.K_of_M (k35_mkM _ 0 Any someC (Kd.R_lower H1.out (Nat.zero_le _)) (Kd.R_lower H2.out (Nat.zero_le _)) (Kd.R_lower H3.out (Nat.zero_le _)) (Kd.R_lower H4.out (Nat.zero_le _))), HL.out.below⟩
theorem CircOk.lat {c : S35} (h : CircOk c) : LatB c := fun x hx => by
  obtain ⟨j, hj, rfl⟩ := List.mem_iff_getElem.1 hx
  obtain ⟨h1, h2, h3⟩ := h.lats j hj
  have h4 := h.i1
  have h5 := h.ins
  have h6 := h.len
  omega
theorem CircOk.ins_ {c : S35} (h : CircOk c) : ∀ x ∈ c.f1, 0 ≤ x.f0 ∧ x.f0 ≤ 100000000000 := fun x hx => by
  obtain ⟨j, hj, rfl⟩ := List.mem_iff_getElem.1 hx
  have h1 := h.pins j hj
  have h4 := h.i1
  have h5 := h.ins
  omega
theorem CircOk.outs_ {c : S35} (h : CircOk c) : ∀ x ∈ c.f3, 0 ≤ x.f1 ∧ x.f1 ≤ 100000000000 := fun x hx => by
  obtain ⟨j, hj, rfl⟩ := List.mem_iff_getElem.1 hx
  obtain ⟨h2, h3⟩ := h.outs j hj
  have h4 := h.i1
  have h6 := h.len
  omega
set_option maxHeartbeats 16000000 in
set_option maxRecDepth 100000 in
theorem same_any (ls : List (List Int)) (A B : Option Addr) (c d : Nat) (w : World) (hA : kR.C w A ls.length ls) (hB : kR.C w B ls.length ls) :
    Calls Try.prog 16 #[.slice A ls.length c, .slice B ls.length d] w (RetB (fun b => b = true) w) := by
  have HA := am hA
  have HB := am hB
  have hm : ls.length ≤ 9223372036854775807 := hA.2.1
  clear hA hB
  go_enter Try.func16, Try.ntmps16
  go_wp2_with (fail)
  go_loopw [5] (fun v5 wr => ∃ i : Nat, v5 = .int .i64 (i : Int) ∧ i ≤ ls.length ∧ Aside0 (Below w.heap.size w wr)) (fun v _ => ls.length - (intOf v).toNat)
  case atStart => exact ⟨0, rfl, Nat.zero_le _, ⟨Below.refl _ _⟩⟩
  case round =>
    obtain ⟨i, rfl, hi, HW⟩ := hrel
    by_cases hlt : i < ls.length
    · obtain ⟨ad, A0, a0, rfl, h1, _, hC1⟩ := atS (Kd.C_below HA.out HW.out) i hlt
      obtain ⟨bd, B0, b0, rfl, h2, _, hC2⟩ := atS (Kd.C_below HB.out HW.out) i hlt
      obtain ⟨xs, hx⟩ : ∃ x, ls[i] = x := ⟨_, rfl⟩
      rw [hx] at h1 h2 hC1 hC2
      have q0 : (0 : Int) ≤ (i : Int) := by omega
      have q1 : (i : Int) < (ls.length : Int) := by omega
      have hm2 : xs.length ≤ 9223372036854775807 := hC1.2.1
      have HC1 := am hC1
      have HC2 := am hC2
      clear hC1 hC2 hx
      go_wp2_with (fail)
      go_quiet (fail)
      generalize hgw : World.drewN _ _ = wd
      have hbw : Below wr.heap.size wr wd := by rw [← hgw]; exact below_drewNq (Below.refl _ _) _
      have HW2 := am (below_step HW.out hbw)
      have HX1 := am (pw_cell_below hbw h1)
      have HX2 := am (pw_cell_below hbw h2)
      replace HC1 := am (Kd.C_below HC1.out hbw)
      replace HC2 := am (Kd.C_below HC2.out hbw)
      clear hgw hbw h1 h2 HW
      go_wp2_with (fail)
      go_loopw [6] (fun v6 wq => ∃ j : Nat, v6 = .int .i64 (j : Int) ∧ j ≤ xs.length ∧ Aside0 (Below wd.heap.size wd wq)) (fun v _ => xs.length - (intOf v).toNat)
      case atStart => exact ⟨0, rfl, Nat.zero_le _, ⟨Below.refl _ _⟩⟩
      case round =>
        obtain ⟨j, rfl, hj, HV⟩ := hrel
        have h1 := pw_cell_below HV.out HX1.out
        have h2 := pw_cell_below HV.out HX2.out
        by_cases hjt : j < xs.length
        · obtain ⟨pd, rfl, hp⟩ := atI (Kd.C_below HC1.out HV.out) j hjt
          obtain ⟨qd, rfl, hq⟩ := atI (Kd.C_below HC2.out HV.out) j hjt
          obtain ⟨x, hx⟩ : ∃ x, xs[j] = x := ⟨_, rfl⟩
          rw [hx] at hp hq
          have q2 : (0 : Int) ≤ (j : Int) := by omega
          have q3 : (j : Int) < (xs.length : Int) := by omega
          clear hx
          go_wp2_with (fail)
          go_quiet (fail)
          go_wp2
          go_roundw
          case rel => exact ⟨j + 1, by go_num, by omega, ⟨below_drewNq HV.out _⟩⟩
          case measure => simp [intOf]; omega
        · obtain rfl : j = xs.length := by omega
          go_wp2
          go_roundw
          case rel => exact ⟨i + 1, by go_num, by omega, ⟨below_step HW2.out HV.out⟩⟩
          case measure => simp [intOf]; omega
    · obtain rfl : i = ls.length := by omega
      go_wp2
      go_ret
      exact ⟨_, rfl, rfl, HW.out⟩
abbrev kB : Kd (List Bool) := Kd.slice 4 Kd.bool
theorem atSB {w : World} {A : Option Addr} {l : List (List Bool)} (h : kB.C w A l.length l) (i : Nat) (hi : i < l.length) : ∃ ad A0 c0, A = some ad ∧ w.cell? (ad.add i) = some (.slice A0 l[i].length c0) ∧ l[i].length ≤ c0 ∧ Kd.bool.C w A0 l[i].length l[i] := by
  obtain ⟨ad, c, e, _, hK, hc⟩ := Kd.C_get h [] (i : Int) (by omega) (by omega)
  obtain ⟨A0, c0, rfl, h1, h2⟩ := hK
  have e2 : l.getD (i : Int).toNat [] = l[i] := by simp [List.getD_eq_getElem?_getD, hi]
  rw [e2] at h1 h2 hc
  refine ⟨ad, A0, c0, e, ?_, h1, h2⟩
  have : w.cell? (ad.add ((i : Int).toNat * 1 + 0)) = some (.slice A0 l[i].length c0) := hc 0 _ rfl
  simpa using this
theorem atB {w : World} {A : Option Addr} {l : List Bool} (h : Kd.bool.C w A l.length l) (i : Nat) (hi : i < l.length) : ∃ ad, A = some ad ∧ w.cell? (ad.add i) = some (.bool l[i]) := by
  obtain ⟨ad, c, e, _, hK, hc⟩ := Kd.C_get h false (i : Int) (by omega) (by omega)
  have e2 : l.getD (i : Int).toNat false = l[i] := by simp [List.getD_eq_getElem?_getD, hi]
  rw [e2] at hK
  obtain rfl : c = [.bool l[i]] := hK
  refine ⟨ad, e, ?_⟩
  have : w.cell? (ad.add ((i : Int).toNat * 1 + 0)) = some (.bool l[i]) := hc 0 _ rfl
  simpa using this
set_option maxHeartbeats 16000000 in
set_option maxRecDepth 100000 in
theorem sameB_any (ls : List (List Bool)) (A B : Option Addr) (c d : Nat) (w : World) (hA : kB.C w A ls.length ls) (hB : kB.C w B ls.length ls) :
    Calls Try.prog 27 #[.slice A ls.length c, .slice B ls.length d] w (RetB (fun b => b = true) w) := by
  have HA := am hA
  have HB := am hB
  have hm : ls.length ≤ 9223372036854775807 := hA.2.1
  clear hA hB
  go_enter Try.func27, Try.ntmps27
  go_wp2_with (fail)
  go_loopw [5] (fun v5 wr => ∃ i : Nat, v5 = .int .i64 (i : Int) ∧ i ≤ ls.length ∧ Aside0 (Below w.heap.size w wr)) (fun v _ => ls.length - (intOf v).toNat)
  case atStart => exact ⟨0, rfl, Nat.zero_le _, ⟨Below.refl _ _⟩⟩
  case round =>
    obtain ⟨i, rfl, hi, HW⟩ := hrel
    by_cases hlt : i < ls.length
    · obtain ⟨ad, A0, a0, rfl, h1, _, hC1⟩ := atSB (Kd.C_below HA.out HW.out) i hlt
      obtain ⟨bd, B0, b0, rfl, h2, _, hC2⟩ := atSB (Kd.C_below HB.out HW.out) i hlt
      obtain ⟨xs, hx⟩ : ∃ x, ls[i] = x := ⟨_, rfl⟩
      rw [hx] at h1 h2 hC1 hC2
      have q0 : (0 : Int) ≤ (i : Int) := by omega
      have q1 : (i : Int) < (ls.length : Int) := by omega
      have hm2 : xs.length ≤ 9223372036854775807 := hC1.2.1
      have HC1 := am hC1
      have HC2 := am hC2
      clear hC1 hC2 hx
      go_wp2_with (fail)
      go_quiet (fail)
      generalize hgw : World.drewN _ _ = wd
      have hbw : Below wr.heap.size wr wd := by rw [← hgw]; exact below_drewNq (Below.refl _ _) _
      have HW2 := am (below_step HW.out hbw)
      have HX1 := am (pw_cell_below hbw h1)
      have HX2 := am (pw_cell_below hbw h2)
      replace HC1 := am (Kd.C_below HC1.out hbw)
      replace HC2 := am (Kd.C_below HC2.out hbw)
      clear hgw hbw h1 h2 HW
      go_wp2_with (fail)
      go_loopw [6] (fun v6 wq => ∃ j : Nat, v6 = .int .i64 (j : Int) ∧ j ≤ xs.length ∧ Aside0 (Below wd.heap.size wd wq)) (fun v _ => xs.length - (intOf v).toNat)
      case atStart => exact ⟨0, rfl, Nat.zero_le _, ⟨Below.refl _ _⟩⟩
      case round =>
        obtain ⟨j, rfl, hj, HV⟩ := hrel
        have h1 := pw_cell_below HV.out HX1.out
        have h2 := pw_cell_below HV.out HX2.out
        by_cases hjt : j < xs.length
        · obtain ⟨pd, rfl, hp⟩ := atB (Kd.C_below HC1.out HV.out) j hjt
          obtain ⟨qd, rfl, hq⟩ := atB (Kd.C_below HC2.out HV.out) j hjt
          obtain ⟨x, hx⟩ : ∃ x, xs[j] = x := ⟨_, rfl⟩
          rw [hx] at hp hq
          have q2 : (0 : Int) ≤ (j : Int) := by omega
          have q3 : (j : Int) < (xs.length : Int) := by omega
          clear hx
          go_wp2_with (fail)
          go_quiet (fail)
          go_wp2
          go_roundw
          case rel => exact ⟨j + 1, by go_num, by omega, ⟨below_drewNq HV.out _⟩⟩
          case measure => simp [intOf]; omega
        · obtain rfl : j = xs.length := by omega
          go_wp2
          go_roundw
          case rel => exact ⟨i + 1, by go_num, by omega, ⟨below_step HW2.out HV.out⟩⟩
          case measure => simp [intOf]; omega
    · obtain rfl : i = ls.length := by omega
      go_wp2
      go_ret
      exact ⟨_, rfl, rfl, HW.out⟩
theorem litOf_even (off x : Int) : litOf off (2 * x) = off + 1 + x := by
  unfold litOf
  rw [show 2 * x / 2 = x by omega, show 2 * x % 2 = 0 by omega]; omega
/-- How many variables a frame has. -/
def szN (c : S35) : Nat := 1 + c.f1.length + c.f2.length + c.f0.f1.length
theorem CircOk.szN {c : S35} (h : CircOk c) : sizeOf c = (szN c : Int) := by
  have := h.ins; unfold sizeOf U.szN; omega
def pos (c : S35) (i : Nat) : Nat := if i < c.f2.length then c.f1.length + i + 1 else i - c.f2.length + 1
def varA (c : S35) (a i : Nat) : Nat := a * szN c + 1 + pos c i
theorem atL_get {k : Nat} {sz : Int} {l : List Int} {a i : Nat} (ha : a < k) (hi : i < l.length) : atL k sz l (a : Int) (i : Int) = litOf ((a : Int) * sz) l[i] := by
  unfold atL
  rw [if_pos ⟨by omega, by omega, by omega, by omega⟩, Int.toNat_natCast, List.getD_eq_getElem?_getD, List.getElem?_eq_getElem hi, Option.getD_some]
theorem latch_var {c : S35} (h : CircOk c) {k a i : Nat} (ha : a < k) (hi : i < c.f2.length) : atL k (sizeOf c) (c.f2.map (fun x => 2 * x.f0)) (a : Int) (i : Int) = (varA c a i : Int) := by
  rw [atL_get ha (by rw [List.length_map]; exact hi), List.getElem_map, litOf_even, h.szN, (h.lats i hi).1]
  unfold varA pos
  rw [if_pos hi]; simp only [Int.natCast_add, Int.natCast_mul]; omega
theorem in_var {c : S35} (h : CircOk c) {k a i : Nat} (ha : a < k) (h1 : c.f2.length ≤ i) (h2 : i < c.f2.length + c.f1.length) : atL k (sizeOf c) (c.f1.map (fun x => 2 * x.f0)) (a : Int) ((i - c.f2.length : Nat) : Int) = (varA c a i : Int) := by
  rw [atL_get ha (by rw [List.length_map]; omega), List.getElem_map, litOf_even, h.szN, h.pins _ (by omega)]
  unfold varA pos
  rw [if_neg (by omega)]; simp only [Int.natCast_add, Int.natCast_mul]; omega
theorem pos_bnd (c : S35) (i : Nat) (h : i < c.f2.length + c.f1.length) : 1 ≤ pos c i ∧ pos c i < szN c := by
  unfold pos szN; split <;> omega
theorem mul_eq_of {a b S r q : Nat} (hr : r < S) (hq : q < S) (h : a * S + r = b * S + q) : a = b ∧ r = q := by
  have h1 : (a * S + r) / S = (b * S + q) / S := by rw [h]
  rw [Nat.mul_comm a, Nat.mul_comm b, Nat.mul_add_div (by omega), Nat.mul_add_div (by omega), Nat.div_eq_of_lt hr, Nat.div_eq_of_lt hq] at h1
  have : a = b := by omega
  subst this; omega
theorem varA_inj {c : S35} {a b i j : Nat} (hi : i < c.f2.length + c.f1.length) (hj : j < c.f2.length + c.f1.length) (h : varA c a i = varA c b j) : a = b ∧ i = j := by
  obtain ⟨h1, h2⟩ := pos_bnd c i hi
  obtain ⟨h3, h4⟩ := pos_bnd c j hj
  unfold varA at h
  obtain ⟨e, e2⟩ := mul_eq_of h2 h4 (by omega : a * szN c + pos c i = b * szN c + pos c j)
  refine ⟨e, ?_⟩
  unfold pos at e2
  split at e2 <;> split at e2 <;> omega
theorem varA_bnd {c : S35} {k a i : Nat} (ha : a < k) (hi : i < c.f2.length + c.f1.length) : 1 ≤ varA c a i ∧ varA c a i ≤ k * szN c := by
  obtain ⟨h1, h2⟩ := pos_bnd c i hi
  have h3 : (a + 1) * szN c ≤ k * szN c := Nat.mul_le_mul_right _ ha
  rw [Nat.add_mul] at h3
  unfold varA; omega
/-- What has been met so far. -/
def Seen (c : S35) (ms : List Bool) (a i : Nat) : Prop := ∀ v : Nat, ms.getD v false = true → ∃ a' i', i' < c.f2.length + c.f1.length ∧ (a' < a ∨ a' = a ∧ i' < i) ∧ v = varA c a' i'
theorem Seen.none (c : S35) (n : Nat) : Seen c (List.replicate n false) 0 0 := fun v hv => by
  rw [List.getD_eq_getElem?_getD, List.getElem?_replicate] at hv
  split at hv <;> simp at hv
theorem Seen.not {c : S35} {ms : List Bool} {a i : Nat} (h : Seen c ms a i) (hi : i < c.f2.length + c.f1.length) : ms.getD (varA c a i) false = false := by
  rcases hb : ms.getD (varA c a i) false with _ | _
  · rfl
  · obtain ⟨a', i', h1, h2, h3⟩ := h _ hb
    obtain ⟨e1, e2⟩ := varA_inj hi h1 h3
    omega
theorem Seen.step {c : S35} {ms : List Bool} {a i : Nat} (h : Seen c ms a i) (hi : i < c.f2.length + c.f1.length) : Seen c (ms.set (varA c a i) true) a (i + 1) := fun v hv => by
  by_cases e : v = varA c a i
  · exact ⟨a, i, hi, .inr ⟨rfl, by omega⟩, e⟩
  · rw [List.getD_eq_getElem?_getD, List.getElem?_set_ne (fun h => e h.symm), ← List.getD_eq_getElem?_getD] at hv
    obtain ⟨a', i', h1, h2, h3⟩ := h v hv
    exact ⟨a', i', h1, by omega, h3⟩
theorem Seen.next {c : S35} {ms : List Bool} {a i : Nat} (h : Seen c ms a i) : Seen c ms (a + 1) 0 := fun v hv => by
  obtain ⟨a', i', h1, h2, h3⟩ := h v hv
  exact ⟨a', i', h1, by omega, h3⟩
theorem clausesTo_len_ (c : S35) (off : Int) : (clausesTo c.f0.f0 off c.f0.f1 c.f0.f1.length).length = 1 + 3 * c.f0.f1.length := clausesTo_len _ _ _ _
theorem frames_take (c : S35) (fs : Bool) : ∀ {m k : Nat}, m ≤ k → ∃ r, framesC c fs k = framesC c fs m ++ r := by
  intro m k h
  obtain ⟨d, rfl⟩ : ∃ d, k = m + d := ⟨k - m, by omega⟩
  induction d with
  | zero => exact ⟨[], by simp⟩
  | succ d ih =>
    obtain ⟨r, hr⟩ := ih (by omega)
    exact ⟨r ++ frameC c fs (m + d), by rw [show m + (d + 1) = (m + d) + 1 by omega, framesC_succ, hr, List.append_assoc]⟩
theorem frames_first (c : S35) : ∀ (k : Nat), (framesC c true k).length = (framesC c false k).length + (if k = 0 then 0 else c.f2.length)
  | 0 => rfl
  | k + 1 => by
    have ih := frames_first c k
    rw [framesC_succ, framesC_succ, List.length_append, List.length_append, ih, if_neg (by omega : ¬ k + 1 = 0)]
    unfold frameC
    by_cases hk : k = 0
    · subst hk
      simp only [if_pos]
      simp [List.length_append, List.length_map]; omega
    · rw [if_neg hk, if_neg hk, if_neg hk]; omega
theorem frames_len (c : S35) (fs : Bool) : ∀ (k : Nat), (framesC c fs k).length ≤ k * (1 + 3 * c.f0.f1.length + 2 * c.f2.length)
  | 0 => by simp [framesC]
  | k + 1 => by
    have ih := frames_len c fs k
    rw [framesC_succ, List.length_append, Nat.add_mul, Nat.one_mul]
    have : (frameC c fs k).length ≤ 1 + 3 * c.f0.f1.length + 2 * c.f2.length := by
      unfold frameC
      rw [List.length_append, clausesTo_len]
      by_cases hk : k = 0
      · rw [if_pos hk]
        cases fs
        · simp
        · simp; omega
      · rw [if_neg hk, links_len]; exact Nat.le_refl _
    omega
theorem atL_less {k m : Nat} {sz : Int} {l : List Int} {a i : Int} (h : a < m) (hm : m ≤ k) : atL k sz l a i = atL m sz l a i := by
  unfold atL
  by_cases h1 : 0 ≤ a ∧ a < m ∧ 0 ≤ i ∧ i < l.length
  · rw [if_pos h1, if_pos ⟨h1.1, by omega, h1.2.2⟩]
  · rw [if_neg h1, if_neg (by omega)]
abbrev Rb (w : World) (b : Nat) (v : Value) (xs : List Bool) : Prop := Kd.bool.R 4 w b Any v xs
abbrev RrB (w : World) (v : Value) (ls : List (List Bool)) : Prop := kB.R 36 w 0 Any v ls
theorem info4 : (Try.prog.info? 4).map (fun i => (i.zero, i.size, i.bytes)) = some (some (.bool false), 1, 1) := by kernel_rfl
theorem info36 : (Try.prog.info? 36).map (fun i => (i.zero, i.size, i.bytes)) = some (some (.slice none 0 0), 1, 24) := by kernel_rfl
theorem inner_okB {w : World} {v vi : Value} {ls : List (List Bool)} {ys : List Bool} (hO : RrB w v ls) (hi : Rb w 0 vi ys) : kB.M w 0 (fun k => some k ≠ v.ownBlock) ys [vi] :=
  ⟨vi, rfl, Kd.R_mono (Kd.R_bound hi) (fun k hk he => by
    obtain ⟨_, _, _, q, hq, cells, hc⟩ := hk
    obtain ⟨_, inner, ho, _⟩ := hO
    obtain ⟨cells', hc'⟩ := own_typed ho k he.symm
    rw [hc] at hc'
    injection hc' with hc'
    injection hc' with _ hc'
    rw [List.mem_singleton.1 (show q ∈ [4] from hq)] at hc'
    exact absurd hc' (by decide))⟩
theorem rowCB {w : World} {A : Option Addr} {c : Nat} {ls : List (List Bool)} (h : RrB w (.slice A ls.length c) ls) : kB.C w A ls.length ls := (Kd.R_reads' h).2.2
theorem rowB {w : World} {b : Nat} {A : Option Addr} {c : Nat} {l : List Bool} (h : Rb w b (.slice A l.length c) l) : Kd.bool.C w A l.length l := (Kd.R_reads' h).2.2
section
variable {P : Program} {ops : Array Oper} {rest : List Oper} {o : Oper} {a : Act} {Q : Exit → Act → World → Prop}
theorem zaprB {w0 W : World} {L : List Bx} (s x : Operand) {z : Value} {v vi : Value} {ls : List (List Bool)} {ys : List Bool}
    (HL : Aside0 (Led L w0 W)) (HO : Aside0 (RrB W v ls)) (HN : Aside0 (Own w0 v)) (hi : Rb W 0 vi ys) (ht : P.underlying 52 = some (.slice 36)) (hinfo : (P.info? 36).map (fun i => (i.zero, i.size, i.bytes)) = some (some z, 1, 24)) (hl : ls.length ≤ 100000000)
    (h : ∀ v1 w1, Aside0 (RrB w1 v1 (ls ++ [ys])) → Aside0 (Own w0 v1) → Aside0 (Led L w0 w1) → W.grownBy w1 v.ownBlock → wpList P ops Q rest (a.put o.dst v1) w1)
    (hne : ∀ b, b ∈ L → 36 ≠ b.2.2 := by simp) (ho : o.op = .call { callee := .builtin .append, args := #[s, x], argTypes := #[52, 52] } := by rfl) (hgd : o.guard = none := by rfl)
    (hz : z.cells.size = 1 := by rfl) (hs : a.eval s = v := by rfl) (hx : a.eval x = .slice (some ⟨W.heap.size, 0, none⟩) 1 1 := by rfl) :
    wpList P ops Q (o :: rest) a (W.alloc (.cells #[vi] 36)) :=
  Kd.R_append kB (w0 := W) 0 hgd s x 52 36 z 24 ho ht hinfo hz (by decide) (by decide) v ls ys [vi] Any _ hs hx (inner_okB HO.out hi) (fun k hk => ⟨trivial, hk⟩) (fun _ _ => trivial) HO.out ⟨rfl, rfl, rfl, Nat.le_refl _, fun _ _ => rfl⟩ (Nat.zero_le _) (by omega)
    (fun v1 w1 h1 _ hg hat => h v1 w1 ⟨h1⟩ ⟨fun k hk => by
      rcases hat with e | ⟨b, e, hb⟩
      · exact HN.out k (e ▸ hk)
      · rw [e] at hk; injection hk with hk; subst hk; exact Nat.le_trans HL.out.below.size hb⟩
      ⟨HL.out.grown HO.out hg (pw_below_grown HL.out.below _ HL.out.below.size hg HN.out) hne⟩ hg)
end
/-- What a model says of a variable. -/
def insB (model : List Bool) (v : Int) : Bool := decide (v ≤ model.length) && model.getD (v - 1).toNat false
def insRow (c : S35) (model : List Bool) (a : Nat) : List Bool := c.f1.map (fun x => insB model (litOf (a * sizeOf c) (2 * x.f0)))
def insC (c : S35) (k : Nat) (model : List Bool) : List (List Bool) := (List.range k).map (insRow c model)
/-- Rows of bools are handed back. -/
def RetLB (ls : List (List Bool)) (w : World) (e : Ending) (w' : World) : Prop := ∃ v, e = .returned v ∧ RrB w' v ls ∧ Own w v ∧ Below w.heap.size w w'
set_option maxHeartbeats 32000000 in
set_option maxRecDepth 100000 in
theorem ins_any (c : S35) (g k : Nat) (fs : Bool) (model : List Bool) (B : Option Addr) (cb : Nat) (w : World) (h : Fr w g c k fs) (hm : Kd.bool.C w B model.length model) (hk : k ≤ 10) (h2 : 0 ≤ sizeOf c) (h3 : sizeOf c ≤ 1000000000) (hx : ∀ x ∈ c.f1, 0 ≤ x.f0 ∧ x.f0 ≤ 100000000000) (hl : c.f1.length ≤ 1000000000) :
    Calls Try.prog 28 #[.pointer (some ⟨g, 0, none⟩), .slice B model.length cb] w (RetLB (insC c k model) w) := by
  have KI := am (fun W (hb : Below w.heap.size w W) (a i : Int) => in__any c g k fs a i W (h.below hb) (by omega) h2 h3 hx)
  obtain ⟨_, hk5, _⟩ := h.size
  obtain ⟨A, q, hs, hC⟩ := h.f1
  have hm1 : c.f1.length ≤ 9223372036854775807 := hC.2.1
  have hm2 : model.length ≤ 9223372036854775807 := hm.2.1
  have HS := am hs
  have HM := am hm
  have HX := am hx
  have HL : Aside0 (Led [] w w) := ⟨Led.nil w⟩
  clear h hs hC hm hx
  go_enter Try.func28, Try.ntmps28
  go_wp2_with (fail)
  clear hk5
  go_loopw [5, 14] (fun v5 v14 wr => ∃ (i : Nat) (ls : List (List Bool)), v14 = .int .i64 (i : Int) ∧ i ≤ k ∧ Aside0 (Led [] w wr) ∧ Aside0 (RrB wr v5 ls) ∧ Aside0 (Own w v5) ∧ Aside0 (ls = (List.range i).map (insRow c model))) (fun _ v _ => k - (intOf v).toNat)
  case atStart => exact ⟨0, [], rfl, Nat.zero_le _, HL, ⟨Kd.R_nil _ _ _ _ _⟩, ⟨fun k hk => by simp [Value.ownBlock] at hk⟩, ⟨rfl⟩⟩
  case round =>
    clear HL
    obtain ⟨i, ls, rfl, hi, HL, HO, HN, HLS⟩ := hrel
    by_cases hlt : i < k
    · have hs := pw_cell_below HL.out.below HS.out
      have HO1 : Aside0 (kB.R 36 wr 0 (NotRow (.slice none 0 0)) u5 ls) := ⟨Kd.R_mono HO.out (fun k _ => by simp [NotRow, Value.ownBlock])⟩
      have HSU : Aside0 ((List.range (i + 1)).map (insRow c model) = ls ++ [insRow c model i]) := ⟨by rw [List.range_succ, List.map_append, HLS.out]; rfl⟩
      have hln : ls.length ≤ 10 := by rw [HLS.out, List.length_map, List.length_range]; omega
      have HLN := am hln
      have q0 : (i : Int) < (k : Int) := by omega
      clear HO HLS hln
      go_wp2_with (fail)
      clear hs
      go_loopw [7, 23] (fun v7 v23 wq => ∃ (j : Nat) (ys : List Bool), v23 = .int .i64 (j : Int) ∧ j ≤ c.f1.length ∧ Aside0 (Led [] w wq) ∧ Aside0 (Rb wq w.heap.size v7 ys) ∧ Aside0 (kB.R 36 wq 0 (NotRow v7) u5 ls) ∧ Aside0 (ys = (insRow c model i).take j)) (fun _ v _ => c.f1.length - (intOf v).toNat)
      case atStart => exact ⟨0, [], rfl, Nat.zero_le _, HL, ⟨Kd.R_nil _ _ _ _ _⟩, HO1, ⟨by simp⟩⟩
      case round =>
        clear HL HO1
        obtain ⟨j, ys, rfl, hj, HL, HR, HO1, HYS⟩ := hrel
        by_cases hjt : j < c.f1.length
        · have hx0 := HX.out _ (List.getElem_mem hjt)
          have hv1 : atL k (sizeOf c) (c.f1.map (fun x => 2 * x.f0)) (i : Int) (j : Int) = litOf ((i : Int) * sizeOf c) (2 * c.f1[j].f0) := by
            rw [atL_get hlt (by rw [List.length_map]; exact hjt), List.getElem_map]
          have hp0 : 0 ≤ (i : Int) * sizeOf c := Int.mul_nonneg (by omega) h2
          have hp1 : (i : Int) * sizeOf c ≤ 100000000000 := by
            have h4 := Int.mul_le_mul (show (i : Int) ≤ 10 by omega) h3 h2 (by omega : (0 : Int) ≤ 10)
            omega
          obtain ⟨m, hmv⟩ : ∃ m : Nat, litOf ((i : Int) * sizeOf c) (2 * c.f1[j].f0) = (m : Int) + 1 := ⟨((i : Int) * sizeOf c + c.f1[j].f0).toNat, by rw [litOf_even]; omega⟩
          have hmb : (m : Int) ≤ 1000000000000 := by rw [litOf_even] at hmv; omega
          have hyl : ys.length ≤ j := by rw [HYS.out, List.length_take]; omega
          have HYL := am hyl
          have HSY : Aside0 ((insRow c model i).take (j + 1) = ys ++ [insB model ((m : Int) + 1)]) := ⟨by
            rw [List.take_succ_eq_append_getElem (by unfold insRow; rw [List.length_map]; exact hjt), HYS.out, ← hmv]
            congr 2
            unfold insRow
            rw [List.getElem_map]⟩
          have KI1 : Aside0 (∀ W, Below w.heap.size w W → Calls Try.prog 23 #[.pointer (some ⟨g, 0, none⟩), .int .i64 (i : Int), .int .i64 (j : Int)] W (RetV (.int .i64 ((m : Int) + 1)) W)) := ⟨fun W hb => by have := KI.out W hb (i : Int) (j : Int); rw [hv1, hmv] at this; exact this⟩
          have q1 : (j : Int) < (c.f1.length : Int) := by omega
          clear hx0 hv1 hp0 hp1 hmv hyl HYS
          by_cases hv : m < model.length
          · obtain ⟨bd, rfl, hp⟩ := atB HM.out m hv
            have HP := am hp
            have HB : Aside0 (insB model ((m : Int) + 1) = model[m]) := ⟨by
              unfold insB
              rw [decide_eq_true (by omega), Bool.true_and, show ((m : Int) + 1 - 1).toNat = m by omega, List.getD_eq_getElem?_getD, List.getElem?_eq_getElem hv]; rfl⟩
            obtain ⟨x, hx_⟩ : ∃ x, model[m] = x := ⟨_, rfl⟩
            rw [hx_] at HP HB
            have q2 : (0 : Int) ≤ (m : Int) := by omega
            have q3 : (m : Int) < (model.length : Int) := by omega
            have e34 : decide ((m : Int) + 1 ≤ (model.length : Int)) = true := decide_eq_true (by omega)
            clear hp hx_
            go_wp2_with (first
              | (go_at_call 23; refine (KI1.out _ HL.out.below).mono ?_; rintro e w3_ ⟨rfl, hb⟩; replace HL := am (HL.out.step hb); replace HR := am (Kd.R_below HR.out hb); replace HO1 := am (Kd.R_below HO1.out hb); clear hb; have hp := pw_cell_below HL.out.below HP.out)
              | ((with_reducible refine zg 43 rfl ?_); refine zap2 Kd.bool (.tmp 30) (.tmp 42) 36 4 x [.bool x] HL HR Try.underlying36 info4 rfl (by have := HYL.out; omega) ?_; intro v43 w4_ HR2 HL2 hg hat; have HO2 := am (R_beside HO1.out hg hat); clear hg hat HR HL HO1))
            go_roundw
            case rel => exact ⟨j + 1, _, by go_num, by omega, HL2, HR2, HO2, ⟨by rw [HSY.out, HB.out]⟩⟩
            case measure => simp [intOf]; omega
          · have HB : Aside0 (insB model ((m : Int) + 1) = false) := ⟨by
              unfold insB
              rw [decide_eq_false (by omega), Bool.false_and]⟩
            have e34 : decide ((m : Int) + 1 ≤ (model.length : Int)) = false := decide_eq_false (by omega)
            go_wp2_with (first
              | (go_at_call 23; refine (KI1.out _ HL.out.below).mono ?_; rintro e w3_ ⟨rfl, hb⟩; replace HL := am (HL.out.step hb); replace HR := am (Kd.R_below HR.out hb); replace HO1 := am (Kd.R_below HO1.out hb); clear hb)
              | ((with_reducible refine zg 43 rfl ?_); refine zap2 Kd.bool (.tmp 30) (.tmp 42) 36 4 false [.bool false] HL HR Try.underlying36 info4 rfl (by have := HYL.out; omega) ?_; intro v43 w4_ HR2 HL2 hg hat; have HO2 := am (R_beside HO1.out hg hat); clear hg hat HR HL HO1))
            go_roundw
            case rel => exact ⟨j + 1, _, by go_num, by omega, HL2, HR2, HO2, ⟨by rw [HSY.out, HB.out]⟩⟩
            case measure => simp [intOf]; omega
        · obtain rfl : j = c.f1.length := by omega
          obtain ⟨B7, q7, rfl⟩ := Kd.R_slice HR.out
          have HO : Aside0 (RrB _ u5 ls) := ⟨Kd.R_mono HO1.out (fun _ _ => trivial)⟩
          have HYE : Aside0 (ys = insRow c model i) := ⟨by rw [HYS.out, List.take_of_length_le (by unfold insRow; rw [List.length_map]; exact Nat.le_refl _)]⟩
          clear HO1 HYS
          go_wp2_with ((with_reducible refine zg 48 rfl ?_); refine zaprB (.tmp 45) (.tmp 47) HL HO HN (Kd.R_lower HR.out (Nat.zero_le _)) Try.underlying52 info36 (by have := HLN.out; omega) ?_; intro v48 w5_ HO2 HN2 HL2 hg; clear hg HO HN HL)
          go_roundw
          case rel => exact ⟨i + 1, _, by go_num, by omega, HL2, HO2, HN2, ⟨by rw [HSU.out, HYE.out]⟩⟩
          case measure => simp [intOf]; omega
    · obtain rfl : i = k := by omega
      go_wp2
      go_ret
      have h1 := HO.out
      rw [HLS.out] at h1
      exact ⟨_, rfl, h1, HN.out, HL.out.below⟩
theorem mR {W : World} {b : Nat} {v : Value} {ys : List Int} (h : Ri W b v ys) : kR.M W 0 Any ys [v] := ⟨v, rfl, Kd.R_lower h (Nat.zero_le _)⟩
theorem mB {W : World} {b : Nat} {v : Value} {ys : List Bool} (h : Rb W b v ys) : kB.M W 0 Any ys [v] := ⟨v, rfl, Kd.R_lower h (Nat.zero_le _)⟩
section
variable {P : Program} {ops : Array Oper} {rest : List Oper} {o : Oper} {a : Act} {Q : Exit → Act → World → Prop}
/-- An operation whose guard lets it be. -/
theorem zguard {W : World} (h : wpList P ops Q ({ o with guard := none } :: rest) a W) (hw : Region.wanted o (yielded ops a.tmps) = true := by kernel_rfl) : wpList P ops Q (o :: rest) a W := by
  unfold wpList at h ⊢
  rw [if_pos hw]
  rw [if_pos (by simp [Region.wanted])] at h
  exact h
/-- A literal of numbers: a slice is handed back. -/
theorem zln {w0 W : World} {L : List Bx} (N : Tmp) (n : Nat) (xs : List Int) (inner : List Value) (HL : Aside0 (Led L w0 W)) (hrep : ∀ W', Reps ((Kd.int .i64).M W' w0.heap.size (fun _ => False)) 1 xs inner) (hn : xs.length = n) (hn2 : n ≤ 100)
    (h : ∀ B q w1, Aside0 (Ri w1 w0.heap.size (.slice B n q) xs) → Aside0 (Led L w0 w1) → Below W.heap.size W w1 → wpList P ops Q rest (a.put (some N) (.slice B n q)) w1)
    (_hd : o.dst = some N := by rfl) (hgd : o.guard = none := by rfl)
    (hrun : (execOp a.eval o).run P W = .ok (.value (.slice (some ⟨W.heap.size, 0, none⟩) n n)) (W.alloc (.cells inner.toArray 3)) := by first | (go_simp; done) | (go_simp; rfl)) : wpList P ops Q (o :: rest) a W := by
  subst hn
  refine Kd.R_lit (Kd.int .i64) (w0 := w0) w0.heap.size 3 hgd (N := N) _hd (xs := xs) (inner := inner) (ok := Any) (okp := fun _ => False) hrun (hrep W) (fun _ h => h.elim) trivial HL.out.below HL.out.below.size (by omega) (fun v1 w1 h1 _ hg _ => ?_)
  obtain ⟨B, q, rfl⟩ := Kd.R_slice h1
  rw [_hd]
  exact h B q w1 ⟨h1⟩ ⟨HL.out.step (below_none hg)⟩ (below_none hg)
theorem zlnB {w0 W : World} {L : List Bx} (N : Tmp) (n : Nat) (xs : List Bool) (inner : List Value) (HL : Aside0 (Led L w0 W)) (hrep : ∀ W', Reps (Kd.bool.M W' w0.heap.size (fun _ => False)) 1 xs inner) (hn : xs.length = n) (hn2 : n ≤ 100)
    (h : ∀ B q w1, Aside0 (Rb w1 w0.heap.size (.slice B n q) xs) → Aside0 (Led L w0 w1) → Below W.heap.size W w1 → wpList P ops Q rest (a.put (some N) (.slice B n q)) w1)
    (_hd : o.dst = some N := by rfl) (hgd : o.guard = none := by rfl)
    (hrun : (execOp a.eval o).run P W = .ok (.value (.slice (some ⟨W.heap.size, 0, none⟩) n n)) (W.alloc (.cells inner.toArray 4)) := by first | (go_simp; done) | (go_simp; rfl)) : wpList P ops Q (o :: rest) a W := by
  subst hn
  refine Kd.R_lit Kd.bool (w0 := w0) w0.heap.size 4 hgd (N := N) _hd (xs := xs) (inner := inner) (ok := Any) (okp := fun _ => False) hrun (hrep W) (fun _ h => h.elim) trivial HL.out.below HL.out.below.size (by omega) (fun v1 w1 h1 _ hg _ => ?_)
  obtain ⟨B, q, rfl⟩ := Kd.R_slice h1
  rw [_hd]
  exact h B q w1 ⟨h1⟩ ⟨HL.out.step (below_none hg)⟩ (below_none hg)
theorem mI (W : World) (b : Nat) (x : Int) : (Kd.int .i64).M W b (fun _ => False) x [.int .i64 x] := rfl
theorem mBo (W : World) (b : Nat) (x : Bool) : Kd.bool.M W b (fun _ => False) x [.bool x] := rfl
theorem zlrs {W w0 : World} {L : List Bx} (N : Tmp) (n : Nat) (ls : List (List Int)) (inner : List Value) (HL : Aside0 (Led L w0 W)) (hrep : Reps (kR.M W 0 Any) 1 ls inner) (hn : ls.length = n) (hn2 : n ≤ 100)
    (h : ∀ B q w1, Aside0 (Rr w1 (.slice B n q) ls) → Aside0 (Led L w0 w1) → Below W.heap.size W w1 → wpList P ops Q rest (a.put (some N) (.slice B n q)) w1)
    (_hd : o.dst = some N := by rfl) (hgd : o.guard = none := by rfl)
    (hrun : (execOp a.eval o).run P W = .ok (.value (.slice (some ⟨W.heap.size, 0, none⟩) n n)) (W.alloc (.cells inner.toArray 66)) := by first | (go_simp; done) | (go_simp; rfl)) : wpList P ops Q (o :: rest) a W := by
  subst hn
  exact Kd.R_lit kR (w0 := W) 0 66 hgd (N := N) _hd (xs := ls) (inner := inner) (ok := Any) (okp := Any) hrun hrep (fun _ h => trivial) trivial ⟨rfl, rfl, rfl, Nat.le_refl _, fun _ _ => rfl⟩ (Nat.zero_le _) (by omega)
    (fun v1 w1 h1 _ hg _ => by
      obtain ⟨B, q, rfl⟩ := Kd.R_slice h1
      rw [_hd]
      exact h B q w1 ⟨h1⟩ ⟨HL.out.step (below_none hg)⟩ (below_none hg))
theorem zlrsB {W w0 : World} {L : List Bx} (N : Tmp) (n : Nat) (ls : List (List Bool)) (inner : List Value) (HL : Aside0 (Led L w0 W)) (hrep : Reps (kB.M W 0 Any) 1 ls inner) (hn : ls.length = n) (hn2 : n ≤ 100)
    (h : ∀ B q w1, Aside0 (RrB w1 (.slice B n q) ls) → Aside0 (Led L w0 w1) → Below W.heap.size W w1 → wpList P ops Q rest (a.put (some N) (.slice B n q)) w1)
    (_hd : o.dst = some N := by rfl) (hgd : o.guard = none := by rfl)
    (hrun : (execOp a.eval o).run P W = .ok (.value (.slice (some ⟨W.heap.size, 0, none⟩) n n)) (W.alloc (.cells inner.toArray 36)) := by first | (go_simp; done) | (go_simp; rfl)) : wpList P ops Q (o :: rest) a W := by
  subst hn
  exact Kd.R_lit kB (w0 := W) 0 36 hgd (N := N) _hd (xs := ls) (inner := inner) (ok := Any) (okp := Any) hrun hrep (fun _ h => trivial) trivial ⟨rfl, rfl, rfl, Nat.le_refl _, fun _ _ => rfl⟩ (Nat.zero_le _) (by omega)
    (fun v1 w1 h1 _ hg _ => by
      obtain ⟨B, q, rfl⟩ := Kd.R_slice h1
      rw [_hd]
      exact h B q w1 ⟨h1⟩ ⟨HL.out.step (below_none hg)⟩ (below_none hg))
end
theorem turns_frames : framesC turnsC true 2 = [[-1], [2], [-3], [-4, -2], [4, 2]] := by decide
theorem some_frames : framesC someC false 1 = [[-1], [-6, 3], [-6, -5], [6, -3, 5], [-7, -2], [-7, -3], [7, 2, 3]] := by decide
theorem turns_ok : OkA turnsC.f0.f0 turnsC.f0.f1 := fun i h => absurd h (by simp [turnsC])
theorem some_ok : OkA someC.f0.f0 someC.f0.f1 := fun i h => by
  have h2 : i < 2 := h
  rcases (by omega : i = 0 ∨ i = 1) with rfl | rfl <;> simp [Vld, someC]
theorem turns_lat : LatB turnsC := by unfold LatB; decide
theorem some_lat : LatB someC := by unfold LatB; decide
set_option maxHeartbeats 64000000 in
set_option maxRecDepth 100000 in
theorem head_any (w : World) : Calls Try.prog 9 #[] w (RetB (fun b => b = true) w) := by
  have HL : Aside0 (Led [] w w) := ⟨Led.nil w⟩
  have KN1 : Aside0 (∀ W cs, k35.K W turnsC cs → Calls Try.prog 13 #[.agg cs.toArray, .int .i64 2, .bool true] W (RetFr turnsC 2 true W)) := ⟨fun W cs h => new_any turnsC cs 2 true W h (by decide) (by decide) (by decide)⟩
  have KN2 : Aside0 (∀ W cs, k35.K W someC cs → Calls Try.prog 13 #[.agg cs.toArray, .int .i64 1, .bool false] W (RetFr someC 1 false W)) := ⟨fun W cs h => new_any someC cs 1 false W h (by decide) (by decide) (by decide)⟩
  have KC1 : Aside0 (∀ W g, Fr W g turnsC 2 true → Calls Try.prog 17 #[.pointer (some ⟨g, 0, none⟩)] W (RetLs [[-1], [2], [-3], [-4, -2], [4, 2]] W)) := ⟨fun W g hF => by have := frames_any turnsC g 2 true W hF turns_ok (by decide) (by decide) (by decide) turns_lat (by decide) (by decide); rw [turns_frames] at this; exact this⟩
  have KC2 : Aside0 (∀ W g, Fr W g someC 1 false → Calls Try.prog 17 #[.pointer (some ⟨g, 0, none⟩)] W (RetLs [[-1], [-6, 3], [-6, -5], [6, -3, 5], [-7, -2], [-7, -3], [7, 2, 3]] W)) := ⟨fun W g hF => by have := frames_any someC g 1 false W hF some_ok (by decide) (by decide) (by decide) some_lat (by decide) (by decide); rw [some_frames] at this; exact this⟩
  have KS1 : Aside0 (∀ W A B c d, kR.C W A 5 [[-1], [2], [-3], [-4, -2], [4, 2]] → kR.C W B 5 [[-1], [2], [-3], [-4, -2], [4, 2]] → Calls Try.prog 16 #[.slice A 5 c, .slice B 5 d] W (RetB (fun b => b = true) W)) := ⟨fun W A B c d h1 h2 => same_any [[-1], [2], [-3], [-4, -2], [4, 2]] A B c d W h1 h2⟩
  have KS2 : Aside0 (∀ W A B c d, kR.C W A 7 [[-1], [-6, 3], [-6, -5], [6, -3, 5], [-7, -2], [-7, -3], [7, 2, 3]] → kR.C W B 7 [[-1], [-6, 3], [-6, -5], [6, -3, 5], [-7, -2], [-7, -3], [7, 2, 3]] → Calls Try.prog 16 #[.slice A 7 c, .slice B 7 d] W (RetB (fun b => b = true) W)) := ⟨fun W A B c d h1 h2 => same_any [[-1], [-6, 3], [-6, -5], [6, -3, 5], [-7, -2], [-7, -3], [7, 2, 3]] A B c d W h1 h2⟩
  have KS3 : Aside0 (∀ W A B c d, kB.C W A 1 [[true]] → kB.C W B 1 [[true]] → Calls Try.prog 27 #[.slice A 1 c, .slice B 1 d] W (RetB (fun b => b = true) W)) := ⟨fun W A B c d h1 h2 => sameB_any [[true]] A B c d W h1 h2⟩
  have KV1 : Aside0 (∀ W g, Fr W g turnsC 2 true → Calls Try.prog 19 #[.pointer (some ⟨g, 0, none⟩)] W (RetV (.int .i64 4) W)) := ⟨fun W g hF => fvars_any turnsC g 2 true W hF (by decide) (by decide) (by decide)⟩
  have KL10 : Aside0 (∀ W g, Fr W g turnsC 2 true → Calls Try.prog 21 #[.pointer (some ⟨g, 0, none⟩), .int .i64 1, .int .i64 0] W (RetV (.int .i64 (4)) W)) := ⟨fun W g hF => latch_any turnsC g 2 true 1 0 W hF (by decide) (by decide) (by decide) (fun x hx => (turns_lat x hx).1)⟩
  have KL20 : Aside0 (∀ W g, Fr W g turnsC 2 true → Calls Try.prog 21 #[.pointer (some ⟨g, 0, none⟩), .int .i64 2, .int .i64 0] W (RetV (.int .i64 (0)) W)) := ⟨fun W g hF => latch_any turnsC g 2 true 2 0 W hF (by decide) (by decide) (by decide) (fun x hx => (turns_lat x hx).1)⟩
  have KI00 : Aside0 (∀ W g, Fr W g turnsC 2 true → Calls Try.prog 23 #[.pointer (some ⟨g, 0, none⟩), .int .i64 0, .int .i64 0] W (RetV (.int .i64 (0)) W)) := ⟨fun W g hF => in__any turnsC g 2 true 0 0 W hF (by decide) (by decide) (by decide) (by decide)⟩
  have KO10 : Aside0 (∀ W g, Fr W g turnsC 2 true → Calls Try.prog 25 #[.pointer (some ⟨g, 0, none⟩), .int .i64 1, .int .i64 0] W (RetV (.int .i64 (-4)) W)) := ⟨fun W g hF => out_any turnsC g 2 true 1 0 W hF (by decide) (by decide) (by decide) (by decide)⟩
  have KO01 : Aside0 (∀ W g, Fr W g turnsC 2 true → Calls Try.prog 25 #[.pointer (some ⟨g, 0, none⟩), .int .i64 0, .int .i64 1] W (RetV (.int .i64 (0)) W)) := ⟨fun W g hF => out_any turnsC g 2 true 0 1 W hF (by decide) (by decide) (by decide) (by decide)⟩
  have KX1 : Aside0 (∀ W g, Fr W g turnsC 2 true → Calls Try.prog 28 #[.pointer (some ⟨g, 0, none⟩), .slice none 0 0] W (RetLB [[], []] W)) := ⟨fun W g hF => ins_any turnsC g 2 true [] none 0 W hF (Kd.C_nil _ _) (by decide) (by decide) (by decide) (by decide) (by decide)⟩
  have KX2 : Aside0 (∀ W g, Fr W g someC 1 false → ∀ B c, Kd.bool.C W B 2 [false, true] → Calls Try.prog 28 #[.pointer (some ⟨g, 0, none⟩), .slice B 2 c] W (RetLB [[true]] W)) := ⟨fun W g hF B c hB => ins_any someC g 1 false [false, true] B c W hF hB (by decide) (by decide) (by decide) (by decide) (by decide)⟩
  go_enter Try.func9, Try.ntmps9
  go_upto_region 7 with (first
    | (go_at_call 38; refine (turns_any _).mono ?_; rintro e w1_ ⟨csHK1, rfl, hk, hb⟩; replace HL := am (HL.out.step hb); have HK1 := am hk; clear hk hb)
    | (go_at_call 13; (with_reducible refine (KN1.out _ _ HK1.out).mono ?_); rintro e w1_ ⟨g1, rfl, _, hF, hb⟩; replace HL := am (HL.out.step hb); have HF1 := am hF; clear hF hb HK1)
    | (go_at_call 39; refine (Some_any _).mono ?_; rintro e w1_ ⟨csHK2, rfl, hk, hb⟩; replace HL := am (HL.out.step hb); replace HF1 := am (HF1.out.below hb); have HK2 := am hk; clear hk hb)
    | (go_at_call 13; (with_reducible refine (KN2.out _ _ HK2.out).mono ?_); rintro e w1_ ⟨g2, rfl, _, hF, hb⟩; replace HL := am (HL.out.step hb); replace HF1 := am (HF1.out.below hb); have HF2 := am hF; clear hF hb HK2))
  go_step
  simp only [List.append]
  go_wp2_with (first
    | (go_at_call 17; (with_reducible refine (KC1.out _ _ HF1.out).mono ?_); rintro e w1_ ⟨v12, rfl, hr, _, hb⟩; obtain ⟨B12, n12, rfl⟩ : ∃ A c, v12 = .slice A 5 c := Kd.R_slice hr; replace HL := am (HL.out.step hb); replace HF1 := am (HF1.out.below hb); replace HF2 := am (HF2.out.below hb); have H12 := am hr; clear hr hb)
    | ((with_reducible refine zg 13 rfl ?_); refine zln 13 1 [-1] [.int .i64 (-1)] HL (fun W' => by have := Reps.snoc (Reps.none _ _) (mI W' w.heap.size (-1)) rfl; simpa using this) rfl (by decide) ?_; clear HL; intro B13 n13 w1_ H13 HL hb; (try simp only [Act.put, List.setIfInBounds_toArray, List.set_cons_zero, List.set_cons_succ]); replace HF1 := am (HF1.out.below hb); replace HF2 := am (HF2.out.below hb); replace H12 := am (Kd.R_below H12.out hb); clear hb)
    | ((with_reducible refine zg 14 rfl ?_); refine zln 14 1 [2] [.int .i64 (2)] HL (fun W' => by have := Reps.snoc (Reps.none _ _) (mI W' w.heap.size (2)) rfl; simpa using this) rfl (by decide) ?_; clear HL; intro B14 n14 w1_ H14 HL hb; (try simp only [Act.put, List.setIfInBounds_toArray, List.set_cons_zero, List.set_cons_succ]); replace HF1 := am (HF1.out.below hb); replace HF2 := am (HF2.out.below hb); replace H12 := am (Kd.R_below H12.out hb); replace H13 := am (Kd.R_below H13.out hb); clear hb)
    | ((with_reducible refine zg 15 rfl ?_); refine zln 15 1 [-3] [.int .i64 (-3)] HL (fun W' => by have := Reps.snoc (Reps.none _ _) (mI W' w.heap.size (-3)) rfl; simpa using this) rfl (by decide) ?_; clear HL; intro B15 n15 w1_ H15 HL hb; (try simp only [Act.put, List.setIfInBounds_toArray, List.set_cons_zero, List.set_cons_succ]); replace HF1 := am (HF1.out.below hb); replace HF2 := am (HF2.out.below hb); replace H12 := am (Kd.R_below H12.out hb); replace H13 := am (Kd.R_below H13.out hb); replace H14 := am (Kd.R_below H14.out hb); clear hb)
    | ((with_reducible refine zg 16 rfl ?_); refine zln 16 2 [-4, -2] [.int .i64 (-4), .int .i64 (-2)] HL (fun W' => by have := Reps.snoc (Reps.snoc (Reps.none _ _) (mI W' w.heap.size (-4)) rfl) (mI W' w.heap.size (-2)) rfl; simpa using this) rfl (by decide) ?_; clear HL; intro B16 n16 w1_ H16 HL hb; (try simp only [Act.put, List.setIfInBounds_toArray, List.set_cons_zero, List.set_cons_succ]); replace HF1 := am (HF1.out.below hb); replace HF2 := am (HF2.out.below hb); replace H12 := am (Kd.R_below H12.out hb); replace H13 := am (Kd.R_below H13.out hb); replace H14 := am (Kd.R_below H14.out hb); replace H15 := am (Kd.R_below H15.out hb); clear hb)
    | ((with_reducible refine zg 17 rfl ?_); refine zln 17 2 [4, 2] [.int .i64 (4), .int .i64 (2)] HL (fun W' => by have := Reps.snoc (Reps.snoc (Reps.none _ _) (mI W' w.heap.size (4)) rfl) (mI W' w.heap.size (2)) rfl; simpa using this) rfl (by decide) ?_; clear HL; intro B17 n17 w1_ H17 HL hb; (try simp only [Act.put, List.setIfInBounds_toArray, List.set_cons_zero, List.set_cons_succ]); replace HF1 := am (HF1.out.below hb); replace HF2 := am (HF2.out.below hb); replace H12 := am (Kd.R_below H12.out hb); replace H13 := am (Kd.R_below H13.out hb); replace H14 := am (Kd.R_below H14.out hb); replace H15 := am (Kd.R_below H15.out hb); replace H16 := am (Kd.R_below H16.out hb); clear hb)
    | ((with_reducible refine zg 18 rfl ?_); refine zlrs 18 5 [[-1], [2], [-3], [-4, -2], [4, 2]] [.slice B13 1 n13, .slice B14 1 n14, .slice B15 1 n15, .slice B16 2 n16, .slice B17 2 n17] HL (by have := Reps.snoc (Reps.snoc (Reps.snoc (Reps.snoc (Reps.snoc (Reps.none _ _) (mR H13.out) rfl) (mR H14.out) rfl) (mR H15.out) rfl) (mR H16.out) rfl) (mR H17.out) rfl; simpa using this) rfl (by decide) ?_; clear HL; intro B18 n18 w1_ H18 HL hb; (try simp only [Act.put, List.setIfInBounds_toArray, List.set_cons_zero, List.set_cons_succ]); replace HF1 := am (HF1.out.below hb); replace HF2 := am (HF2.out.below hb); replace H12 := am (Kd.R_below H12.out hb); clear hb H13 H14 H15 H16 H17)
    | (go_at_call 16; have hA : kR.C _ B12 5 [[-1], [2], [-3], [-4, -2], [4, 2]] := rowC H12.out; have hB : kR.C _ B18 5 [[-1], [2], [-3], [-4, -2], [4, 2]] := rowC H18.out; (with_reducible refine (KS1.out _ _ _ _ _ hA hB).mono ?_); rintro e w1_ ⟨r, rfl, rfl, hb⟩; replace HL := am (HL.out.step hb); replace HF1 := am (HF1.out.below hb); replace HF2 := am (HF2.out.below hb); clear hb H12 H18 hA hB)
    | (go_at_call 19; (with_reducible refine (KV1.out _ _ HF1.out).mono ?_); rintro e w1_ ⟨rfl, hb⟩; replace HL := am (HL.out.step hb); replace HF1 := am (HF1.out.below hb); replace HF2 := am (HF2.out.below hb); clear hb)
    | (go_at_call 21; (with_reducible refine (KL10.out _ _ HF1.out).mono ?_); rintro e w1_ ⟨rfl, hb⟩; replace HL := am (HL.out.step hb); replace HF1 := am (HF1.out.below hb); replace HF2 := am (HF2.out.below hb); clear hb)
    | (go_at_call 21; (with_reducible refine (KL20.out _ _ HF1.out).mono ?_); rintro e w1_ ⟨rfl, hb⟩; replace HL := am (HL.out.step hb); replace HF1 := am (HF1.out.below hb); replace HF2 := am (HF2.out.below hb); clear hb)
    | (go_at_call 23; (with_reducible refine (KI00.out _ _ HF1.out).mono ?_); rintro e w1_ ⟨rfl, hb⟩; replace HL := am (HL.out.step hb); replace HF1 := am (HF1.out.below hb); replace HF2 := am (HF2.out.below hb); clear hb)
    | (go_at_call 25; (with_reducible refine (KO10.out _ _ HF1.out).mono ?_); rintro e w1_ ⟨rfl, hb⟩; replace HL := am (HL.out.step hb); replace HF1 := am (HF1.out.below hb); replace HF2 := am (HF2.out.below hb); clear hb)
    | (go_at_call 25; (with_reducible refine (KO01.out _ _ HF1.out).mono ?_); rintro e w1_ ⟨rfl, hb⟩; replace HL := am (HL.out.step hb); replace HF1 := am (HF1.out.below hb); replace HF2 := am (HF2.out.below hb); clear hb)
    | (go_at_call 28; (with_reducible refine (KX1.out _ _ HF1.out).mono ?_); rintro e w1_ ⟨v52, rfl, hr, _, hb⟩; obtain ⟨B52, n52, rfl⟩ : ∃ A c, v52 = .slice A 2 c := Kd.R_slice hr; replace HL := am (HL.out.step hb); replace HF1 := am (HF1.out.below hb); replace HF2 := am (HF2.out.below hb); have H52 := am hr; clear hr hb)
    | (go_at_call 17; (with_reducible refine (KC2.out _ _ HF2.out).mono ?_); rintro e w1_ ⟨v58, rfl, hr, _, hb⟩; obtain ⟨B58, n58, rfl⟩ : ∃ A c, v58 = .slice A 7 c := Kd.R_slice hr; replace HL := am (HL.out.step hb); replace HF1 := am (HF1.out.below hb); replace HF2 := am (HF2.out.below hb); have H58 := am hr; clear hr hb)
    | ((with_reducible refine zg 59 rfl ?_); refine zguard ?_; refine zln 59 1 [-1] [.int .i64 (-1)] HL (fun W' => by have := Reps.snoc (Reps.none _ _) (mI W' w.heap.size (-1)) rfl; simpa using this) rfl (by decide) ?_; clear HL; intro B59 n59 w1_ H59 HL hb; (try simp only [Act.put, List.setIfInBounds_toArray, List.set_cons_zero, List.set_cons_succ]); replace HF1 := am (HF1.out.below hb); replace HF2 := am (HF2.out.below hb); replace H58 := am (Kd.R_below H58.out hb); clear hb)
    | ((with_reducible refine zg 60 rfl ?_); refine zguard ?_; refine zln 60 2 [-6, 3] [.int .i64 (-6), .int .i64 (3)] HL (fun W' => by have := Reps.snoc (Reps.snoc (Reps.none _ _) (mI W' w.heap.size (-6)) rfl) (mI W' w.heap.size (3)) rfl; simpa using this) rfl (by decide) ?_; clear HL; intro B60 n60 w1_ H60 HL hb; (try simp only [Act.put, List.setIfInBounds_toArray, List.set_cons_zero, List.set_cons_succ]); replace HF1 := am (HF1.out.below hb); replace HF2 := am (HF2.out.below hb); replace H58 := am (Kd.R_below H58.out hb); replace H59 := am (Kd.R_below H59.out hb); clear hb)
    | ((with_reducible refine zg 61 rfl ?_); refine zguard ?_; refine zln 61 2 [-6, -5] [.int .i64 (-6), .int .i64 (-5)] HL (fun W' => by have := Reps.snoc (Reps.snoc (Reps.none _ _) (mI W' w.heap.size (-6)) rfl) (mI W' w.heap.size (-5)) rfl; simpa using this) rfl (by decide) ?_; clear HL; intro B61 n61 w1_ H61 HL hb; (try simp only [Act.put, List.setIfInBounds_toArray, List.set_cons_zero, List.set_cons_succ]); replace HF1 := am (HF1.out.below hb); replace HF2 := am (HF2.out.below hb); replace H58 := am (Kd.R_below H58.out hb); replace H59 := am (Kd.R_below H59.out hb); replace H60 := am (Kd.R_below H60.out hb); clear hb)
    | ((with_reducible refine zg 62 rfl ?_); refine zguard ?_; refine zln 62 3 [6, -3, 5] [.int .i64 (6), .int .i64 (-3), .int .i64 (5)] HL (fun W' => by have := Reps.snoc (Reps.snoc (Reps.snoc (Reps.none _ _) (mI W' w.heap.size (6)) rfl) (mI W' w.heap.size (-3)) rfl) (mI W' w.heap.size (5)) rfl; simpa using this) rfl (by decide) ?_; clear HL; intro B62 n62 w1_ H62 HL hb; (try simp only [Act.put, List.setIfInBounds_toArray, List.set_cons_zero, List.set_cons_succ]); replace HF1 := am (HF1.out.below hb); replace HF2 := am (HF2.out.below hb); replace H58 := am (Kd.R_below H58.out hb); replace H59 := am (Kd.R_below H59.out hb); replace H60 := am (Kd.R_below H60.out hb); replace H61 := am (Kd.R_below H61.out hb); clear hb)
    | ((with_reducible refine zg 63 rfl ?_); refine zguard ?_; refine zln 63 2 [-7, -2] [.int .i64 (-7), .int .i64 (-2)] HL (fun W' => by have := Reps.snoc (Reps.snoc (Reps.none _ _) (mI W' w.heap.size (-7)) rfl) (mI W' w.heap.size (-2)) rfl; simpa using this) rfl (by decide) ?_; clear HL; intro B63 n63 w1_ H63 HL hb; (try simp only [Act.put, List.setIfInBounds_toArray, List.set_cons_zero, List.set_cons_succ]); replace HF1 := am (HF1.out.below hb); replace HF2 := am (HF2.out.below hb); replace H58 := am (Kd.R_below H58.out hb); replace H59 := am (Kd.R_below H59.out hb); replace H60 := am (Kd.R_below H60.out hb); replace H61 := am (Kd.R_below H61.out hb); replace H62 := am (Kd.R_below H62.out hb); clear hb)
    | ((with_reducible refine zg 64 rfl ?_); refine zguard ?_; refine zln 64 2 [-7, -3] [.int .i64 (-7), .int .i64 (-3)] HL (fun W' => by have := Reps.snoc (Reps.snoc (Reps.none _ _) (mI W' w.heap.size (-7)) rfl) (mI W' w.heap.size (-3)) rfl; simpa using this) rfl (by decide) ?_; clear HL; intro B64 n64 w1_ H64 HL hb; (try simp only [Act.put, List.setIfInBounds_toArray, List.set_cons_zero, List.set_cons_succ]); replace HF1 := am (HF1.out.below hb); replace HF2 := am (HF2.out.below hb); replace H58 := am (Kd.R_below H58.out hb); replace H59 := am (Kd.R_below H59.out hb); replace H60 := am (Kd.R_below H60.out hb); replace H61 := am (Kd.R_below H61.out hb); replace H62 := am (Kd.R_below H62.out hb); replace H63 := am (Kd.R_below H63.out hb); clear hb)
    | ((with_reducible refine zg 65 rfl ?_); refine zguard ?_; refine zln 65 3 [7, 2, 3] [.int .i64 (7), .int .i64 (2), .int .i64 (3)] HL (fun W' => by have := Reps.snoc (Reps.snoc (Reps.snoc (Reps.none _ _) (mI W' w.heap.size (7)) rfl) (mI W' w.heap.size (2)) rfl) (mI W' w.heap.size (3)) rfl; simpa using this) rfl (by decide) ?_; clear HL; intro B65 n65 w1_ H65 HL hb; (try simp only [Act.put, List.setIfInBounds_toArray, List.set_cons_zero, List.set_cons_succ]); replace HF1 := am (HF1.out.below hb); replace HF2 := am (HF2.out.below hb); replace H58 := am (Kd.R_below H58.out hb); replace H59 := am (Kd.R_below H59.out hb); replace H60 := am (Kd.R_below H60.out hb); replace H61 := am (Kd.R_below H61.out hb); replace H62 := am (Kd.R_below H62.out hb); replace H63 := am (Kd.R_below H63.out hb); replace H64 := am (Kd.R_below H64.out hb); clear hb)
    | ((with_reducible refine zg 66 rfl ?_); refine zguard ?_; refine zlrs 66 7 [[-1], [-6, 3], [-6, -5], [6, -3, 5], [-7, -2], [-7, -3], [7, 2, 3]] [.slice B59 1 n59, .slice B60 2 n60, .slice B61 2 n61, .slice B62 3 n62, .slice B63 2 n63, .slice B64 2 n64, .slice B65 3 n65] HL (by have := Reps.snoc (Reps.snoc (Reps.snoc (Reps.snoc (Reps.snoc (Reps.snoc (Reps.snoc (Reps.none _ _) (mR H59.out) rfl) (mR H60.out) rfl) (mR H61.out) rfl) (mR H62.out) rfl) (mR H63.out) rfl) (mR H64.out) rfl) (mR H65.out) rfl; simpa using this) rfl (by decide) ?_; clear HL; intro B66 n66 w1_ H66 HL hb; (try simp only [Act.put, List.setIfInBounds_toArray, List.set_cons_zero, List.set_cons_succ]); replace HF1 := am (HF1.out.below hb); replace HF2 := am (HF2.out.below hb); replace H58 := am (Kd.R_below H58.out hb); clear hb H59 H60 H61 H62 H63 H64 H65)
    | (go_at_call 16; have hA : kR.C _ B58 7 [[-1], [-6, 3], [-6, -5], [6, -3, 5], [-7, -2], [-7, -3], [7, 2, 3]] := rowC H58.out; have hB : kR.C _ B66 7 [[-1], [-6, 3], [-6, -5], [6, -3, 5], [-7, -2], [-7, -3], [7, 2, 3]] := rowC H66.out; (with_reducible refine (KS2.out _ _ _ _ _ hA hB).mono ?_); rintro e w1_ ⟨r, rfl, rfl, hb⟩; replace HL := am (HL.out.step hb); replace HF1 := am (HF1.out.below hb); replace HF2 := am (HF2.out.below hb); clear hb H58 H66 hA hB)
    | ((with_reducible refine zg 71 rfl ?_); refine zguard ?_; refine zlnB 71 2 [false, true] [.bool false, .bool true] HL (fun W' => by have := Reps.snoc (Reps.snoc (Reps.none _ _) (mBo W' w.heap.size (false)) rfl) (mBo W' w.heap.size (true)) rfl; simpa using this) rfl (by decide) ?_; clear HL; intro B71 n71 w1_ H71 HL hb; (try simp only [Act.put, List.setIfInBounds_toArray, List.set_cons_zero, List.set_cons_succ]); replace HF1 := am (HF1.out.below hb); replace HF2 := am (HF2.out.below hb); clear hb)
    | (go_at_call 28; have hB : Kd.bool.C _ B71 2 [false, true] := rowB H71.out; (with_reducible refine (KX2.out _ _ HF2.out _ _ hB).mono ?_); rintro e w1_ ⟨v72, rfl, hr, _, hb⟩; obtain ⟨B72, n72, rfl⟩ : ∃ A c, v72 = .slice A 1 c := Kd.R_slice hr; replace HL := am (HL.out.step hb); replace HF1 := am (HF1.out.below hb); replace HF2 := am (HF2.out.below hb); have H72 := am hr; clear hr hb hB H71)
    | ((with_reducible refine zg 73 rfl ?_); refine zguard ?_; refine zlnB 73 1 [true] [.bool true] HL (fun W' => by have := Reps.snoc (Reps.none _ _) (mBo W' w.heap.size (true)) rfl; simpa using this) rfl (by decide) ?_; clear HL; intro B73 n73 w1_ H73 HL hb; (try simp only [Act.put, List.setIfInBounds_toArray, List.set_cons_zero, List.set_cons_succ]); replace HF1 := am (HF1.out.below hb); replace HF2 := am (HF2.out.below hb); replace H72 := am (Kd.R_below H72.out hb); clear hb)
    | ((with_reducible refine zg 74 rfl ?_); refine zguard ?_; refine zlrsB 74 1 [[true]] [.slice B73 1 n73] HL (by have := Reps.snoc (Reps.none _ _) (mB H73.out) rfl; simpa using this) rfl (by decide) ?_; clear HL; intro B74 n74 w1_ H74 HL hb; (try simp only [Act.put, List.setIfInBounds_toArray, List.set_cons_zero, List.set_cons_succ]); replace HF1 := am (HF1.out.below hb); replace HF2 := am (HF2.out.below hb); replace H72 := am (Kd.R_below H72.out hb); clear hb H73)
    | (go_at_call 27; have hA : kB.C _ B72 1 [[true]] := rowCB H72.out; have hB : kB.C _ B74 1 [[true]] := rowCB H74.out; (with_reducible refine (KS3.out _ _ _ _ _ hA hB).mono ?_); rintro e w1_ ⟨r, rfl, rfl, hb⟩; replace HL := am (HL.out.step hb); replace HF1 := am (HF1.out.below hb); replace HF2 := am (HF2.out.below hb); clear hb H72 H74 hA hB))
  go_ret
  exact ⟨_, rfl, rfl, HL.out.below⟩
end Go.Proofs.Yteilkojmefipcaa.U
