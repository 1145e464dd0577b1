/- Unroll: walks and plain laws of this seat's functions, merged out of smaller texts of this session (Uau, Uav, Uaw, Uay, Uaz, Uba, Ubb). -/
import Derived.Test.YteilkojmefipcaaM09
import Derived.Laws.CopyOwn
namespace Go.Proofs.Yteilkojmefipcaa.U
open Go.RowKit Go.Proofs.YteilkojmefipcaaW.PrintWords Go.Proofs.YteilkojmefipcaaW.PrintLast
set_option linter.unusedVariables false
set_option linter.unusedSimpArgs false
/-- A row of bools is handed back. -/
def RetBs (xs : List Bool) (w : World) (e : Ending) (w' : World) : Prop := ∃ v, e = .returned v ∧ Rb w' w.heap.size v xs ∧ Below w.heap.size w w'
def bitsL (l : List Bool) (n : Nat) : List Bool := (List.range n).map (fun i => l.getD i false)
theorem bitsL_len (l : List Bool) (n : Nat) : (bitsL l n).length = n := by unfold bitsL; simp
set_option maxHeartbeats 16000000 in
theorem bitsB_any (l : List Bool) (A : Option Addr) (c n : Nat) (w : World) (hC : Kd.bool.C w A l.length l) (hn : n ≤ 1000000000) :
    Calls Try.prog 30 #[.slice A l.length c, .int .i64 (n : Int)] w (RetBs (bitsL l n) w) := by
  have hm : l.length ≤ 9223372036854775807 := hC.2.1
  have HC := am hC
  have HL : Aside0 (Led [] w w) := ⟨Led.nil w⟩
  clear hC
  go_enter Try.func30, Try.ntmps30
  go_wp2_with (fail)
  go_loopw [5, 6] (fun v5 v6 wr => ∃ (i : Nat) (ys : List Bool), v6 = .int .i64 (i : Int) ∧ i ≤ n ∧ Aside0 (Led [] w wr) ∧ Aside0 (Rb wr w.heap.size v5 ys) ∧ Aside0 (ys = bitsL l i)) (fun _ v _ => n - (intOf v).toNat)
  case atStart => exact ⟨0, [], rfl, Nat.zero_le _, HL, ⟨Kd.R_nil _ _ _ _ _⟩, ⟨rfl⟩⟩
  case round =>
    clear HL
    obtain ⟨i, ys, rfl, hi, HL, HR, HYS⟩ := hrel
    by_cases hlt : i < n
    · have qi : (i : Int) < (n : Int) := by omega
      have HYL : Aside0 (ys.length = i) := ⟨by rw [HYS.out, bitsL_len]⟩
      have HSY : Aside0 (bitsL l (i + 1) = ys ++ [l.getD i false]) := ⟨by rw [HYS.out]; unfold bitsL; rw [List.range_succ, List.map_append]; rfl⟩
      by_cases hv : i < l.length
      · obtain ⟨bd, rfl, hp⟩ := atB (Kd.C_below HC.out HL.out.below) i hv
        have HB : Aside0 (l.getD i false = l[i]) := ⟨by rw [List.getD_eq_getElem?_getD, List.getElem?_eq_getElem hv]; rfl⟩
        obtain ⟨x, hx_⟩ : ∃ x, l[i] = x := ⟨_, rfl⟩
        rw [hx_] at hp HB
        have q2 : (0 : Int) ≤ (i : Int) := by omega
        have q3 : (i : Int) < (l.length : Int) := by omega
        clear hx_
        go_wp2_with ((with_reducible refine zg 24 rfl ?_); refine zap2 Kd.bool (.tmp 12) (.tmp 23) 36 4 x [.bool x] HL HR Try.underlying36 info4 rfl (by have := HYL.out; omega) ?_; intro v24 w4_ HR2 HL2 hg hat; clear hg hat HR HL hp)
        go_roundw
        case rel => exact ⟨i + 1, _, by go_num, by omega, HL2, HR2, ⟨by rw [HSY.out, HB.out]⟩⟩
        case measure => simp [intOf]; omega
      · have HB : Aside0 (l.getD i false = false) := ⟨by rw [List.getD_eq_getElem?_getD, List.getElem?_eq_none (by omega)]; rfl⟩
        have q3 : (l.length : Int) ≤ (i : Int) := by omega
        have q4 : decide (i < l.length) = false := decide_eq_false (by omega)
        go_wp2_with ((with_reducible refine zg 24 rfl ?_); refine zap2 Kd.bool (.tmp 12) (.tmp 23) 36 4 false [.bool false] HL HR Try.underlying36 info4 rfl (by have := HYL.out; omega) ?_; intro v24 w4_ HR2 HL2 hg hat; clear hg hat HR HL)
        go_roundw
        case rel => exact ⟨i + 1, _, by go_num, by omega, HL2, HR2, ⟨by rw [HSY.out, HB.out]⟩⟩
        case measure => simp [intOf]; omega
    · obtain rfl : i = n := by omega
      go_wp2
      go_ret
      have h1 := HR.out
      rw [HYS.out] at h1
      exact ⟨_, rfl, h1, HL.out.below⟩
/-- A row that is there is handed back. -/
def RetRow (xs : List Bool) (w : World) (e : Ending) (w' : World) : Prop := ∃ A c, e = .returned (.slice A xs.length c) ∧ Kd.bool.C w A xs.length xs ∧ w' = w
def rowL (ls : List (List Bool)) (i : Nat) : List Bool := ls.getD i []
set_option maxHeartbeats 16000000 in
theorem row_any (ls : List (List Bool)) (A : Option Addr) (c i : Nat) (w : World) (hC : kB.C w A ls.length ls) :
    Calls Try.prog 36 #[.slice A ls.length c, .int .i64 (i : Int)] w (RetRow (rowL ls i) w) := by
  have hm : ls.length ≤ 9223372036854775807 := hC.2.1
  by_cases hv : i < ls.length
  · obtain ⟨ad, A0, c0, rfl, h1, h2, h3⟩ := atSB hC i hv
    have HE : Aside0 (rowL ls i = ls[i]) := ⟨by unfold rowL; rw [List.getD_eq_getElem?_getD, List.getElem?_eq_getElem hv]; rfl⟩
    obtain ⟨x, hx_⟩ : ∃ x, ls[i] = x := ⟨_, rfl⟩
    rw [hx_] at h1 h2 h3 HE
    have H3 := am h3
    have q2 : (0 : Int) ≤ (i : Int) := by omega
    have q3 : (i : Int) < (ls.length : Int) := by omega
    clear hC hx_ h2 h3
    go_enter Try.func36, Try.ntmps36
    go_wp2
    go_ret
    rw [HE.out]
    exact ⟨A0, c0, rfl, H3.out, rfl⟩
  · have HE : Aside0 (rowL ls i = []) := ⟨by unfold rowL; rw [List.getD_eq_getElem?_getD, List.getElem?_eq_none (by omega)]; rfl⟩
    have q3 : (ls.length : Int) ≤ (i : Int) := by omega
    have q4 : decide (i < ls.length) = false := decide_eq_false (by omega)
    clear hC
    go_enter Try.func36, Try.ntmps36
    go_wp2
    go_ret
    rw [HE.out]
    exact ⟨none, 0, rfl, Kd.C_nil _ _, rfl⟩
/-- What a literal is. -/
def litB (vals : List Bool) (l : Int) : Bool := vals.getD (l / 2).toNat false != decide (l % 2 = 1)
set_option maxHeartbeats 16000000 in
theorem litB_any (vals : List Bool) (A : Option Addr) (c : Nat) (l : Int) (w : World) (hC : Kd.bool.C w A vals.length vals) (h0 : 0 ≤ l) (h1 : l < 2 * vals.length) (h2 : l ≤ 1000000000000) :
    Calls Try.prog 82 #[.slice A vals.length c, .int .i64 l] w (fun e w' => e = .returned (.bool (litB vals l)) ∧ w' = w) := by
  have hm : vals.length ≤ 9223372036854775807 := hC.2.1
  have hv : (l / 2).toNat < vals.length := by omega
  obtain ⟨bd, rfl, hp⟩ := atB hC (l / 2).toNat hv
  have HE : Aside0 (vals.getD (l / 2).toNat false = vals[(l / 2).toNat]) := ⟨by rw [List.getD_eq_getElem?_getD, List.getElem?_eq_getElem hv]; rfl⟩
  obtain ⟨x, hx_⟩ : ∃ x, vals[(l / 2).toNat] = x := ⟨_, rfl⟩
  rw [hx_] at hp HE
  have q2 : (0 : Int) ≤ l / 2 := by omega
  have q3 : l / 2 < (vals.length : Int) := by omega
  have HA := am (i64_and1 l)
  have HR : Aside0 (litB vals l = (x != decide (l % 2 = 1))) := ⟨by unfold litB; rw [HE.out]⟩
  clear hC hx_ hv
  go_enter Try.func82, Try.ntmps82
  go_wp2
  go_ret
  refine ⟨congrArg (fun z => Ending.returned (.bool z)) ?_, rfl⟩
  rw [HR.out]
  first | rfl | (rw [HA.out]; rfl) | (rw [HA.out]; simp; done)
theorem fill_len {α β : Type} (f : α → β) (l : List α) (i : Nat) (z : β) (h : i ≤ l.length) : ((l.take i).map f ++ List.replicate (l.length - i) z).length = l.length := by
  rw [List.length_append, List.length_map, List.length_take, List.length_replicate]; omega
theorem fill_set {α β : Type} (f : α → β) (l : List α) (i : Nat) (z : β) (h : i < l.length) : ((l.take i).map f ++ List.replicate (l.length - i) z).set i (f l[i]) = (l.take (i + 1)).map f ++ List.replicate (l.length - (i + 1)) z := by
  have h1 : ((l.take i).map f).length = i := by rw [List.length_map, List.length_take]; omega
  obtain ⟨d, hd⟩ : ∃ d, l.length - i = d + 1 := ⟨l.length - i - 1, by omega⟩
  rw [hd, show l.length - (i + 1) = d by omega, List.set_append_right _ _ (by omega), h1, Nat.sub_self, List.replicate_succ, List.set_cons_zero, List.take_succ_eq_append_getElem h, List.map_append, List.append_assoc]
  rfl
theorem fill_all {α β : Type} (f : α → β) (l : List α) (z : β) : (l.take l.length).map f ++ List.replicate (l.length - l.length) z = l.map f := by
  rw [List.take_length, Nat.sub_self]; simp
section
variable {P : Program} {ops : Array Oper} {rest : List Oper} {o : Oper} {a : Act} {Q : Exit → Act → World → Prop}
/-- out[i] = b, of a row of the call's own. -/
theorem zsetB {w0 W : World} {L : List Bx} (p x : Operand) {g N cap : Nat} {ms : List Bool} (i : Nat) (b : Bool) (HL : Aside0 (Led L w0 W)) (HO : Aside0 (Rb W w0.heap.size (.slice (some ⟨g, 0, none⟩) N cap) ms)) (hi : i < ms.length)
    (h : ∀ w1, Aside0 (Rb w1 w0.heap.size (.slice (some ⟨g, 0, none⟩) N cap) (ms.set i b)) → Aside0 (Led L w0 w1) → W.grownBy w1 (some g) → wpList P ops Q rest a w1)
    (hinfo : (P.info? 4).map (·.size) = some 1) (hne : ∀ b, b ∈ L → 4 ≠ b.2.2 := by simp) (ho : o.op = .store 4 p x := by rfl) (hN : o.dst = none := by rfl) (hgd : o.guard = none := by rfl)
    (haddr : a.eval p = .pointer (some ⟨g, i, none⟩) := by rfl) (hx : a.eval x = .bool b := by rfl) : wpList P ops Q (o :: rest) a W := by
  have hn : N = ms.length := (Kd.R_reads' HO.out).1
  obtain ⟨ad, e, hp⟩ := atB (Kd.R_reads' HO.out).2.2 i hi
  cases e
  rw [add_zero_addr] at hp
  exact Kd.R_store Kd.bool (w0 := w0) w0.heap.size hN hgd 4 p x ho 4 (g := g) (n := N) (cap := cap) (o' := i) (i : Int) 0 ms b (.bool b) [.bool b] [.bool ms[i]] Any (fun _ => False) haddr (by show i = (i : Int).toNat * 1 + 0; omega) hx rfl hinfo (by simp [Value.oneCell']) HO.out (by omega) (by omega) rfl (boolcell hp) (Nat.le_refl 1) rfl (fun _ h => h.elim) HL.out.below
    (fun w1 h1 hb hg => h w1 ⟨by simpa using h1⟩ ⟨HL.out.grown HO.out (by simpa [Value.ownBlock] using hg) hb hne⟩ hg)
end
theorem info4s : (Try.prog.info? 4).map (·.size) = some 1 := by kernel_rfl
set_option maxHeartbeats 16000000 in
theorem first_any (c : S35) (cs : List Value) (w : World) (h : k35.K w c cs) (hl : c.f2.length ≤ 1000000000) :
    Calls Try.prog 31 #[.agg cs.toArray] w (RetBs (c.f2.map S84.f2) w) := by
  obtain ⟨A1, c1, A2, c2, A3, c3, A4, c4, rfl, _, _, _, _, _, hC, _⟩ := k35_open h
  have HC := am hC
  have hm : c.f2.length ≤ 9223372036854775807 := hC.2.1
  have HL : Aside0 (Led [] w w) := ⟨Led.nil w⟩
  have hu84 := Try.underlying84
  clear h hC
  go_enter Try.func31, Try.ntmps31
  go_wp2_with (first
    | ((with_reducible refine zg 1 rfl ?_); refine zx 1 [.int .i64 c.f0.f0, .slice A1 c.f0.f1.length c1, .slice A2 c.f1.length c2, .slice A3 c.f2.length c3, .slice A4 c.f3.length c4] 35 HL ?_; clear HL; intro g1 w1_ HL hb; clear hb; have hk3 : w1_.cell? ⟨g1, 3, none⟩ = some (.slice A3 c.f2.length c3) := blk_cell (HL.out.get 0 rfl) 3)
    | ((with_reducible refine zg 9 rfl ?_); refine zmk Kd.bool 9 36 4 (.tmp 8) false c.f2.length HL Try.underlying36 info4 rfl (by omega) ?_; clear hk3; intro v9 w2_ HR HL2 hb; clear hb HL; have HL := HL2; clear HL2; have hk3 : w2_.cell? ⟨g1, 3, none⟩ = some (.slice A3 c.f2.length c3) := blk_cell (HL.out.get 0 rfl) 3))
  clear hk3
  have HL0 := am HL.out.drop
  clear HL
  go_loopw [13] (fun v13 wr => ∃ (i : Nat) (ms : List Bool), v13 = .int .i64 (i : Int) ∧ i ≤ c.f2.length ∧ Aside0 (Led [] w wr) ∧ Aside0 (Rb wr w.heap.size v9 ms) ∧ Aside0 (ms = (c.f2.take i).map S84.f2 ++ List.replicate (c.f2.length - i) false)) (fun v _ => c.f2.length - (intOf v).toNat)
  case atStart => exact ⟨0, _, rfl, Nat.zero_le _, HL0, HR, ⟨by simp⟩⟩
  case round =>
    clear HL0 HR
    obtain ⟨i, ms, rfl, hi, HL, HR, HMS⟩ := hrel
    by_cases hlt : i < c.f2.length
    · have HML : Aside0 (ms.length = c.f2.length) := ⟨by rw [HMS.out]; exact fill_len _ _ _ _ hi⟩
      have HSE : Aside0 (ms.set i c.f2[i].f2 = (c.f2.take (i + 1)).map S84.f2 ++ List.replicate (c.f2.length - (i + 1)) false) := ⟨by rw [HMS.out]; exact fill_set S84.f2 c.f2 i false hlt⟩
      obtain ⟨ad, cx, rfl, hKx, hcx⟩ := el_get HC.out i hlt
      obtain ⟨⟨xv, xn, xi, x3, x4⟩, hx⟩ : ∃ x, c.f2[i] = x := ⟨_, rfl⟩
      rw [hx] at hKx HSE
      dsimp only at HSE
      obtain rfl := k84_open hKx
      have HCX := am hcx
      obtain ⟨g9, q9, hv9⟩ := rowform HR.out (by rw [HML.out]; omega)
      rw [HML.out] at hv9
      subst hv9
      have q0 : (0 : Int) ≤ (i : Int) := by omega
      have q1 : (i : Int) < (c.f2.length : Int) := by omega
      clear hKx hcx hx
      go_wp2_with (first
        | ((with_reducible refine zg 17 rfl ?_); refine zle 17 84 (.tmp 16) [.int .i64 xv, .int .i64 xn, .bool xi, .int .i64 x3, .int .i64 x4] (HCX.out _ HL.out.below) hu84 ?_)
        | ((with_reducible refine zg 5 rfl ?_); refine zx 5 [.int .i64 0, .int .i64 0, .bool false, .int .i64 0, .int .i64 0] 84 HL ?_; clear HL; intro g5 w5_ HL hb; replace HR := am (Kd.R_below HR.out hb); clear hb)
        | ((with_reducible refine zst 84 (.tmp 5) (.tmp 17) rfl ?_); refine zs 0 0 84 (.tmp 5) (.tmp 17) [.int .i64 xv, .int .i64 xn, .bool xi, .int .i64 x3, .int .i64 x4] HL ?_; intro w6_ HLn hfar; replace HR := am (RfarG HR.out HL.out 0 rfl hfar); replace HL := HLn; clear HLn hfar; have hj2 : w6_.cell? ⟨g5, 2, none⟩ = some (.bool xi) := blk_cell (HL.out.get 0 rfl) 2)
        | ((with_reducible refine zst 4 (.tmp 22) (.tmp 21) rfl ?_); refine zsetB (.tmp 22) (.tmp 21) i xi HL HR (by rw [HML.out]; omega) ?_ info4s; intro w7_ HR2 HL2 hg; clear hg HR HL hj2))
      go_roundw
      case rel => exact ⟨i + 1, _, by go_num, by omega, ⟨HL2.out.drop⟩, HR2, HSE⟩
      case measure => simp [intOf]; omega
    · obtain rfl : i = c.f2.length := by omega
      go_wp2
      go_ret
      have h1 := HR.out
      rw [HMS.out, fill_all] at h1
      exact ⟨_, rfl, h1, HL.out.below⟩
theorem made_bools (m : Nat) : madeCells (Value.bool false).cells (m * 1) = (List.replicate m (Value.bool false)).toArray := by
  apply Array.ext
  · simp [madeCells]
  · intro i h1 h2
    simp [madeCells, Value.cells, Nat.mod_one]
section
variable {P : Program} {ops : Array Oper} {rest : List Oper} {o : Oper} {a : Act} {Q : Exit → Act → World → Prop}
/-- make([]bool, n, m). -/
theorem zmkcap {w0 W : World} {L : List Bx} (N : Tmp) (x y : Operand) (n m : Nat) (HL : Aside0 (Led L w0 W)) (ht : P.underlying 36 = some (.slice 4)) (hinfo : (P.info? 4).map (fun i => (i.zero, i.size, i.bytes)) = some (some (.bool false), 1, 1)) (hnm : n ≤ m) (hl : m ≤ 100000000)
    (h : ∀ g w1, w1.heap[g]? = some (.cells (List.replicate m (Value.bool false)).toArray 4 (0, 0)) → W.heap.size ≤ g → Below W.heap.size W w1 → wpList P ops Q rest (a.put (some N) (.slice (some ⟨g, 0, none⟩) n m)) w1)
    (hd : o.dst = some N := by rfl) (ho : o.op = .makeSlice 36 x y := by rfl) (hgd : o.guard = none := by rfl) (hx : a.eval x = .int .i64 (n : Int) := by rfl) (hy : a.eval y = .int .i64 (m : Int) := by rfl) : wpList P ops Q (o :: rest) a W := by
  obtain ⟨i0, hi, hzz⟩ := Option.map_eq_some_iff.1 hinfo
  simp only [Prod.mk.injEq] at hzz
  obtain ⟨hz0, hz1, hz2⟩ := hzz
  have hr := run_make (P := P) W 36 4 i0 (.bool false) ht hi hz0 .i64 .i64 (n : Int) (m : Int) (by omega) (by omega) (by rw [hz2]; omega) (by omega)
  simp only [Int.toNat_natCast] at hr
  rw [hz1, made_bools] at hr
  refine Kd.event_run hgd (v := .slice (some ⟨W.heap.size, 0, none⟩) n m) (w1 := W.alloc (.cells (List.replicate m (Value.bool false)).toArray 4)) ?_ ?_
  · simp [execOp, ho, hx, hy, hr]
  · rw [hd]
    exact h _ _ (blk_new W _) (Nat.le_refl _) (below_alloc (Below.refl _ _) _)
/-- copy(out[1:], bs). -/
theorem zcopyB {W w0 : World} {Bn : Nat} (s x : Operand) {Pa B : Option Addr} {T K cb g : Nat} {cur cs : List Value} (hg : W.heap[g]? = some (.cells cur.toArray 4 (0, 0))) (hn : cs.length = Nat.min T T)
    (hpos : 0 < cs.length → Pa = some ⟨g, 1, none⟩ ∧ ∃ ad, B = some ad ∧ ∀ (j : Nat) v, cs[j]? = some v → W.cell? (ad.add j) = some v) (hfit : 1 + cs.length ≤ cur.length) (h1 : ∀ v ∈ cs, v.oneCell' = true) (hb : Below Bn w0 W) (hBg : Bn ≤ g)
    (ht : P.underlying 36 = some (.slice 4)) (hinfo : (P.info? 4).map (·.size) = some 1)
    (h : ∀ w', Hid (w'.heap[g]? = some (.cells (splice cur 1 cs).toArray 4 (0, 0))) → Below Bn w0 w' → wpList P ops Q rest (a.put o.dst (goInt cs.length)) w')
    (ho : o.op = .call { callee := .builtin .copy, args := #[s, x], argTypes := #[36, 36] } := by rfl) (hgd : o.guard = none := by rfl) (hs : a.eval s = .slice Pa T K := by rfl) (hx : a.eval x = .slice B T cb := by rfl) : wpList P ops Q (o :: rest) a W :=
  wpList_copy_splice hgd s x 36 36 ho 4 ht hinfo Pa B T K T cb hs hx g 1 cur 4 hg cs hn hpos hfit h1 Bn w0 hb hBg h
end
theorem row_of_block {w : World} {base g n m : Nat} {cs : List Value} {xs : List Bool} (hb : base ≤ g) (hh : w.heap[g]? = some (.cells cs.toArray 4 (0, 0))) (hlen : cs.length = m) (hn : n ≤ m) (hm : m ≤ 100000000) (htake : cs.take n = xs.map Value.bool) (hx : xs.length = n) : Rb w base (.slice (some ⟨g, 0, none⟩) n m) xs := by
  subst hx
  refine ⟨fun _ _ => trivial, xs.map Value.bool, ⟨by show (xs.map Value.bool).length = xs.length * 1; simp, .inr ⟨g, m, cs.toArray, rfl, hb, hh, hn, by simp only [maxLen]; omega, by show cs.toArray.size = m * 1; simp; omega, ?_⟩⟩, ?_⟩
  · show cs.toArray.toList.take (xs.length * 1) = _
    rw [Nat.mul_one]; exact htake
  · exact Kd.reps_scalar xs
/-- What all variables are, behind i ands. -/
def evl (bs : List Bool) (l : List S117) : Nat → List Bool
  | 0 => false :: bs
  | i + 1 => evl bs l i ++ [litB (evl bs l i) (l.getD i ⟨0, 0⟩).f0 && litB (evl bs l i) (l.getD i ⟨0, 0⟩).f1]
theorem evl_len (bs : List Bool) (l : List S117) : ∀ i, (evl bs l i).length = 1 + bs.length + i
  | 0 => by simp [evl]; omega
  | i + 1 => by rw [evl, List.length_append, evl_len bs l i]; rfl
theorem evl_succ (bs : List Bool) (l : List S117) (i : Nat) (h : i < l.length) : evl bs l (i + 1) = evl bs l i ++ [litB (evl bs l i) l[i].f0 && litB (evl bs l i) l[i].f1] := by
  rw [evl, List.getD_eq_getElem?_getD, List.getElem?_eq_getElem h]; rfl
theorem bool_cells {w : World} {B : Option Addr} {bs : List Bool} (h : Kd.bool.C w B bs.length bs) (hp : 0 < bs.length) : ∃ ad, B = some ad ∧ ∀ j v, (bs.map Value.bool)[j]? = some v → w.cell? (ad.add j) = some v := by
  obtain ⟨ad, e, _⟩ := atB h 0 hp
  refine ⟨ad, e, fun j v hj => ?_⟩
  rw [List.getElem?_map] at hj
  obtain ⟨b, hb, rfl⟩ := Option.map_eq_some_iff.1 hj
  obtain ⟨hl, rfl⟩ := List.getElem?_eq_some_iff.1 hb
  obtain ⟨ad', e', hc⟩ := atB h j hl
  rw [e] at e'
  cases e'
  exact hc
theorem evl_row {w w1 w3 : World} {g T M : Nat} {bs : List Bool} {l : List S117} (h1 : w.heap.size ≤ w1.heap.size) (h2 : w1.heap.size ≤ g) (hh : w3.heap[g]? = some (.cells (splice (List.replicate M (Value.bool false)) 1 (bs.map Value.bool)).toArray 4 (0, 0))) (hT : bs.length = T) (hm : 1 + T ≤ M) (hm2 : M ≤ 2000001) : Rb w3 w.heap.size (.slice (some ⟨g, 0, none⟩) (1 + T) M) (evl bs l 0) := by
  subst hT
  refine row_of_block (by omega) hh ?_ hm (by omega) ?_ (by simp [evl]; omega)
  · rw [length_splice _ _ _ (by rw [List.length_map, List.length_replicate]; exact hm), List.length_replicate]
  · obtain ⟨d, rfl⟩ : ∃ d, M = d + 1 := ⟨M - 1, by omega⟩
    unfold splice
    rw [List.replicate_succ]
    show List.take (1 + bs.length) ([Value.bool false] ++ _) = _
    rw [List.take_append, List.take_of_length_le (by simp), List.take_append, List.take_of_length_le (by simp)]
    simp [evl]
set_option maxHeartbeats 32000000 in
set_option maxRecDepth 100000 in
theorem eval_any (ins : Int) (l : List S117) (A : Option Addr) (c : Nat) (bs : List Bool) (B : Option Addr) (cb : Nat) (w : World) (hC : k117.C w A l.length l) (hok : OkA ins l) (hB : Kd.bool.C w B bs.length bs) (hlen : ((bs.length : Nat) : Int) = ins) (hb1 : bs.length ≤ 1000000) (hl : l.length ≤ 1000000) :
    Calls Try.prog 60 #[.agg #[.int .i64 ins, .slice A l.length c], .slice B bs.length cb] w (RetBs (evl bs l l.length) w) := by
  subst hlen
  have HC := am hC
  have HOK := am hok
  have HBS := am hB
  have HL : Aside0 (Led [] w w) := ⟨Led.nil w⟩
  have hu117 := Try.underlying117
  have hm : l.length ≤ 9223372036854775807 := hC.2.1
  have HCS : Aside0 (0 < bs.length → ∃ ad, B = some ad ∧ ∀ j v, (bs.map Value.bool)[j]? = some v → w.cell? (ad.add j) = some v) := ⟨bool_cells hB⟩
  obtain ⟨T, hT⟩ : ∃ T, bs.length = T := ⟨_, rfl⟩
  have HT := am hT
  rw [hT] at hb1 HCS ⊢
  obtain ⟨M, hM⟩ : ∃ M, 1 + T + l.length = M := ⟨_, rfl⟩
  have HM := am hM
  have m1 : 1 + T ≤ M := by omega
  have m2 : M ≤ 2000001 := by omega
  clear hC hok hB hT hM
  go_enter Try.func60, Try.ntmps60
  go_wp2_with (first
    | ((with_reducible refine zg 2 rfl ?_); refine zx 2 [.int .i64 (T : Int), .slice A l.length c] 30 HL ?_; clear HL; intro g2 w1_ HL hb; clear hb; have hk0 : w1_.cell? ⟨g2, 0, none⟩ = some (.int .i64 (T : Int)) := blk_cell (HL.out.get 0 rfl) 0; have hk1 : w1_.cell? ⟨g2, 1, none⟩ = some (.slice A l.length c) := blk_cell (HL.out.get 0 rfl) 1)
    | ((with_reducible refine zg 18 rfl ?_); refine zmkcap 18 (.tmp 10) (.tmp 17) (1 + T) M HL Try.underlying36 info4 m1 (by omega) ?_ (hy := by rw [← HM.out]; rfl); intro g5 w2_ hh hge hb; have HH := am hh; have HB2 := am hb; clear hh hk0 hk1 hb; obtain ⟨P, hP⟩ : ∃ P : Option Addr, P = (if M = 1 then some ⟨g5, 0, none⟩ else some ⟨g5, 1, none⟩) := ⟨_, rfl⟩; have HP := am hP; clear hP)
    | ((with_reducible refine zg 20 rfl ?_); refine zval 20 (.slice P T (M - 1)) ?_ (hrun := by go_simp; rw [if_pos (by omega), ← HP.out]))
    | ((with_reducible refine zg 22 rfl ?_); have hn_ : (bs.map Value.bool).length = Nat.min T T := (by rw [List.length_map, HT.out]; exact (Nat.min_self T).symm); have hpos_ : 0 < (bs.map Value.bool).length → P = some ⟨g5, 1, none⟩ ∧ ∃ ad, B = some ad ∧ ∀ (j : Nat) v, (bs.map Value.bool)[j]? = some v → w2_.cell? (ad.add j) = some v := (fun h0 => (by rw [List.length_map, HT.out] at h0; obtain ⟨ad, e, hc⟩ := HCS.out h0; exact ⟨by rw [HP.out, if_neg (by omega)], ad, e, fun j v hj => pw_cell_below (below_step HL.out.below HB2.out) (hc j v hj)⟩)); have hfit_ : 1 + (bs.map Value.bool).length ≤ (List.replicate M (Value.bool false)).length := (by rw [List.length_map, HT.out, List.length_replicate]; exact m1); have h1_ : ∀ v ∈ bs.map Value.bool, v.oneCell' = true := (by intro v hv; obtain ⟨b, _, rfl⟩ := List.mem_map.1 hv; rfl); refine zcopyB (.tmp 20) (.tmp 21) HH.out hn_ hpos_ hfit_ h1_ HB2.out hge Try.underlying36 info4s ?_; clear hn_ hpos_ hfit_ h1_; intro w3_ hh3 hb3; have HR := am (evl_row (l := l) HL.out.below.size hge hh3.out HT.out m1 m2); replace HL := am (HL.out.step hb3); clear hh3 hb3 HH HB2 HP; have hk1 : w3_.cell? ⟨g2, 1, none⟩ = some (.slice A l.length c) := blk_cell (HL.out.get 0 rfl) 1))
  clear hk1
  have HL0 := am HL.out.drop
  clear HL
  go_loopw [5, 26] (fun v5 v26 wr => ∃ (i : Nat) (ys : List Bool), v26 = .int .i64 (i : Int) ∧ i ≤ l.length ∧ Aside0 (Led [] w wr) ∧ Aside0 (Rb wr w.heap.size v5 ys) ∧ Aside0 (ys = evl bs l i)) (fun _ v _ => l.length - (intOf v).toNat)
  case atStart => exact ⟨0, _, rfl, Nat.zero_le _, HL0, HR, ⟨rfl⟩⟩
  case round =>
    clear HL0 HR
    obtain ⟨i, ys, rfl, hi, HL, HR, HYS⟩ := hrel
    by_cases hlt : i < l.length
    · obtain ⟨ad, cx, rfl, hKx, hcx⟩ := el_get HC.out i hlt
      obtain ⟨hva, hvb⟩ := HOK.out i hlt
      have hyl : ys.length = 1 + T + i := by rw [HYS.out, evl_len, HT.out]
      have HSU := am (evl_succ bs l i hlt)
      obtain ⟨⟨xa, xb⟩, hx⟩ : ∃ x, l[i] = x := ⟨_, rfl⟩
      rw [hx] at hKx hva hvb HSU
      rw [← HYS.out] at HSU
      dsimp only at hva hvb HSU
      rw [HT.out] at hva hvb
      obtain rfl := k117_open hKx
      have HCX := am hcx
      obtain ⟨B5, q5, hv5⟩ := Kd.R_slice HR.out
      subst hv5
      have q0 : (0 : Int) ≤ (i : Int) := by omega
      have q1 : (i : Int) < (l.length : Int) := by omega
      have KA : Aside0 (∀ W, Kd.bool.C W B5 ys.length ys → Calls Try.prog 82 #[.slice B5 ys.length q5, .int .i64 xa] W (fun e w' => e = .returned (.bool (litB ys xa)) ∧ w' = W)) := ⟨fun W hC => litB_any ys B5 q5 xa W hC hva.1 (by have := hva.2; omega) (by have := hva.2; omega)⟩
      have KB_ : Aside0 (∀ W, Kd.bool.C W B5 ys.length ys → Calls Try.prog 82 #[.slice B5 ys.length q5, .int .i64 xb] W (fun e w' => e = .returned (.bool (litB ys xb)) ∧ w' = W)) := ⟨fun W hC => litB_any ys B5 q5 xb W hC hvb.1 (by have := hvb.2; omega) (by have := hvb.2; omega)⟩
      have HYL := am hyl
      obtain ⟨b1, hb1_⟩ : ∃ b, litB ys xa = b := ⟨_, rfl⟩
      obtain ⟨b2, hb2_⟩ : ∃ b, litB ys xb = b := ⟨_, rfl⟩
      rw [hb1_] at KA HSU
      rw [hb2_] at KB_ HSU
      clear hKx hcx hx hva hvb hyl HYS hb1_ hb2_
      cases b1
      all_goals
        go_wp2_with (first
          | ((with_reducible refine zg 29 rfl ?_); refine zle 29 117 (.tmp 28) [.int .i64 xa, .int .i64 xb] (HCX.out _ HL.out.below) hu117 ?_)
          | ((with_reducible refine zg 7 rfl ?_); refine zx 7 [.int .i64 0, .int .i64 0] 117 HL ?_; clear HL; intro g7 w5_ HL hb; replace HR := am (Kd.R_below HR.out hb); clear hb)
          | ((with_reducible refine zst 117 (.tmp 7) (.tmp 29) rfl ?_); refine zs 0 0 117 (.tmp 7) (.tmp 29) [.int .i64 xa, .int .i64 xb] HL ?_; intro w6_ HLn hfar; replace HR := am (RfarG HR.out HL.out 0 rfl hfar); replace HL := HLn; clear HLn hfar; have hj0 : w6_.cell? ⟨g7, 0, none⟩ = some (.int .i64 xa) := blk_cell (HL.out.get 0 rfl) 0; have hj1 : w6_.cell? ⟨g7, 1, none⟩ = some (.int .i64 xb) := blk_cell (HL.out.get 0 rfl) 1)
          | (go_at_call 82; have hC := (Kd.R_reads' HR.out).2.2; (with_reducible refine (KA.out _ hC).mono ?_); clear hC; rintro e w' ⟨rfl, rfl⟩)
          | (go_at_call 82; have hC := (Kd.R_reads' HR.out).2.2; (with_reducible refine (KB_.out _ hC).mono ?_); clear hC; rintro e w' ⟨rfl, rfl⟩)
          | ((with_reducible refine zg 42 rfl ?_); refine zap2 Kd.bool (.tmp 30) (.tmp 41) 36 4 _ [.bool _] HL HR Try.underlying36 info4 rfl (by have := HYL.out; omega) ?_; intro v42 w7_ HR2 HL2 hg hat; clear hg hat HR HL hj0 hj1))
        go_roundw
        case rel => exact ⟨i + 1, _, by go_num, by omega, ⟨HL2.out.drop⟩, HR2, ⟨by rw [HSU.out]; rfl⟩⟩
        case measure => simp [intOf]; omega
    · obtain rfl : i = l.length := by omega
      go_wp2
      go_ret
      have h1 := HR.out
      rw [HYS.out] at h1
      exact ⟨_, rfl, h1, HL.out.below⟩
theorem Led.swap {b c : Bx} {L : List Bx} {w0 w : World} (h : Led (b :: c :: L) w0 w) : Led (c :: b :: L) w0 w :=
  ⟨h.below, fun x hx => h.boxes x (by simp at hx ⊢; rcases hx with h | h | h; exact .inr (.inl h); exact .inl h; exact .inr (.inr h)), by
    have h1 := List.pairwise_cons.1 h.apart
    have h2 := List.pairwise_cons.1 h1.2
    refine List.pairwise_cons.2 ⟨fun x hx => ?_, List.pairwise_cons.2 ⟨fun x hx => h1.1 x (List.mem_cons_of_mem _ hx), h2.2⟩⟩
    rcases List.mem_cons.1 hx with rfl | hx
    · exact fun e => h1.1 c (by simp) e.symm
    · exact h2.1 x hx⟩
theorem put_comm (a : Act) {i j : Tmp} (u v : Value) (h : i ≠ j) : (a.put (some i) u).put (some j) v = (a.put (some j) v).put (some i) u := by
  simp only [Act.put]
  congr 1
  exact Array.setIfInBounds_comm u v h
section
variable {P : Program} {a : Act} {o : Oper}
theorem mk_run {W : World} {x : Operand} {n : Nat} (ht : P.underlying 36 = some (.slice 4)) (hinfo : (P.info? 4).map (fun i => (i.zero, i.size, i.bytes)) = some (some (.bool false), 1, 1)) (hl : n ≤ 100000000) (ho : o.op = .makeSlice 36 x x) (hx : a.eval x = .int .i64 (n : Int)) :
    (execOp a.eval o).run P W = .ok (.value (.slice (some ⟨W.heap.size, 0, none⟩) n n)) (W.alloc (.cells (List.replicate n (Value.bool false)).toArray 4)) := by
  obtain ⟨i0, hi, hzz⟩ := Option.map_eq_some_iff.1 hinfo
  simp only [Prod.mk.injEq] at hzz
  obtain ⟨hz0, hz1, hz2⟩ := hzz
  have hr := run_make (P := P) W 36 4 i0 (.bool false) ht hi hz0 .i64 .i64 (n : Int) (n : Int) (by omega) (by omega) (by rw [hz2]; omega) (by omega)
  simp only [Int.toNat_natCast] at hr
  rw [hz1, made_bools] at hr
  simp [execOp, ho, hx, hr]
end
section
variable {P : Program} {ops : Array Oper} {md : Region.Mode} {Q : Exit → Act → World → Prop} {S : World → Prop} {ds : List Nat}
/-- Two makes, in either order; the first one's slot is told behind it. -/
theorem twobx3 {oi oj ok : Oper} {fuel : Nat} {l : Array Bool} {a : Act} {w0 W : World} {L : List Bx} (i j k : Nat) (Ni Nj Nk : Tmp) (x y : Operand) (n m : Nat) (HL : Aside0 (Led L w0 W)) (ht : P.underlying 36 = some (.slice 4)) (hinfo : (P.info? 4).map (fun i => (i.zero, i.size, i.bytes)) = some (some (.bool false), 1, 1)) (hn : n ≤ 100000000) (hm : m ≤ 100000000)
    (hS : ∀ w1, Below W.heap.size W w1 → S w1)
    (h : ∀ gi gj w1, Aside0 (Led ((gj, List.replicate m (Value.bool false), 4) :: (gi, List.replicate n (Value.bool false), 4) :: L) w0 w1) → Below W.heap.size W w1 → S w1 → wpAnyLast P md ops Q S ds fuel (((l.setIfInBounds i true).setIfInBounds j true).setIfInBounds k true) (((a.put (some Ni) (.slice (some ⟨gi, 0, none⟩) n n)).put (some Nj) (.slice (some ⟨gj, 0, none⟩) m m)).put (some Nk) (.slice (some ⟨gi, 0, none⟩) n n)) w1)
    (hc : (Region.ready md ops l == [i, j] && l.setIfInBounds i true == l.setIfInBounds i true && l.setIfInBounds j true == l.setIfInBounds j true) = true := by kernel_rfl)
    (hcA : anyB md ops (l.setIfInBounds i true) ((l.setIfInBounds i true).setIfInBounds k true) k = true := by kernel_rfl)
    (hci : readyB md ops ((l.setIfInBounds i true).setIfInBounds k true) (((l.setIfInBounds i true).setIfInBounds j true).setIfInBounds k true) j = true := by kernel_rfl)
    (hcj : readyB md ops (l.setIfInBounds j true) ((l.setIfInBounds i true).setIfInBounds j true) i = true := by kernel_rfl)
    (hcB : anyB md ops ((l.setIfInBounds i true).setIfInBounds j true) (((l.setIfInBounds i true).setIfInBounds j true).setIfInBounds k true) k = true := by kernel_rfl)
    (hi : ops[i]? = some oi := by rfl) (hj : ops[j]? = some oj := by rfl) (hk : ops[k]? = some ok := by rfl) (hNi : oi.dst = some Ni := by rfl) (hNj : oj.dst = some Nj := by rfl) (hNk : ok.dst = some Nk := by rfl) (hne : Ni ≠ Nj := by decide) (hnk : Nj ≠ Nk := by decide) (hdi : i ∉ ds := by decide) (hdj : j ∉ ds := by decide)
    (hoi : oi.op = .makeSlice 36 x x := by rfl) (hoj : oj.op = .makeSlice 36 y y := by rfl) (hok : ok.op = .assign (.tmp Ni) := by rfl) (hwi : oi.guard = none := by rfl) (hwj : oj.guard = none := by rfl) (hwk : ok.guard = none := by rfl)
    (hQ : ∀ v c a w, Q (.panic c) (a.put ok.dst v) w → Q (.panic c) a w := by exact (fun _ _ _ _ h => h))
    (hx : a.eval x = .int .i64 (n : Int) := by rfl) (hy : a.eval y = .int .i64 (m : Int) := by rfl) (hx2 : ∀ u, (a.put (some Nj) u).eval x = .int .i64 (n : Int) := by intro u; rfl) (hy2 : ∀ u u', ((a.put (some Ni) u).put (some Nk) u').eval y = .int .i64 (m : Int) := by intro u u'; rfl)
    (he1 : ∀ u, (a.put (some Ni) u).eval (.tmp Ni) = u := by intro u; rfl) (he2 : ∀ u u', ((a.put (some Nj) u').put (some Ni) u).eval (.tmp Ni) = u := by intro u u'; rfl) : wpAnyLast P md ops Q S ds (fuel + 1 + 1 + 1) l a W := by
  have hw1 : ∀ (oo : Oper) (aa : Act), oo.guard = none → Region.wanted oo (yielded ops aa.tmps) = true := fun oo aa h => by simp [Region.wanted, h]
  have hyk : ∀ (aa : Act) (v : Value), aa.eval (.tmp Ni) = v → Yields P ops ok v aa := fun aa v he => Or.inl ⟨hw1 _ _ hwk, fun w' => by simp [execOp, hok, he]⟩
  refine two_ (Ni := some Ni) (Nj := some Nj) _ _ hi hj hNi hNj hc hdi hdj (fun K hK => ?_) (fun K hK => ?_)
  · have hb1 : Below W.heap.size W (W.alloc (.cells (List.replicate n (Value.bool false)).toArray 4)) := below_alloc (Below.refl _ _) _
    rw [← hNi]
    refine event_step (hw1 _ _ hwi) (mk_run ht hinfo hn hoi hx) (hK.out _ _ (hS _ hb1) (fun hs => ?_))
    rw [hNi]
    refine pure_ _ hk hNk hcA (hQ _) (hyk _ _ (he1 _)) rfl ?_
    refine one_ (N := some Nj) _ hj hNj hci hdj (fun K2 hK2 => ?_)
    have hb2 : Below W.heap.size W ((W.alloc (.cells (List.replicate n (Value.bool false)).toArray 4)).alloc (.cells (List.replicate m (Value.bool false)).toArray 4)) := below_alloc hb1 _
    rw [← hNj]
    refine event_step (hw1 _ _ hwj) (mk_run ht hinfo hm hoj (hy2 _ _)) (hK2.out _ _ (hS _ hb2) (fun hs2 => ?_))
    rw [hNj, put_comm _ _ _ (fun e => hnk e.symm)]
    exact h _ _ _ ⟨(HL.out.box rfl (blk_new W _) (below_alloc (Below.refl _ _) _)).box rfl (blk_new _ _) (below_alloc (Below.refl _ _) _)⟩ hb2 hs2
  · have hb1 : Below W.heap.size W (W.alloc (.cells (List.replicate m (Value.bool false)).toArray 4)) := below_alloc (Below.refl _ _) _
    rw [← hNj]
    refine event_step (hw1 _ _ hwj) (mk_run ht hinfo hm hoj hy) (hK.out _ _ (hS _ hb1) (fun hs => ?_))
    rw [hNj]
    refine one_ (N := some Ni) _ hi hNi hcj hdi (fun K2 hK2 => ?_)
    have hb2 : Below W.heap.size W ((W.alloc (.cells (List.replicate m (Value.bool false)).toArray 4)).alloc (.cells (List.replicate n (Value.bool false)).toArray 4)) := below_alloc hb1 _
    rw [← hNi]
    refine event_step (hw1 _ _ hwi) (mk_run ht hinfo hn hoi (hx2 _)) (hK2.out _ _ (hS _ hb2) (fun hs2 => ?_))
    rw [hNi]
    refine pure_ _ hk hNk hcB (hQ _) (hyk _ _ (he2 _ _)) rfl ?_
    rw [put_comm a _ _ (fun e => hne e.symm)]
    exact h _ _ _ ⟨((HL.out.box rfl (blk_new W _) (below_alloc (Below.refl _ _) _)).box rfl (blk_new _ _) (below_alloc (Below.refl _ _) _)).swap⟩ hb2 hs2
/-- A row of bools behind one, in a region that draws. -/
theorem onapB {oi : Oper} {fuel : Nat} {l : Array Bool} {a : Act} {w0 W : World} {L : List Bx} (i : Nat) (N : Tmp) (s x : Operand) {v : Value} {xs ys : List Bool} {B : Option Addr} {c : Nat}
    (HL : Aside0 (Led L w0 W)) (HO : Aside0 (Rb W w0.heap.size v xs)) (HC : Kd.bool.C W B ys.length ys) (ht : P.underlying 36 = some (.slice 4)) (hinfo : (P.info? 4).map (fun i => (i.zero, i.size, i.bytes)) = some (some (.bool false), 1, 1)) (hl : xs.length + ys.length ≤ 100000000) (zs : List Bool) (n : Nat) (hz : xs ++ ys = zs) (hn : zs.length = n)
    (hS : ∀ w1, Led L w0 w1 → S w1)
    (h : ∀ B1 q1 w1, Aside0 (Rb w1 w0.heap.size (.slice B1 n q1) zs) → Aside0 (Led L w0 w1) → S w1 → wpAnyLast P md ops Q S ds fuel (l.setIfInBounds i true) (a.put (some N) (.slice B1 n q1)) w1)
    (hne : ∀ b, b ∈ L → 4 ≠ b.2.2 := by simp)
    (hc : readyB md ops l (l.setIfInBounds i true) i = true := by kernel_rfl) (hi : ops[i]? = some oi := by rfl) (hN : oi.dst = some N := by rfl) (hd : i ∉ ds := by decide) (hw : Region.wanted oi (yielded ops a.tmps) = true := by rfl)
    (ho : oi.op = .call { callee := .builtin .append, args := #[s, x], argTypes := #[36, 36] } := by rfl) (hs : a.eval s = v := by rfl) (hx : a.eval x = .slice B ys.length c := by rfl) : wpAnyLast P md ops Q S ds (fuel + 1) l a W := by
  subst hz
  subst hn
  refine one_ (N := some N) _ hi hN hc hd (fun K hK => ?_)
  rw [← hN]
  refine Kd.R_append_rows_step Kd.bool (w0 := w0) w0.heap.size hw s x 36 4 (.bool false) 1 ho ht hinfo rfl (by decide) (by decide) v xs ys B _ c Any (fun _ => False) hs hx HO.out HC (fun _ _ h => h) (fun _ h => h.elim) (fun _ _ => trivial) HL.out.below HL.out.below.size (by omega)
    (fun v1 w1 h1 hb hg _ => ?_)
  have HL1 : Led L w0 w1 := HL.out.grown HO.out hg hb hne
  obtain ⟨B1, q1, rfl⟩ := Kd.R_slice h1
  refine hK.out _ _ (hS _ HL1) (fun hs2 => ?_)
  rw [hN]
  exact h B1 q1 w1 ⟨h1⟩ ⟨HL1⟩ hs2
end
/-- What properties are, and latches next. -/
def litsB (V : List Bool) (l : List Int) : List Bool := l.map (litB V)
def RetStep (c : S35) (V : List Bool) (w : World) (e : Ending) (w' : World) : Prop := ∃ v1 v2, e = .returned (.tuple #[v1, v2]) ∧ Rb w' w.heap.size v1 (c.f2.map (fun x => litB V x.f1)) ∧ Rb w' w.heap.size v2 (c.f3.map (fun x => litB V x.f1)) ∧ Below w.heap.size w w'
/-- A row of bools that is filled up to i. -/
def FB {α : Type} (V : List Bool) (l : List α) (f : α → Int) (i : Nat) : List Value := (l.take i).map (fun x => Value.bool (litB V (f x))) ++ List.replicate (l.length - i) (Value.bool false)
theorem FB_zero {α : Type} (V : List Bool) (l : List α) (f : α → Int) : FB V l f 0 = List.replicate l.length (Value.bool false) := by unfold FB; simp
theorem FB_len {α : Type} (V : List Bool) (l : List α) (f : α → Int) (i : Nat) (h : i ≤ l.length) : (FB V l f i).length = l.length := fill_len _ _ _ _ h
theorem FB_set {α : Type} (V : List Bool) (l : List α) (f : α → Int) (i : Nat) (h : i < l.length) : (FB V l f i).take i ++ [Value.bool (litB V (f l[i]))] ++ (FB V l f i).drop (i + [Value.bool (litB V (f l[i]))].length) = FB V l f (i + 1) := by
  have h1 := fill_set (fun x => Value.bool (litB V (f x))) l i (Value.bool false) h
  have h2 : i < (FB V l f i).length := by rw [FB_len _ _ _ _ (by omega)]; exact h
  have h3 : (FB V l f i).set i (Value.bool (litB V (f l[i]))) = FB V l f (i + 1) := h1
  rw [← h3, List.set_eq_take_append_cons_drop, if_pos h2]
  simp
theorem FB_row {α : Type} {w : World} {base g : Nat} (V : List Bool) (l : List α) (f : α → Int) (hb : base ≤ g) (hh : w.heap[g]? = some (.cells (FB V l f l.length).toArray 4 (0, 0))) (hl : l.length ≤ 100000000) : Rb w base (.slice (some ⟨g, 0, none⟩) l.length l.length) (l.map (fun x => litB V (f x))) :=
  row_of_block hb hh (FB_len _ _ _ _ (Nat.le_refl _)) (Nat.le_refl _) hl (by
    rw [List.take_of_length_le (by rw [FB_len _ _ _ _ (Nat.le_refl _)]; exact Nat.le_refl _)]
    unfold FB
    rw [fill_all, List.map_map]; rfl) (List.length_map ..)
set_option maxHeartbeats 64000000 in
set_option maxRecDepth 100000 in
theorem step_any (c : S35) (cs : List Value) (s : List Bool) (A : Option Addr) (ca : Nat) (ins : List Bool) (B : Option Addr) (cb : Nat) (w : World) (h : k35.K w c cs) (ok : CircOk c) (hs : Kd.bool.C w A s.length s) (hi : Kd.bool.C w B ins.length ins) (hsl : s.length = c.f2.length) (hil : ins.length = c.f1.length) :
    Calls Try.prog 61 #[.agg cs.toArray, .slice A s.length ca, .slice B ins.length cb] w (RetStep c (evl (ins ++ s) c.f0.f1 c.f0.f1.length) w) := by
  obtain ⟨A1, c1, A2, c2, A3, c3, A4, c4, rfl, _, hC0, _, _, _, hC2, _, hC3⟩ := k35_open h
  have HC2 := am hC2
  have HC3 := am hC3
  have HS := am hs
  have HI := am hi
  have hbl : (((ins ++ s).length : Nat) : Int) = c.f0.f0 := by have := ok.ins; rw [List.length_append, hsl, hil]; exact this
  obtain ⟨_, _, ha1, ha2⟩ := ok.fit
  have ha3 := ok.len
  have ha4 := ok.lout
  have hm2 : c.f2.length ≤ 9223372036854775807 := hC2.2.1
  have hm3 : c.f3.length ≤ 9223372036854775807 := hC3.2.1
  have hVV : (evl (ins ++ s) c.f0.f1 c.f0.f1.length).length = 1 + (ins ++ s).length + c.f0.f1.length := evl_len _ _ _
  have hbn : (ins ++ s).length ≤ 1000000 := by have := ok.i1; omega
  have hpn : ins.length + s.length ≤ 1000000 := by rw [List.length_append] at hbn; exact hbn
  have KE : Aside0 (∀ W, Below w.heap.size w W → ∀ B cb, Kd.bool.C W B (ins ++ s).length (ins ++ s) → Calls Try.prog 60 #[.agg #[.int .i64 c.f0.f0, .slice A1 c.f0.f1.length c1], .slice B (ins ++ s).length cb] W (fun e w' => ∃ v, e = .returned v ∧ (Rb w' W.heap.size v (evl (ins ++ s) c.f0.f1 c.f0.f1.length) ∧ Below W.heap.size W w'))) :=
    ⟨fun W hb B cb hB => eval_any c.f0.f0 c.f0.f1 A1 c1 (ins ++ s) B cb W (Kd.C_below hC0 hb) ok.ok hB hbl hbn (by omega)⟩
  have HV2 : Aside0 (∀ (i : Nat) (h : i < c.f2.length), 0 ≤ c.f2[i].f1 ∧ c.f2[i].f1 < 2 * (((evl (ins ++ s) c.f0.f1 c.f0.f1.length).length : Nat) : Int)) := ⟨fun i hi2 => by have h1 := (ok.lats i hi2).2; rw [hVV]; exact ⟨h1.1, by have := h1.2; omega⟩⟩
  have HV3 : Aside0 (∀ (i : Nat) (h : i < c.f3.length), 0 ≤ c.f3[i].f1 ∧ c.f3[i].f1 < 2 * (((evl (ins ++ s) c.f0.f1 c.f0.f1.length).length : Nat) : Int)) := ⟨fun i hi2 => by have h1 := ok.outs i hi2; rw [hVV]; exact ⟨h1.1, by have := h1.2; omega⟩⟩
  obtain ⟨V, hV⟩ : ∃ V, evl (ins ++ s) c.f0.f1 c.f0.f1.length = V := ⟨_, rfl⟩
  rw [hV] at KE HV2 HV3 hVV ⊢
  have HVL : Aside0 (V.length ≤ 10000000) := ⟨by rw [hVV]; omega⟩
  obtain ⟨bs, hbs⟩ : ∃ bs, ins ++ s = bs := ⟨_, rfl⟩
  rw [hbs] at KE
  have HBS := am hbs
  have HL : Aside0 (Led [] w w) := ⟨Led.nil w⟩
  have hu35 := Try.underlying35
  have hu84 := Try.underlying84
  have hu88 := Try.underlying88
  have hu30 := Try.underlying30
  clear h hs hi hC0 hC2 hC3 hsl hil hbl hVV hV hbn hbs ok
  go_enter Try.func61, Try.ntmps61
  go_upto_region 2 with (first
    | ((with_reducible refine zg 3 rfl ?_); refine zx 3 [.int .i64 c.f0.f0, .slice A1 c.f0.f1.length c1, .slice A2 c.f1.length c2, .slice A3 c.f2.length c3, .slice A4 c.f3.length c4] 35 HL ?_; clear HL; intro g3 w1_ HL hb; clear hb)
    | ((with_reducible refine zg 21 rfl ?_); refine zmkcap 21 (.const (.int .i64 0)) (.tmp 20) 0 (ins.length + s.length) HL Try.underlying36 info4 (Nat.zero_le _) (by omega) ?_; intro g8 w2_ hh hge hb; have HR : Aside0 (Rb w2_ w.heap.size (.slice (some ⟨g8, 0, none⟩) 0 (ins.length + s.length)) []) := ⟨row_of_block (Nat.le_trans HL.out.below.size hge) hh (List.length_replicate ..) (Nat.zero_le _) (by omega) rfl rfl⟩; replace HL := am (HL.out.step hb); clear hh hge hb))
  have k0 : w2_.cell? ⟨g3, 0, none⟩ = some (.int .i64 c.f0.f0) := blk_cell (HL.out.get 0 rfl) 0
  have k1 : w2_.cell? ⟨g3, 1, none⟩ = some (.slice A1 c.f0.f1.length c1) := blk_cell (HL.out.get 0 rfl) 1
  have HL1 := am HL.out.drew
  have HR1 := am (Kd.R_below HR.out (below_drew (Below.refl _ _)))
  refine start_ (n := 9) (S := fun W => (W.cell? ⟨g3, 0, none⟩ = some (.int .i64 c.f0.f0) ∧ W.cell? ⟨g3, 1, none⟩ = some (.slice A1 c.f0.f1.length c1)) ∧ Aside0 (Below w.heap.size w W)) (ds := []) #[false, false, false, false, false, false, false, false, false] (by kernel_rfl) rfl rfl ⟨⟨k0, k1⟩, ⟨HL1.out.below⟩⟩ (fun hHeld => ?_)
  refine pu 0 22 ?_
  refine tk 1 23 hHeld ?_
  refine pu 2 24 ?_
  refine pu 3 25 ?_
  refine pu 5 27 ?_
  refine onapB 4 26 (.tmp 24) (.tmp 25) HL1 HR1 (Kd.C_below HI.out HL1.out.below) Try.underlying36 info4 (by simp only [List.length_nil]; omega) ins ins.length (List.nil_append _) rfl (fun w1 hL => ⟨⟨blk_cell (hL.get 0 rfl) 0, blk_cell (hL.get 0 rfl) 1⟩, ⟨hL.below⟩⟩) ?_
  intro B26 q26 w3_ HR2 HL2 hHeld2
  refine norm_ (a' := ?_) ?_ ?_
  rotate_left
  · simp only [Act.put, List.setIfInBounds_toArray, List.set_cons_zero, List.set_cons_succ]; rfl
  refine onapB 6 28 (.tmp 26) (.tmp 27) HL2 HR2 (Kd.C_below HS.out HL2.out.below) Try.underlying36 info4 (by omega) bs bs.length HBS.out rfl (fun w1 hL => ⟨⟨blk_cell (hL.get 0 rfl) 0, blk_cell (hL.get 0 rfl) 1⟩, ⟨hL.below⟩⟩) ?_
  intro B28 q28 w4_ HR3 HL3 hHeld3
  refine norm_ (a' := ?_) ?_ ?_
  rotate_left
  · simp only [Act.put, List.setIfInBounds_toArray, List.set_cons_zero, List.set_cons_succ]; rfl
  refine clE 7 29 60 Try.func60 (fun v w' => Rb w' w4_.heap.size v V ∧ Below w4_.heap.size w4_ w') (KE.out _ HL3.out.below B28 q28 (Kd.R_reads' HR3.out).2.2) (fun v we hr => ⟨⟨pw_cell_below hr.2 hHeld3.1.1, pw_cell_below hr.2 hHeld3.1.2⟩, ⟨(HL3.out.step hr.2).below⟩⟩) ?_
  rintro v29 wE ⟨hr, hb3⟩ hHeld4
  obtain ⟨B9, q9, rfl⟩ := Kd.R_slice hr
  have HCV := am (Kd.R_reads' hr).2.2
  have HL4 := am (HL3.out.step hb3)
  have hmV := HVL.out
  refine norm_ (a' := ?_) ?_ ?_
  rotate_left
  · simp only [Act.put, List.setIfInBounds_toArray, List.set_cons_zero, List.set_cons_succ]; rfl
  refine pu 8 9 ?_
  refine done_ (by kernel_rfl) ?_
  clear k0 k1 HL1 HR1 hHeld HR2 HL2 hHeld2 HR3 HL3 hHeld3 hr hb3 hHeld4 HL HR KE
  have HWE : Aside0 (Below w.heap.size w wE) := ⟨HL4.out.below⟩
  have HK2 : Aside0 (wE.cell? ⟨g3, 3, none⟩ = some (.slice A3 c.f2.length c3)) := ⟨blk_cell (HL4.out.get 0 rfl) 3⟩
  have HK3 : Aside0 (wE.cell? ⟨g3, 4, none⟩ = some (.slice A4 c.f3.length c4)) := ⟨blk_cell (HL4.out.get 0 rfl) 4⟩
  replace HC2 := am (Kd.C_below HC2.out HWE.out)
  replace HC3 := am (Kd.C_below HC3.out HWE.out)
  clear HL4 HS HI
  have HL : Aside0 (Led [] wE wE) := ⟨Led.nil wE⟩
  go_upto_region 3 with (fail)
  have hbd : Below wE.heap.size wE wE.drew := below_drew (Below.refl _ _)
  have HL1 := am HL.out.drew
  refine start_ (n := 10) (S := fun W => (W.cell? ⟨g3, 3, none⟩ = some (.slice A3 c.f2.length c3) ∧ W.cell? ⟨g3, 4, none⟩ = some (.slice A4 c.f3.length c4)) ∧ Aside0 (Below wE.heap.size wE W)) (ds := []) #[false, false, false, false, false, false, false, false, false, false] (by kernel_rfl) rfl rfl ⟨⟨pw_cell_below hbd HK2.out, pw_cell_below hbd HK3.out⟩, ⟨hbd⟩⟩ (fun hHeld => ?_)
  refine pu 0 30 ?_
  refine tk 1 31 hHeld ?_
  refine pu 2 32 ?_
  refine pu 4 34 ?_
  refine tk 5 35 hHeld ?_
  refine pu 6 36 ?_
  refine twobx3 3 7 8 33 37 10 (.tmp 32) (.tmp 36) c.f2.length c.f3.length HL1 Try.underlying36 info4 (by omega) (by omega) (fun w1 hb => ⟨⟨pw_cell_below hb hHeld.1.1, pw_cell_below hb hHeld.1.2⟩, ⟨below_step hHeld.2.out hb⟩⟩) ?_
  intro g10 g11 w5_ HL5 hb5 hHeld5
  refine norm_ (a' := ?_) ?_ ?_
  rotate_left
  · simp only [Act.put, List.setIfInBounds_toArray, List.set_cons_zero, List.set_cons_succ]; rfl
  refine pu 9 11 ?_
  refine done_ (by kernel_rfl) ?_
  clear HL HL1 hHeld hHeld5 hb5 hbd
  have HL := HL5
  clear HL5
  have hk2 := pw_cell_below HL.out.below HK2.out
  go_wp2_with (fail)
  clear hk2
  go_loopw [41] (fun v wr => ∃ i : Nat, v = .int .i64 (i : Int) ∧ i ≤ c.f2.length ∧ Aside0 (Led [(g11, List.replicate c.f3.length (Value.bool false), 4), (g10, FB V c.f2 S84.f1 i, 4)] wE wr)) (fun v _ => c.f2.length - (intOf v).toNat)
  case atStart => exact ⟨0, rfl, Nat.zero_le _, ⟨by rw [FB_zero]; exact HL.out⟩⟩
  case round =>
    clear HL
    obtain ⟨i, rfl, hi, HL⟩ := hrel
    by_cases hlt : i < c.f2.length
    · have HSE := am (FB_set V c.f2 S84.f1 i hlt)
      obtain ⟨ad, cx, rfl, hKx, hcx⟩ := el_get HC2.out i hlt
      have hvx := HV2.out i hlt
      obtain ⟨⟨xv, xn, xi, x3, x4⟩, hx⟩ : ∃ x, c.f2[i] = x := ⟨_, rfl⟩
      rw [hx] at hKx HSE hvx
      dsimp only at HSE hvx
      obtain rfl := k84_open hKx
      have HCX := am hcx
      have q0 : (0 : Int) ≤ (i : Int) := by omega
      have q1 : (i : Int) < (c.f2.length : Int) := by omega
      have KL : Aside0 (∀ W, Below wE.heap.size wE W → Calls Try.prog 82 #[.slice B9 V.length q9, .int .i64 xn] W (fun e w' => e = .returned (.bool (litB V xn)) ∧ w' = W)) := ⟨fun W hb => litB_any V B9 q9 xn W (Kd.C_below HCV.out hb) hvx.1 hvx.2 (by have := hvx.2; omega)⟩
      obtain ⟨b, hb_⟩ : ∃ b, litB V xn = b := ⟨_, rfl⟩
      rw [hb_] at KL HSE
      have hsz : i + [Value.bool b].length ≤ (FB V c.f2 S84.f1 i).length := by rw [FB_len _ _ _ _ hi]; exact hlt
      have HSZ := am hsz
      clear hKx hcx hx hvx hb_ hsz
      go_wp2_with (first
        | ((with_reducible refine zg 45 rfl ?_); refine zle 45 84 (.tmp 44) [.int .i64 xv, .int .i64 xn, .bool xi, .int .i64 x3, .int .i64 x4] (HCX.out _ HL.out.below) hu84 ?_)
        | ((with_reducible refine zg 13 rfl ?_); refine zx 13 [.int .i64 0, .int .i64 0, .bool false, .int .i64 0, .int .i64 0] 84 HL ?_; clear HL; intro g13 w5_ HL hb; clear hb)
        | ((with_reducible refine zst 84 (.tmp 13) (.tmp 45) rfl ?_); refine zs 0 0 84 (.tmp 13) (.tmp 45) [.int .i64 xv, .int .i64 xn, .bool xi, .int .i64 x3, .int .i64 x4] HL ?_; intro w6_ HLn hfar; replace HL := HLn; clear HLn hfar; have hj1 : w6_.cell? ⟨g13, 1, none⟩ = some (.int .i64 xn) := blk_cell (HL.out.get 0 rfl) 1)
        | (go_at_call 82; refine (KL.out _ HL.out.below).mono ?_; rintro e w' ⟨rfl, rfl⟩)
        | ((with_reducible refine zst 4 (.tmp 52) (.tmp 51) rfl ?_); refine zs 2 i 4 (.tmp 52) (.tmp 51) [.bool b] HL ?_ (hsz := HSZ.out); intro w7_ HLn hfar; clear hfar hj1 HL))
      have HL8 : Led [(g11, List.replicate c.f3.length (Value.bool false), 4), (g10, FB V c.f2 S84.f1 (i + 1), 4)] wE w7_ := by have h7 := HLn.out.drop; rw [HSE.out] at h7; exact h7
      go_roundw
      case rel => exact ⟨i + 1, by go_num, by omega, ⟨HL8⟩⟩
      case measure => simp [intOf]; omega
    · obtain rfl : i = c.f2.length := by omega
      have hk3 := pw_cell_below HL.out.below HK3.out
      go_wp2_with (fail)
      clear hk3
      go_loopw [57] (fun v wr => ∃ i : Nat, v = .int .i64 (i : Int) ∧ i ≤ c.f3.length ∧ Aside0 (Led [(g11, FB V c.f3 S88.f1 i, 4), (g10, FB V c.f2 S84.f1 c.f2.length, 4)] wE wr)) (fun v _ => c.f3.length - (intOf v).toNat)
      case atStart => exact ⟨0, rfl, Nat.zero_le _, ⟨by rw [FB_zero]; exact HL.out⟩⟩
      case round =>
        clear HL
        obtain ⟨i, rfl, hi, HL⟩ := hrel
        by_cases hlt : i < c.f3.length
        · have HSE := am (FB_set V c.f3 S88.f1 i hlt)
          obtain ⟨ad, cx, rfl, hKx, hcx⟩ := el_get HC3.out i hlt
          have hvx := HV3.out i hlt
          obtain ⟨⟨xv, xn, x2⟩, hx⟩ : ∃ x, c.f3[i] = x := ⟨_, rfl⟩
          rw [hx] at hKx HSE hvx
          dsimp only at HSE hvx
          obtain rfl := k88_open hKx
          have HCX := am hcx
          have q0 : (0 : Int) ≤ (i : Int) := by omega
          have q1 : (i : Int) < (c.f3.length : Int) := by omega
          have KL : Aside0 (∀ W, Below wE.heap.size wE W → Calls Try.prog 82 #[.slice B9 V.length q9, .int .i64 xn] W (fun e w' => e = .returned (.bool (litB V xn)) ∧ w' = W)) := ⟨fun W hb => litB_any V B9 q9 xn W (Kd.C_below HCV.out hb) hvx.1 hvx.2 (by have := hvx.2; omega)⟩
          obtain ⟨b, hb_⟩ : ∃ b, litB V xn = b := ⟨_, rfl⟩
          rw [hb_] at KL HSE
          have hsz : i + [Value.bool b].length ≤ (FB V c.f3 S88.f1 i).length := by rw [FB_len _ _ _ _ hi]; exact hlt
          have HSZ := am hsz
          clear hKx hcx hx hvx hb_ hsz
          go_wp2_with (first
            | ((with_reducible refine zg 61 rfl ?_); refine zle 61 88 (.tmp 60) [.int .i64 xv, .int .i64 xn, .int .i64 x2] (HCX.out _ HL.out.below) hu88 ?_)
            | ((with_reducible refine zg 15 rfl ?_); refine zx 15 [.int .i64 0, .int .i64 0, .int .i64 0] 88 HL ?_; clear HL; intro g15 w5_ HL hb; clear hb)
            | ((with_reducible refine zst 88 (.tmp 15) (.tmp 61) rfl ?_); refine zs 0 0 88 (.tmp 15) (.tmp 61) [.int .i64 xv, .int .i64 xn, .int .i64 x2] HL ?_; intro w6_ HLn hfar; replace HL := HLn; clear HLn hfar; have hj1 : w6_.cell? ⟨g15, 1, none⟩ = some (.int .i64 xn) := blk_cell (HL.out.get 0 rfl) 1)
            | (go_at_call 82; refine (KL.out _ HL.out.below).mono ?_; rintro e w' ⟨rfl, rfl⟩)
            | ((with_reducible refine zst 4 (.tmp 68) (.tmp 67) rfl ?_); refine zs 1 i 4 (.tmp 68) (.tmp 67) [.bool b] HL ?_ (hsz := HSZ.out); intro w7_ HLn hfar; clear hfar hj1 HL))
          have HL8 : Led [(g11, FB V c.f3 S88.f1 (i + 1), 4), (g10, FB V c.f2 S84.f1 c.f2.length, 4)] wE w7_ := by have h7 := HLn.out.drop; rw [HSE.out] at h7; exact h7
          go_roundw
          case rel => exact ⟨i + 1, by go_num, by omega, ⟨HL8⟩⟩
          case measure => simp [intOf]; omega
        · obtain rfl : i = c.f3.length := by omega
          go_wp2
          go_ret2
          exact ⟨_, _, rfl, FB_row V c.f2 S84.f1 (Nat.le_trans HWE.out.size (HL.out.base 1 rfl)) (HL.out.get 1 rfl) (by omega), FB_row V c.f3 S88.f1 (Nat.le_trans HWE.out.size (HL.out.base 0 rfl)) (HL.out.get 0 rfl) (by omega), below_step HWE.out HL.out.below⟩
theorem C_agree {W W2 : World} {A : Option Addr} {l : List Bool} (h : Kd.bool.C W A l.length l) (ha : ∀ ad, A = some ad → 0 < l.length → W2.heap[ad.block]? = W.heap[ad.block]?) : Kd.bool.C W2 A l.length l := by
  refine ⟨h.1, h.2.1, fun hp => ?_⟩
  obtain ⟨ad, e, hc⟩ := h.2.2 hp
  refine ⟨ad, e, fun j p hj => ?_⟩
  obtain ⟨cs, h1, h2, h3⟩ := hc j p hj
  refine ⟨cs, h1, h2, fun i u hu => ?_⟩
  have h4 := h3 i u hu
  have h5 := ha ad e hp
  unfold World.cell? at h4 ⊢
  have hb : (ad.add (j * Kd.bool.sz + i)).block = ad.block := by unfold Addr.add; split <;> rfl
  rw [hb] at h4 ⊢
  rw [h5]; exact h4
theorem C_lt {W : World} {ad : Addr} {l : List Bool} (h : Kd.bool.C W (some ad) l.length l) (hp : 0 < l.length) : ad.block < W.heap.size := by
  obtain ⟨ad', e, hc⟩ := atB h 0 hp
  cases e
  have := World.block_lt_of_cell? W _ hc
  have hb : (ad.add 0).block = ad.block := by unfold Addr.add; split <;> rfl
  rw [hb] at this; exact this
/-- A row that is read, apart from two that grow. -/
def Apt (W : World) (A : Option Addr) (l : List Bool) (u v : Value) : Prop := Kd.bool.C W A l.length l ∧ ∀ ad, A = some ad → 0 < l.length → some ad.block ≠ u.ownBlock ∧ some ad.block ≠ v.ownBlock
theorem Apt.below {W W1 : World} {A : Option Addr} {l : List Bool} {u v : Value} (h : Apt W A l u v) (hb : Below W.heap.size W W1) : Apt W1 A l u v := ⟨Kd.C_below h.1 hb, h.2⟩
theorem Apt.grow {W W1 : World} {A : Option Addr} {l : List Bool} {u u1 v : Value} (h : Apt W A l u v) (hg : W.grownBy W1 u.ownBlock) (hat : u1.ownBlock = u.ownBlock ∨ ∃ b, u1.ownBlock = some b ∧ W.heap.size ≤ b) : Apt W1 A l u1 v :=
  ⟨C_agree h.1 (fun ad e hp => by subst e; exact hg.block _ (C_lt h.1 hp) (h.2 ad rfl hp).1), fun ad e hp => ⟨fun he => by
    subst e
    rcases hat with h1 | ⟨b, h1, h2⟩
    · exact (h.2 ad rfl hp).1 (he.trans h1)
    · rw [h1] at he
      injection he with he
      have := C_lt h.1 hp
      omega, (h.2 ad e hp).2⟩⟩
theorem Apt.flip {W : World} {A : Option Addr} {l : List Bool} {u v : Value} (h : Apt W A l u v) : Apt W A l v u := ⟨h.1, fun ad e hp => ⟨(h.2 ad e hp).2, (h.2 ad e hp).1⟩⟩
theorem Apt.growv {W W1 : World} {A : Option Addr} {l : List Bool} {u v v1 : Value} (h : Apt W A l u v) (hg : W.grownBy W1 v.ownBlock) (hat : v1.ownBlock = v.ownBlock ∨ ∃ b, v1.ownBlock = some b ∧ W.heap.size ≤ b) : Apt W1 A l u v1 := (h.flip.grow hg hat).flip
/-- A row that was made when both were there. -/
theorem Apt.new {W1 : World} {B : Nat} {A : Option Addr} {c : Nat} {l : List Bool} {u v : Value} (h : Rb W1 B (.slice A l.length c) l) (hu : ∀ k, u.ownBlock = some k → k < B) (hv : ∀ k, v.ownBlock = some k → k < B) : Apt W1 A l u v :=
  ⟨(Kd.R_reads' h).2.2, fun ad e hp => by
    subst e
    have hb : B ≤ ad.block := ((Kd.R_bound h).1 ad.block rfl).2.1
    exact ⟨fun he => by have := hu _ he.symm; omega, fun he => by have := hv _ he.symm; omega⟩⟩
theorem R_ltB {α : Type} {d : Kd α} {e : Nat} {w : World} {b : Nat} {ok : Nat → Prop} {v : Value} {xs : List α} (h : d.R e w b ok v xs) : ∀ k, v.ownBlock = some k → k < w.heap.size := fun k hk => ((Kd.R_bound h).1 k hk).2.2.1
section
variable {P : Program} {ops : Array Oper} {rest : List Oper} {o : Oper} {a : Act} {Q : Exit → Act → World → Prop}
/-- append(out, bs...). -/
theorem zapsB {w0 W : World} {L : List Bx} (s x : Operand) {v : Value} {xs ys : List Bool} {A : Option Addr} {c : Nat}
    (HL : Aside0 (Led L w0 W)) (HO : Aside0 (Rb W w0.heap.size v xs)) (HC : Kd.bool.C W A ys.length ys) (ht : P.underlying 36 = some (.slice 4)) (hinfo : (P.info? 4).map (fun i => (i.zero, i.size, i.bytes)) = some (some (.bool false), 1, 1)) (hl : xs.length + ys.length ≤ 1000000000)
    (h : ∀ v1 w1, Aside0 (Rb w1 w0.heap.size v1 (xs ++ ys)) → Aside0 (Led L w0 w1) → W.grownBy w1 v.ownBlock → (v1.ownBlock = v.ownBlock ∨ ∃ b, v1.ownBlock = some b ∧ W.heap.size ≤ b) → wpList P ops Q rest (a.put o.dst v1) w1)
    (hne : ∀ b, b ∈ L → 4 ≠ b.2.2 := by simp) (ho : o.op = .call { callee := .builtin .append, args := #[s, x], argTypes := #[36, 36] } := by rfl) (hgd : o.guard = none := by rfl)
    (hs : a.eval s = v := by rfl) (hx : a.eval x = .slice A ys.length c := by rfl) : wpList P ops Q (o :: rest) a W :=
  Kd.R_append_rows Kd.bool (w0 := w0) w0.heap.size hgd s x 36 4 (.bool false) 1 ho ht hinfo rfl (by decide) (by decide) v xs ys A ys.length c Any (fun _ => False) hs hx HO.out HC (fun _ _ h => h) (fun _ h => h.elim) (fun _ _ => trivial) HL.out.below HL.out.below.size (by omega)
    (fun v1 w1 h1 hb hg hat => h v1 w1 ⟨h1⟩ ⟨HL.out.grown HO.out hg hb hne⟩ hg hat)
/-- outs = append(outs, o): beside a row that grows. -/
theorem zaprBn {w0 W : World} {L : List Bx} (s x : Operand) {z : Value} {u v vi : Value} {ls : List (List Bool)} {ys : List Bool}
    (HL : Aside0 (Led L w0 W)) (HO : Aside0 (kB.R 36 W 0 (NotRow u) v ls)) (HN : Aside0 (Own w0 v)) (hi : kB.M W 0 (fun k => NotRow u k ∧ some k ≠ v.ownBlock) ys [vi]) (hu : ∀ k, u.ownBlock = some k → k < W.heap.size) (ht : P.underlying 52 = some (.slice 36)) (hinfo : (P.info? 36).map (fun i => (i.zero, i.size, i.bytes)) = some (some z, 1, 24)) (hl : ls.length ≤ 100000000)
    (h : ∀ v1 w1, Aside0 (kB.R 36 w1 0 (NotRow u) v1 (ls ++ [ys])) → Aside0 (Own w0 v1) → Aside0 (Led L w0 w1) → W.grownBy w1 v.ownBlock → (v1.ownBlock = v.ownBlock ∨ ∃ b, v1.ownBlock = some b ∧ W.heap.size ≤ b) → wpList P ops Q rest (a.put o.dst v1) w1)
    (hne : ∀ b, b ∈ L → 36 ≠ b.2.2 := by simp) (ho : o.op = .call { callee := .builtin .append, args := #[s, x], argTypes := #[52, 52] } := by rfl) (hgd : o.guard = none := by rfl)
    (hz : z.cells.size = 1 := by rfl) (hs : a.eval s = v := by rfl) (hx : a.eval x = .slice (some ⟨W.heap.size, 0, none⟩) 1 1 := by rfl) :
    wpList P ops Q (o :: rest) a (W.alloc (.cells #[vi] 36)) :=
  Kd.R_append kB (w0 := W) 0 hgd s x 52 36 z 24 ho ht hinfo hz (by decide) (by decide) v ls ys [vi] (NotRow u) _ hs hx hi (fun k hk => hk) (fun k hk he => by have := hu k he.symm; omega) HO.out ⟨rfl, rfl, rfl, Nat.le_refl _, fun _ _ => rfl⟩ (Nat.zero_le _) (by omega)
    (fun v1 w1 h1 _ hg hat => h v1 w1 ⟨h1⟩ ⟨fun k hk => by
      rcases hat with e | ⟨b, e, hb⟩
      · exact HN.out k (e ▸ hk)
      · rw [e] at hk; injection hk with hk; subst hk; exact Nat.le_trans HL.out.below.size hb⟩
      ⟨HL.out.grown HO.out hg (pw_below_grown HL.out.below _ HL.out.below.size hg HN.out) hne⟩ hg hat)
end
/-- A new row is no other's. -/
theorem new_M {W : World} {B : Nat} {A : Option Addr} {c : Nat} {ys : List Bool} {u v : Value} (h : Rb W B (.slice A ys.length c) ys) (hu : ∀ k, u.ownBlock = some k → k < B) (hv : ∀ k, v.ownBlock = some k → k < B) : kB.M W 0 (fun k => NotRow u k ∧ some k ≠ v.ownBlock) ys [.slice A ys.length c] :=
  ⟨_, rfl, Kd.R_lower (Kd.R_mono (Kd.R_bound h) (fun k hk => ⟨fun he => by have := hu k he.symm; have := hk.2.1; omega, fun he => by have := hv k he.symm; have := hk.2.1; omega⟩)) (Nat.zero_le _)⟩
def insL (c : S35) (rows : List (List Bool)) (i : Nat) : List Bool := bitsL (rowL rows i) c.f1.length
def evlC (c : S35) (bs : List Bool) : List Bool := evl bs c.f0.f1 c.f0.f1.length
def stL (c : S35) (s : List Bool) (rows : List (List Bool)) : Nat → List Bool
  | 0 => s
  | i + 1 => bitsL (c.f2.map (fun x => litB (evlC c (insL c rows i ++ stL c s rows i)) x.f1)) c.f2.length
/-- All variables of frame i. -/
def valL (c : S35) (s : List Bool) (rows : List (List Bool)) (i : Nat) : List Bool := evlC c (insL c rows i ++ stL c s rows i)
def outL (c : S35) (s : List Bool) (rows : List (List Bool)) (k : Nat) : List Bool := (List.range k).flatMap (valL c s rows)
def outsL (c : S35) (s : List Bool) (rows : List (List Bool)) (k : Nat) : List (List Bool) := (List.range k).map (fun i => c.f3.map (fun x => litB (valL c s rows i) x.f1))
theorem stL_len {c : S35} {s : List Bool} {rows : List (List Bool)} (h : s.length = c.f2.length) : ∀ i, (stL c s rows i).length = c.f2.length
  | 0 => h
  | i + 1 => by rw [stL, bitsL_len]
theorem outL_succ (c : S35) (s : List Bool) (rows : List (List Bool)) (k : Nat) : outL c s rows (k + 1) = outL c s rows k ++ valL c s rows k := by unfold outL; rw [List.range_succ, List.flatMap_append, List.flatMap_singleton]
theorem outsL_succ (c : S35) (s : List Bool) (rows : List (List Bool)) (k : Nat) : outsL c s rows (k + 1) = outsL c s rows k ++ [c.f3.map (fun x => litB (valL c s rows k) x.f1)] := by unfold outsL; rw [List.range_succ, List.map_append]; rfl
theorem valL_len {c : S35} {s : List Bool} {rows : List (List Bool)} (h : s.length = c.f2.length) (i : Nat) : (valL c s rows i).length = szN c := by
  unfold valL evlC
  rw [evl_len, List.length_append, stL_len h]
  unfold insL szN
  rw [bitsL_len]; omega
theorem outL_len {c : S35} {s : List Bool} {rows : List (List Bool)} (h : s.length = c.f2.length) : ∀ k, (outL c s rows k).length = k * szN c
  | 0 => by simp [outL]
  | k + 1 => by rw [outL_succ, List.length_append, outL_len h k, valL_len h, Nat.add_mul, Nat.one_mul]
def RetModel (c : S35) (s : List Bool) (rows : List (List Bool)) (k : Nat) (w : World) (e : Ending) (w' : World) : Prop := ∃ v1 v2, e = .returned (.tuple #[v1, v2]) ∧ Rb w' w.heap.size v1 (outL c s rows k) ∧ kB.R 36 w' 0 (NotRow v1) v2 (outsL c s rows k) ∧ Below w.heap.size w w'
section
variable {P : Program} {ops : Array Oper} {md : Region.Mode} {Q : Exit → Act → World → Prop} {S : World → Prop} {ds : List Nat}
/-- An empty row of bools, in a region that draws. -/
theorem on0B {oi : Oper} {fuel : Nat} {l : Array Bool} {a : Act} {w0 W : World} {L : List Bx} (i : Nat) (N : Tmp) (HL : Aside0 (Led L w0 W)) (hS : ∀ w1, Below W.heap.size W w1 → S w1)
    (h : ∀ g w1, Aside0 (Rb w1 W.heap.size (.slice (some ⟨g, 0, none⟩) 0 0) []) → Aside0 (Led L w0 w1) → Below W.heap.size W w1 → S w1 → wpAnyLast P md ops Q S ds fuel (l.setIfInBounds i true) (a.put (some N) (.slice (some ⟨g, 0, none⟩) 0 0)) w1)
    (hc : readyB md ops l (l.setIfInBounds i true) i = true := by kernel_rfl) (hi : ops[i]? = some oi := by rfl) (hN : oi.dst = some N := by rfl) (hd : i ∉ ds := by decide) (hw : Region.wanted oi (yielded ops a.tmps) = true := by rfl)
    (hrun : (execOp a.eval oi).run P W = .ok (.value (.slice (some ⟨W.heap.size, 0, none⟩) 0 0)) (W.alloc (.cells #[] 4)) := by first | (go_simp; done) | (go_simp; rfl)) : wpAnyLast P md ops Q S ds (fuel + 1) l a W := by
  have hb : Below W.heap.size W (W.alloc (.cells #[] 4)) := below_alloc (Below.refl _ _) _
  refine one_ (N := some N) _ hi hN hc hd (fun K hK => ?_)
  rw [← hN]
  refine event_step hw hrun (hK.out _ _ (hS _ hb) (fun hs => ?_))
  rw [hN]
  exact h _ _ ⟨l0_ Kd.bool W 4⟩ ⟨HL.out.step hb⟩ hb hs
end
theorem RetRow.is {xs : List Bool} {w : World} {f : FuncId} {args : Array Value} (h : Calls Try.prog f args w (RetRow xs w)) : Calls Try.prog f args w (fun e w' => ∃ v, e = .returned v ∧ (∃ A c, v = .slice A xs.length c ∧ Kd.bool.C w' A xs.length xs) ∧ w' = w) :=
  h.mono (fun e w' ⟨A, c, he, hC, hw⟩ => ⟨_, he, ⟨A, c, rfl, by rw [hw]; exact hC⟩, hw⟩)
set_option maxHeartbeats 64000000 in
set_option maxRecDepth 100000 in
theorem model_any (c : S35) (cs : List Value) (s : List Bool) (A : Option Addr) (ca : Nat) (rows : List (List Bool)) (B : Option Addr) (cb k : Nat) (w : World) (h : k35.K w c cs) (ok : CircOk c) (hs : Kd.bool.C w A s.length s) (hr : kB.C w B rows.length rows) (hsl : s.length = c.f2.length) (hk : k ≤ 10) :
    Calls Try.prog 32 #[.agg cs.toArray, .slice A s.length ca, .slice B rows.length cb, .int .i64 (k : Int)] w (RetModel c s rows k w) := by
  have KST := am (fun W (hb : Below w.heap.size w W) (st : List Bool) A ca (ins : List Bool) B cb => step_any c cs st A ca ins B cb W (k35.K_below hb h) ok)
  obtain ⟨A1, c1, A2, c2, A3, c3, A4, c4, rfl, _, hC0, _⟩ := k35_open h
  have KRW := am (fun W (hb : Below w.heap.size w W) (i : Nat) => RetRow.is (row_any rows B cb i W (Kd.C_below hr hb)))
  obtain ⟨_, _, ha1, ha2⟩ := ok.fit
  have ha3 := ok.len
  have ha4 := ok.lout
  have HOK := am ok
  have KEV := am (fun W (hb : Below w.heap.size w W) (bs : List Bool) B cb (hB : Kd.bool.C W B bs.length bs) (hbl : ((bs.length : Nat) : Int) = c.f0.f0) (hb1 : bs.length ≤ 1000000) => eval_any c.f0.f0 c.f0.f1 A1 c1 bs B cb W (Kd.C_below hC0 hb) ok.ok hB hbl hb1 (by have := ok.len; omega))
  have HL : Aside0 (Led [] w w) := ⟨Led.nil w⟩
  have HS0 : Aside0 (Apt w A s (.slice none 0 0) (.slice none 0 0)) := ⟨⟨hs, fun ad e hp => ⟨by simp [Value.ownBlock], by simp [Value.ownBlock]⟩⟩⟩
  have HSL : Aside0 (s.length = c.f2.length) := ⟨hsl⟩
  have hu35 := Try.underlying35
  have hu30 := Try.underlying30
  clear h hs hr hsl hC0 ok
  go_enter Try.func32, Try.ntmps32
  go_wp2_with ((with_reducible refine zg 4 rfl ?_); refine zx 4 [.int .i64 c.f0.f0, .slice A1 c.f0.f1.length c1, .slice A2 c.f1.length c2, .slice A3 c.f2.length c3, .slice A4 c.f3.length c4] 35 HL ?_; clear HL; intro g4 w1_ HL hb; replace HS0 := am (HS0.out.below hb); clear hb)
  go_loopw [10, 11, 12, 13] (fun v10 v11 v12 v13 wr => ∃ (i : Nat) (out : List Bool) (outs : List (List Bool)) (st : List Bool) (A12 : Option Addr) (c12 : Nat), v13 = .int .i64 (i : Int) ∧ i ≤ k ∧ v12 = .slice A12 st.length c12 ∧ Aside0 (Led [(g4, [.int .i64 c.f0.f0, .slice A1 c.f0.f1.length c1, .slice A2 c.f1.length c2, .slice A3 c.f2.length c3, .slice A4 c.f3.length c4], 35)] w wr) ∧ Aside0 (Rb wr w.heap.size v10 out) ∧ Aside0 (kB.R 36 wr 0 (NotRow v10) v11 outs) ∧ Aside0 (Own w v11) ∧ Aside0 (Apt wr A12 st v10 v11) ∧ Aside0 (out = outL c s rows i ∧ outs = outsL c s rows i ∧ st = stL c s rows i)) (fun _ _ _ v _ => k - (intOf v).toNat)
  case atStart => exact ⟨0, [], [], s, A, ca, rfl, Nat.zero_le _, rfl, HL, ⟨Kd.R_nil _ _ _ _ _⟩, ⟨Kd.R_nil _ _ _ _ _⟩, ⟨fun k hk => by simp [Value.ownBlock] at hk⟩, HS0, ⟨rfl, rfl, rfl⟩⟩
  case round =>
    clear HL HS0
    obtain ⟨i, out, outs, st, A12, c12, rfl, hi, rfl, HL, HO, HU, HN, HS, HE⟩ := hrel
    by_cases hlt : i < k
    · have q0 : (i : Int) < (k : Int) := by omega
      have hstl : st.length = c.f2.length := by rw [HE.out.2.2]; exact stL_len HSL.out i
      have HTL := am hstl
      have hol : out.length ≤ 100000000 := by
        rw [HE.out.1, outL_len HSL.out]
        have h1 : i * szN c ≤ 10 * szN c := Nat.mul_le_mul_right _ (by omega)
        have h2 := HOK.out.fit.2.1
        have h3 := HOK.out.szN
        omega
      have HOLN := am hol
      have hul : outs.length ≤ 10 := by rw [HE.out.2.1]; unfold outsL; rw [List.length_map, List.length_range]; omega
      have HULN := am hul
      clear hol hul hstl
      have q4 : True := trivial
      go_upto_region 7 with (fail)
      have k2 : wr.cell? ⟨g4, 2, none⟩ = some (.slice A2 c.f1.length c2) := blk_cell (HL.out.get 0 rfl) 2
      have hbd : Below wr.heap.size wr wr.drew := below_drew (Below.refl _ _)
      have HL1 := am (HL.out.step hbd)
      have HO1 := am (Kd.R_below HO.out hbd)
      have HU1 := am (Kd.R_below HU.out hbd)
      have HS1 := am (HS.out.below hbd)
      refine start_ (n := 8) (S := fun W => W.cell? ⟨g4, 2, none⟩ = some (.slice A2 c.f1.length c2) ∧ Aside0 (Below w.heap.size w W)) (ds := []) #[false, false, false, false, false, false, false, false] (by kernel_rfl) rfl rfl ⟨pw_cell_below hbd k2, ⟨HL1.out.below⟩⟩ (fun hHeld => ?_)
      refine pu 0 24 ?_
      refine pu 1 25 ?_
      refine pu 3 27 ?_
      refine tk 4 28 hHeld ?_
      refine pu 5 29 ?_
      refine clE 2 26 36 Try.func36 (fun v w' => (∃ A c, v = .slice A (rowL rows i).length c ∧ Kd.bool.C w' A (rowL rows i).length (rowL rows i)) ∧ w' = wr.drew) (KRW.out _ HL1.out.below i) (fun v we hr => by rw [hr.2]; exact hHeld) ?_
      rintro v26 we ⟨⟨A26, c26, rfl, hC26⟩, rfl⟩ hHeld1
      refine norm_ (a' := ?_) ?_ ?_
      rotate_left
      · simp only [Act.put, List.setIfInBounds_toArray, List.set_cons_zero, List.set_cons_succ]; rfl
      refine clE 6 30 30 Try.func30 (fun v w' => Rb w' wr.drew.heap.size v (insL c rows i) ∧ Below wr.drew.heap.size wr.drew w') ((bitsB_any (rowL rows i) A26 c26 c.f1.length _ hC26 (by omega)).mono (fun e w' h => h)) (fun v we hr => ⟨pw_cell_below hr.2 hHeld.1, ⟨(HL1.out.step hr.2).below⟩⟩) ?_
      rintro v30 w3_ ⟨hr30, hb30⟩ hHeld3
      obtain ⟨ins, hins⟩ : ∃ z, insL c rows i = z := ⟨_, rfl⟩
      rw [hins] at hr30
      obtain ⟨A14, c14, rfl⟩ := Kd.R_slice hr30
      have HI := am (Apt.new hr30 (R_ltB HO1.out) (R_ltB HU1.out))
      have HINS := am hins
      replace HL1 := am (HL1.out.step hb30)
      replace HO1 := am (Kd.R_below HO1.out hb30)
      replace HU1 := am (Kd.R_below HU1.out hb30)
      replace HS1 := am (HS1.out.below hb30)
      refine norm_ (a' := ?_) ?_ ?_
      rotate_left
      · simp only [Act.put, List.setIfInBounds_toArray, List.set_cons_zero, List.set_cons_succ]; rfl
      refine pu 7 14 ?_
      refine done_ (by kernel_rfl) ?_
      clear hHeld hHeld1 hHeld3 hC26 hr30 hb30 hins k2 HL HO HU HS hbd
      go_upto_region 8 with (fail)
      have k0 : w3_.cell? ⟨g4, 0, none⟩ = some (.int .i64 c.f0.f0) := blk_cell (HL1.out.get 0 rfl) 0
      have k1 : w3_.cell? ⟨g4, 1, none⟩ = some (.slice A1 c.f0.f1.length c1) := blk_cell (HL1.out.get 0 rfl) 1
      have hbd : Below w3_.heap.size w3_ w3_.drew := below_drew (Below.refl _ _)
      replace k0 := pw_cell_below hbd k0
      replace k1 := pw_cell_below hbd k1
      have HL2 := am (HL1.out.step hbd)
      have HO2 := am (Kd.R_below HO1.out hbd)
      have HU2 := am (Kd.R_below HU1.out hbd)
      have HS2 := am (HS1.out.below hbd)
      have HI2 := am (HI.out.below hbd)
      clear HL1 HO1 HU1 HS1 HI hbd
      have HLd : Aside0 (Led [] w3_.drew w3_.drew) := ⟨Led.nil _⟩
      have hil : ins.length = c.f1.length := by rw [← HINS.out]; exact bitsL_len _ _
      have hbl : (((ins ++ st).length : Nat) : Int) = c.f0.f0 := by have := HOK.out.ins; rw [List.length_append, HTL.out, hil]; exact this
      have hbn : (ins ++ st).length ≤ 1000000 := by have := HOK.out.i1; omega
      have hpn : ins.length + st.length ≤ 1000000 := by rw [List.length_append] at hbn; exact hbn
      obtain ⟨bs, hbs⟩ : ∃ bs, ins ++ st = bs := ⟨_, rfl⟩
      rw [hbs] at hbl hbn
      have HBS := am hbs
      have HBL := am hbl
      have HIL := am hil
      clear hbs hbl hil
      refine start_ (n := 9) (S := fun W => (W.cell? ⟨g4, 0, none⟩ = some (.int .i64 c.f0.f0) ∧ W.cell? ⟨g4, 1, none⟩ = some (.slice A1 c.f0.f1.length c1)) ∧ Aside0 (Below w3_.drew.heap.size w3_.drew W)) (ds := []) #[false, false, false, false, false, false, false, false, false] (by kernel_rfl) rfl rfl ⟨⟨k0, k1⟩, ⟨Below.refl _ _⟩⟩ (fun hHeld => ?_)
      refine pu 0 31 ?_
      refine tk 1 32 hHeld ?_
      refine pu 3 34 ?_
      refine pu 5 36 ?_
      refine on0B 2 33 HLd (fun w1 hb => ⟨⟨pw_cell_below hb k0, pw_cell_below hb k1⟩, ⟨hb⟩⟩) ?_
      intro g33 w4_ HR33 HLe _ hHeld4
      refine norm_ (a' := ?_) ?_ ?_
      rotate_left
      · simp only [Act.put, List.setIfInBounds_toArray, List.set_cons_zero, List.set_cons_succ]; rfl
      refine onapB 4 35 (.tmp 33) (.tmp 34) HLe HR33 (Kd.C_below HI2.out.1 HLe.out.below) Try.underlying36 info4 (by simp only [List.length_nil]; omega) ins ins.length (List.nil_append _) rfl (fun w1 hL => ⟨⟨pw_cell_below hL.below k0, pw_cell_below hL.below k1⟩, ⟨hL.below⟩⟩) ?_
      intro B35 q35 w5_ HR35 HLf hHeld5
      refine norm_ (a' := ?_) ?_ ?_
      rotate_left
      · simp only [Act.put, List.setIfInBounds_toArray, List.set_cons_zero, List.set_cons_succ]; rfl
      refine onapB 6 37 (.tmp 35) (.tmp 36) HLf HR35 (Kd.C_below HS2.out.1 HLf.out.below) Try.underlying36 info4 (by omega) bs bs.length HBS.out rfl (fun w1 hL => ⟨⟨pw_cell_below hL.below k0, pw_cell_below hL.below k1⟩, ⟨hL.below⟩⟩) ?_
      intro B37 q37 w6_ HR37 HLg hHeld6
      refine norm_ (a' := ?_) ?_ ?_
      rotate_left
      · simp only [Act.put, List.setIfInBounds_toArray, List.set_cons_zero, List.set_cons_succ]; rfl
      refine clE 7 38 60 Try.func60 (fun v w' => Rb w' w6_.heap.size v (evl bs c.f0.f1 c.f0.f1.length) ∧ Below w6_.heap.size w6_ w') ((KEV.out _ (HL2.out.step HLg.out.below).below bs B37 q37 (Kd.R_reads' HR37.out).2.2 HBL.out hbn).mono (fun e w' h => h)) (fun v we hr => ⟨⟨pw_cell_below hr.2 hHeld6.1.1, pw_cell_below hr.2 hHeld6.1.2⟩, ⟨(HLg.out.step hr.2).below⟩⟩) ?_
      rintro v38 w7_ ⟨hr38, hb38⟩ hHeld7
      obtain ⟨V, hV⟩ : ∃ z, evl bs c.f0.f1 c.f0.f1.length = z := ⟨_, rfl⟩
      have hVL : V.length ≤ 2000001 := by rw [← hV, evl_len]; omega
      rw [hV] at hr38
      obtain ⟨A15, c15, rfl⟩ := Kd.R_slice hr38
      have hsz := HLg.out.below.size
      have HV := am (Apt.new hr38 (fun k hk => Nat.lt_of_lt_of_le (R_ltB HO2.out k hk) hsz) (fun k hk => Nat.lt_of_lt_of_le (R_ltB HU2.out k hk) hsz))
      have hb7 := (HLg.out.step hb38).below
      have HVE := am hV
      have HL := am (HL2.out.step hb7)
      have HO := am (Kd.R_below HO2.out hb7)
      have HU := am (Kd.R_below HU2.out hb7)
      have HS := am (HS2.out.below hb7)
      have HI := am (HI2.out.below hb7)
      refine norm_ (a' := ?_) ?_ ?_
      rotate_left
      · simp only [Act.put, List.setIfInBounds_toArray, List.set_cons_zero, List.set_cons_succ]; rfl
      refine pu 8 15 ?_
      refine done_ (by kernel_rfl) ?_
      have HVL := am hVL
      clear k0 k1 HL2 HO2 HU2 HS2 HI2 HLd hHeld HR33 HLe hHeld4 HR35 HLf hHeld5 HR37 HLg hHeld6 hr38 hb38 hHeld7 hV hVL hsz hb7 hbn hpn
      go_wp2_with (first
        | ((with_reducible refine zg 41 rfl ?_); refine zapsB (.tmp 39) (.tmp 40) HL HO HV.out.1 Try.underlying36 info4 (by have := HOLN.out; have := HVL.out; omega) ?_; intro v41 w8_ HO3 HL3 hg hat; have HU3 := am (R_beside HU.out hg hat); have HS3 := am (HS.out.grow hg hat); have HI3 := am (HI.out.grow hg hat); clear HO HL HU HS HI HV hg hat)
        | ((with_reducible refine zg 43 rfl ?_); refine zl 0 35 (.tmp 4) HL3 hu35 ?_)
        | (go_at_call 61; refine (KST.out _ HL3.out.below st A12 c12 ins A14 c14 HS3.out.1 HI3.out.1 HTL.out HIL.out).mono ?_; rintro e w9_ ⟨v1, v2, rfl, hr1, hr2, hb⟩; obtain ⟨nx, hnx⟩ : ∃ z, c.f2.map (fun x => litB (evl (ins ++ st) c.f0.f1 c.f0.f1.length) x.f1) = z := ⟨_, rfl⟩; obtain ⟨ox, hox⟩ : ∃ z, c.f3.map (fun x => litB (evl (ins ++ st) c.f0.f1 c.f0.f1.length) x.f1) = z := ⟨_, rfl⟩; rw [hnx] at hr1; rw [hox] at hr2; obtain ⟨A16, c16, rfl⟩ := Kd.R_slice hr1; obtain ⟨A17, c17, rfl⟩ := Kd.R_slice hr2; have HNX := am (Apt.new hr1 (R_ltB HO3.out) (R_ltB HU3.out)); have HM := am (new_M hr2 (R_ltB HO3.out) (R_ltB HU3.out)); have HNE := am hnx; have HOE := am hox; replace HL3 := am (HL3.out.step hb); replace HO3 := am (Kd.R_below HO3.out hb); replace HU3 := am (Kd.R_below HU3.out hb); clear hr1 hr2 hb hnx hox HS3 HI3)
        | ((with_reducible refine zg 52 rfl ?_); refine zaprBn (.tmp 49) (.tmp 51) HL3 HU3 HN HM.out (R_ltB HO3.out) Try.underlying52 info36 (by have := HULN.out; omega) ?_; intro v52 w10_ HU4 HN4 HL4 hg hat; have HO4 := am (R_other HO3.out HU3.out hg (by decide)); have HNX4 := am (HNX.out.growv hg hat); clear HU3 HO3 HL3 HN HM HNX hg hat; have k3 : w10_.cell? ⟨g4, 3, none⟩ = some (.slice A3 c.f2.length c3) := blk_cell (HL4.out.get 0 rfl) 3)
        | (go_at_call 30; refine (bitsB_any nx A16 c16 c.f2.length _ HNX4.out.1 (by omega)).mono ?_; rintro e w11_ ⟨v57, rfl, hr57, hb⟩; obtain ⟨st2, hst2⟩ : ∃ z, bitsL nx c.f2.length = z := ⟨_, rfl⟩; rw [hst2] at hr57; obtain ⟨A57, c57, rfl⟩ := Kd.R_slice hr57; have HS5 := am (Apt.new hr57 (R_ltB HO4.out) (R_ltB HU4.out)); have HL5 := am (HL4.out.step hb); have HO5 := am (Kd.R_below HO4.out hb); have HU5 := am (Kd.R_below HU4.out hb); have HSE := am hst2; clear hst2 hr57 hb HL4 HO4 HU4 HNX4 k3))
      go_roundw
      case rel =>
        have e1 : evl bs c.f0.f1 c.f0.f1.length = valL c s rows i := by rw [← HBS.out, ← HINS.out, HE.out.2.2]; rfl
        refine ⟨i + 1, _, _, st2, A57, c57, by go_num, by omega, rfl, HL5, HO5, HU5, HN4, HS5, ⟨?_, ?_, ?_⟩⟩
        · rw [outL_succ, ← e1, HVE.out, HE.out.1]
        · rw [outsL_succ, ← e1, ← HBS.out, HOE.out, HE.out.2.1]
        · rw [← HSE.out, ← HNE.out, HBS.out, e1]; rfl
      case measure => simp [intOf]; omega
    · obtain rfl : i = k := by omega
      go_wp2
      go_ret2
      have h1 := HO.out
      have h2 := HU.out
      rw [HE.out.1] at h1
      rw [HE.out.2.1] at h2
      exact ⟨_, _, rfl, h1, h2, HL.out.below⟩
end Go.Proofs.Yteilkojmefipcaa.U
