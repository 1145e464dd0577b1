/- Communication in one goroutine, what is taken, a look at a clause, what follows by units, the run, the map, and what prop.Unit answers. Written for this claim. -/
import Derived.Test.YtdlfmobnmcamaaaQx0
import Derived.Conc.LoneCalls
import Derived.Conc.LoneSelect
import Derived.MapKept
import Derived.ChangeMaps4
import Derived.Outline
import Derived.Test.YtdlfmobnmcamaaaQx2
import Derived.Test.YtdlfmobnmcamaaaQx3
import Derived.Maps.RangeRun
import Derived.Test.YtdlfmobnmcamaaaQx4
namespace Go.Proofs.Ytdlfmobnmcamaaa.Q
set_option linter.unusedVariables false
set_option linter.unusedSimpArgs false
open Go.RowKit Go.Conc

/-- As 'Code.wp', for ordinary frames alone. -/
def wpN (P : Program) (c : Code) (Q : Exit → Act → World → Prop) (a : Act) (w : World) : Prop :=
  ∀ (b : Frame) (k : List Item) (cs : List Frame), b.kind = .normal →
    ∃ e a' w', Q e a' w' ∧ Arrives P (lone (b.at a (.code c :: k)) cs w) b k cs e a' w'

section
variable {P : Program} {Q : Exit → Act → World → Prop} {a : Act} {w : World}
theorem wpN_of_wp {c : Code} (h : c.wp P Q a w) : wpN P c Q a w := fun b k cs _ => h b k cs
theorem wpN_seq {x y : Code} (h : wpN P x (Exit.then (wpN P y Q) Q) a w) : wpN P (.seq x y) Q a w := fun b k cs hb => by
  obtain ⟨e, a1, w1, hq, ha⟩ := h b (.code y :: k) cs hb
  have h1 : Steps P (lone (b.at a (.code (.seq x y) :: k)) cs w) (lone (b.at a (.code x :: .code y :: k)) cs w) := .one step_seq
  cases e with
  | normal =>
    obtain ⟨e2, a2, w2, hq2, ha2⟩ := hq b k cs hb
    exact ⟨e2, a2, w2, hq2, .of_steps (h1.trans ha) ha2⟩
  | exit id => exact ⟨.exit id, a1, w1, hq, .of_steps h1 (Arrives.pass (x := .code y) rfl (fun _ _ => .inl (by simp)) ha)⟩
  | goto l => exact ⟨.goto l, a1, w1, hq, .of_steps h1 (Arrives.pass (x := .code y) rfl (fun _ _ => .inl (by simp)) ha)⟩
  | ret => exact ⟨.ret, a1, w1, hq, .of_steps h1 (Arrives.pass (x := .code y) rfl (fun _ _ => .inl (by simp)) ha)⟩
  | panic ch => exact ⟨.panic ch, a1, w1, hq, .of_steps h1 (Arrives.pass (x := .code y) rfl (fun _ _ => .inl (by simp)) ha)⟩
  | outgrown => exact ⟨.outgrown, a1, w1, hq, .of_steps h1 (Arrives.pass (x := .code y) rfl (fun _ _ => .inl (by simp)) ha)⟩
/-- The first half by the kit's walk. -/
theorem wpN_seq' {x y : Code} (h : ∀ K : Act → World → Prop, (∀ a w, wpN P y Q a w → K a w) → x.wp P (Exit.then K Q) a w) : wpN P (.seq x y) Q a w := wpN_seq (wpN_of_wp (h _ fun _ _ h => h))
theorem wpN_cond {c : Operand} {x y : Code} (t : Bool) (hc : a.eval c = .bool t) (h : wpN P (if t then x else y) Q a w) : wpN P (.cond c x y) Q a w := fun b k cs hb => by
  obtain ⟨e, a', w', q, r⟩ := h b k cs hb
  exact ⟨e, a', w', q, .of_steps (.one (step_cond hc)) r⟩
theorem wpN_block {id : Nat} {c : Code} (h : wpN P c (Exit.inBlock id Q) a w) : wpN P (.block id c) Q a w := fun b k cs hb => by
  obtain ⟨e, a1, w1, hq, ha⟩ := h b (.inBlock id :: k) cs hb
  have h1 : Steps P (lone (b.at a (.code (.block id c) :: k)) cs w) (lone (b.at a (.code c :: .inBlock id :: k)) cs w) := .one step_block
  cases e with
  | normal => exact ⟨.normal, a1, w1, hq, h1.trans (Steps.trans ha (.one step_inBlock))⟩
  | exit id' =>
    by_cases hid : id' = id
    · subst hid
      simp only [Exit.inBlock, if_true] at hq
      exact ⟨.normal, a1, w1, hq, h1.trans (ha k (by simp [exitTo]))⟩
    · simp only [Exit.inBlock, hid, if_false] at hq
      refine ⟨.exit id', a1, w1, hq, fun k' hk => h1.trans (ha k' ?_)⟩
      have : (id == id') = false := by simpa using fun e : id = id' => hid e.symm
      simp [exitTo, this, hk]
  | goto l => exact ⟨.goto l, a1, w1, hq, fun k' hk => h1.trans (ha k' (by simp [gotoIn, hk]))⟩
  | ret => exact ⟨.ret, a1, w1, hq, .of_steps h1 ha⟩
  | panic ch => exact ⟨.panic ch, a1, w1, hq, .of_steps h1 ha⟩
  | outgrown => exact ⟨.outgrown, a1, w1, hq, .of_steps (b := b) (k := k) (cs := cs) (e := .outgrown) h1 ha⟩
/-- A loop, by a number that goes down and that the frame and the world need not tell. -/
theorem wpN_loop_n {c : Code} (I : Nat → Act → World → Prop) (n0 : Nat) (h0 : I n0 a w) (round : ∀ n a w, I n a w → wpN P c (Exit.then (fun a' w' => ∃ m, m < n ∧ I m a' w') Q) a w) : wpN P (.loop c) Q a w := fun b k cs hb => by
  have key : ∀ n a w, I n a w → ∃ e a' w', Q e a' w' ∧ Arrives P (lone (b.at a (.code c :: .inLoop c :: k)) cs w) b k cs e a' w' := by
    intro n
    induction n using Nat.strongRecOn with
    | _ n ih =>
      intro a w hI
      obtain ⟨e, a1, w1, hq, ha⟩ := round n a w hI b (.inLoop c :: k) cs hb
      cases e with
      | normal =>
        obtain ⟨m, hm, hI1⟩ := hq
        obtain ⟨e2, a2, w2, hq2, ha2⟩ := ih m hm a1 w1 hI1
        exact ⟨e2, a2, w2, hq2, .of_steps (Steps.trans ha (.one step_inLoop)) ha2⟩
      | exit id => exact ⟨.exit id, a1, w1, hq, Arrives.pass (x := .inLoop c) rfl (fun _ _ => .inl (by simp)) ha⟩
      | goto l => exact ⟨.goto l, a1, w1, hq, Arrives.pass (x := .inLoop c) rfl (fun _ _ => .inl (by simp)) ha⟩
      | ret => exact ⟨.ret, a1, w1, hq, Arrives.pass (x := .inLoop c) rfl (fun _ _ => .inl (by simp)) ha⟩
      | panic ch => exact ⟨.panic ch, a1, w1, hq, Arrives.pass (x := .inLoop c) rfl (fun _ _ => .inl (by simp)) ha⟩
      | outgrown => exact ⟨.outgrown, a1, w1, hq, Arrives.pass (x := .inLoop c) rfl (fun _ _ => .inl (by simp)) ha⟩
  obtain ⟨e, a', w', hq, ha⟩ := key n0 a w h0
  exact ⟨e, a', w', hq, .of_steps (.one step_loop) ha⟩
theorem calls_of_wpN {f : FuncId} {fn : Func} {c : Code} {args : Array Value} {R : Ending → World → Prop} (hf : P.funcs[f]? = some fn) (hb : fn.body = some c)
    (h : wpN P c (bodyPost P fn R) { tmps := args ++ Array.replicate (fn.ntmps - args.size) undef, defers := [] } w) : Calls P f args w R := by
  intro cs
  let b : Frame := { (default : Frame) with fn := f, kind := .normal }
  have hen : Frame.enter P f args .normal = b.at { tmps := args ++ Array.replicate (fn.ntmps - args.size) undef, defers := [] } [.code c] := by simp [Frame.enter, Frame.at, hf, hb, b]
  obtain ⟨e, a', w', hq, ha⟩ := h b [] cs rfl
  rw [← hen] at ha
  cases e with
  | normal =>
    obtain ⟨hd, v, hr, hR⟩ := hq
    exact ⟨.returned v, w', _, hR, Steps.trans ha (.one step_end), rfl, rfl, hd, rfl, fn, hf, hr⟩
  | ret =>
    obtain ⟨hd, v, hr, hR⟩ := hq
    obtain ⟨todo, hs⟩ := ha
    exact ⟨.returned v, w', _, hR, hs, rfl, rfl, hd, rfl, fn, hf, hr⟩
  | panic chain =>
    obtain ⟨hd, hR⟩ := hq
    obtain ⟨todo, hs⟩ := ha
    exact ⟨.panicked chain, w', _, hR, hs, rfl, rfl, hd, fn, hf⟩
  | exit id => exact hq.elim
  | goto l => exact hq.elim
  | outgrown => exact ⟨.outgrown, w', b, hq, ha.resolve_left (by simp [b]), rfl, trivial⟩
end

/-- An operation that one step of the machine carries out: a communication that need not wait. -/
def Does (P : Program) (o : Oper) (a : Act) (w : World) (v : Value) (w' : World) : Prop :=
  ∀ (b : Frame) (k : List Item) (cs : List Frame) (ops : Array Oper) (i : Nat) (rest : List Nat), b.kind = .normal → ops[i]? = some o → Region.wanted o (yielded ops a.tmps) = true →
    step P (lone (b.at a (.inRegion ops (i :: rest) :: k)) cs w) = .next (lone (b.at (a.put o.dst v) (.inRegion ops rest :: k)) cs w')
section
variable {P : Program} {o : Oper} {a : Act} {w : World} {c cap s r : Nat} {buf : Array Value} {z z' v : Value} {tm closed : Bool}
theorem finish_put (b : Frame) (a : Act) (ops : Array Oper) (i : Nat) (rest : List Nat) (k : List Item) (v : Value) (ho : ops[i]? = some o) : (b.at a (.inRegion ops (i :: rest) :: k)).finish v = b.at (a.put o.dst v) (.inRegion ops rest :: k) := by
  rw [Frame.finish_at, ho]; rfl
theorem does_send (hr : (execOp a.eval o).run P w = .ok (.comm #[scase c v z'] true .send) w) (hc : w.heap[c]? = some (.chan cap buf false s r tm)) (hroom : buf.size < cap) : Does P o a w undef (w.setChan c cap (buf.push v) false (s + 1) r tm) := by
  intro b k cs ops i rest hb ho hw
  rw [← finish_put b a ops i rest k undef ho]
  exact step_lone_send_room (stepG_comm ho hw (by rw [hb]; simp) hr) hc hroom
theorem does_recv (hr : (execOp a.eval o).run P w = .ok (.comm #[rcase c z] false .select) w) (hc : w.heap[c]? = some (.chan cap buf closed s r tm)) (hsome : 0 < buf.size) : Does P o a w (.tuple #[goInt 0, .bool true, buf.getD 0 undef]) (w.setChan c cap (buf.extract 1 buf.size) closed s (r + 1) tm) := by
  intro b k cs ops i rest hb ho hw
  rw [← finish_put b a ops i rest k _ ho]
  exact step_lone_select_recv_buf (stepG_comm ho hw (by rw [hb]; simp) hr) hc hsome
theorem does_recv' {v : Value} (hv : buf.getD 0 undef = v) (hr : (execOp a.eval o).run P w = .ok (.comm #[rcase c z] false .select) w) (hc : w.heap[c]? = some (.chan cap buf closed s r tm)) (hsome : 0 < buf.size) : Does P o a w (.tuple #[goInt 0, .bool true, v]) (w.setChan c cap (buf.extract 1 buf.size) closed s (r + 1) tm) := hv ▸ does_recv hr hc hsome
theorem does_none (hr : (execOp a.eval o).run P w = .ok (.comm #[rcase c z] false .select) w) (hc : w.heap[c]? = some (.chan cap #[] false s r tm)) : Does P o a w (.tuple #[goInt (-1), .bool false, z]) w := by
  intro b k cs ops i rest hb ho hw
  rw [← finish_put b a ops i rest k _ ho]
  exact step_lone_select_default (stepG_comm ho hw (by rw [hb]; simp) hr) hc
end

/-- A stretch of a region's operations, each of which ends by a value or by nothing, or is a call that returns. -/
def onlyN (K : Act → World → Prop) : Exit → Act → World → Prop
  | .normal, a, w => K a w
  | _, _, _ => False
theorem upto {P : Program} {ops : Array Oper} {K : Act → World → Prop} (l ls : List Nat) : ∀ (a : Act) (w : World), wpOps P ops (onlyN K) l a w → ∀ (b : Frame) (k : List Item) (cs : List Frame),
    ∃ a' w', K a' w' ∧ Steps P (lone (b.at a (.inRegion ops (l ++ ls) :: k)) cs w) (lone (b.at a' (.inRegion ops ls :: k)) cs w') := by
  induction l with
  | nil => exact fun a w h b k cs => ⟨a, w, h, Steps.refl _ _⟩
  | cons i l ih =>
    intro a w h b k cs
    simp only [List.cons_append]
    simp only [wpOps] at h
    cases ho : ops[i]? with
    | none =>
      simp only [ho] at h
      obtain ⟨a', w', hk, hs⟩ := ih a w h b k cs
      have h1 := step_op_skip (P := P) (b := b) (a := a) (k := k) (cs := cs) (w := w) (ops := ops) (i := i) (rest := l ++ ls) (by simp [ho])
      simp only [ho, Option.bind_none, Act.put] at h1
      exact ⟨a', w', hk, .head h1 hs⟩
    | some o =>
      simp only [ho] at h
      by_cases hw : Region.wanted o (yielded ops a.tmps) = true
      · simp only [hw, if_true] at h
        have h0 := h.resolve_right (fun hh => by obtain ⟨_, _, _, hq⟩ := hh; exact hq)
        clear h
        unfold Oper.wp at h0
        have hg := stepG_op (P := P) (b := b) (k := k) (cs := cs) (w := w) (rest := l ++ ls) ho hw
        have hfin : ∀ (a1 : Act) v, (b.at a1 (.inRegion ops (i :: (l ++ ls)) :: k)).finish v = b.at (a1.put o.dst v) (.inRegion ops (l ++ ls) :: k) := fun a1 v => finish_put b a1 ops i (l ++ ls) k v ho
        generalize hr : (execOp a.eval o).run P w = res at h0
        unfold Oper.upon at h0
        split at h0
        · obtain ⟨a', w2, hk, hs⟩ := ih _ _ h0 b k cs
          refine ⟨a', w2, hk, .head (step_lone_go ?_) hs⟩
          rw [hg, ← hfin]; simp [stepG.apply, hr]
        · obtain ⟨a', w2, hk, hs⟩ := ih _ _ h0 b k cs
          refine ⟨a', w2, hk, .head (step_lone_go ?_) hs⟩
          rw [hg, ← hfin]; simp [stepG.apply, hr]
        · rename_i d w1
          obtain ⟨a', w2, hk, hs⟩ := ih _ _ h0 b k cs
          refine ⟨a', w2, hk, .head (step_lone_go ?_) hs⟩
          rw [hg, ← hfin]; simp [stepG.apply, hr, Frame.at]
        · rename_i f args w1
          obtain ⟨e, w2, fr, hR, hc, _, hl⟩ := h0 (b.at a (.inRegion ops (i :: (l ++ ls)) :: k) :: cs)
          have hen : step P (lone (b.at a (.inRegion ops (i :: (l ++ ls)) :: k)) cs w) = .next (lone (Frame.enter P f args .normal) (b.at a (.inRegion ops (i :: (l ++ ls)) :: k) :: cs) w1) :=
            step_lone_go (by rw [hg]; simp [stepG.apply, hr, Frame.at])
          cases e with
          | returned v =>
            obtain ⟨a', w3, hk, hs⟩ := ih _ _ hR b k cs
            refine ⟨a', w3, hk, .head hen (Steps.trans hc (.head ?_ hs))⟩
            rw [← hfin]; exact step_leave_returned hl
          | panicked ch => exact hR.elim
          | outgrown => obtain ⟨_, _, hq⟩ := hR; exact hq.elim
        · rename_i row args w1
          obtain ⟨v, w2, hR, hs1⟩ := h0 (b.at a (.inRegion ops (i :: (l ++ ls)) :: k)) cs
          have hen : step P (lone (b.at a (.inRegion ops (i :: (l ++ ls)) :: k)) cs w) = .next (lone (Frame.ofRow P row args .normal) (b.at a (.inRegion ops (i :: (l ++ ls)) :: k) :: cs) w1) :=
            step_lone_go (by rw [hg]; simp [stepG.apply, hr, Frame.at])
          obtain ⟨a', w3, hk, hs⟩ := ih _ _ hR b k cs
          refine ⟨a', w3, hk, .head hen (Steps.trans hs1 ?_)⟩
          rw [hfin]; exact hs
        · exact h0.elim
        · exact h0.elim
      · simp only [hw, if_false, Bool.false_eq_true] at h
        obtain ⟨a', w', hk, hs⟩ := ih _ _ h b k cs
        have h1 := step_op_skip (P := P) (b := b) (a := a) (k := k) (cs := cs) (w := w) (ops := ops) (i := i) (rest := l ++ ls) (by simp [ho]; simpa using hw)
        simp only [ho, Option.bind_some] at h1
        exact ⟨a', w', hk, .head h1 hs⟩

theorem pre_list {P : Program} {ops : Array Oper} {Q : Exit → Act → World → Prop} (l : List Oper) : ∀ k, (∀ j, j < l.length → l[j]? = ops[k + j]?) → wpOps P ops Q (List.range' k l.length) = wpList P ops Q l := by
  induction l with
  | nil => intro k _; funext a w; simp [wpOps, wpList]
  | cons o l ih =>
    intro k h
    have h0 : ops[k]? = some o := by simpa using (h 0 (by simp)).symm
    have ih' := ih (k + 1) (fun j hj => by have := h (j + 1) (by simpa using hj); simpa [Nat.add_assoc, Nat.add_comm 1 j] using this)
    funext a w
    simp only [List.length_cons, List.range'_succ, wpOps, h0, wpList, ih']
/-- A region of which one operation is a communication: what stands ahead of it ('lp'), it, what stands behind ('ls'). -/
theorem wpN_region {P : Program} {Q : Exit → Act → World → Prop} {a : Act} {w : World} {id : Nat} {ops : Array Oper} (lp ls : List Oper) (o : Oper) (hops : ops = (lp ++ o :: ls).toArray)
    (h : wpList P ops (onlyN fun a1 w1 => Region.wanted o (yielded ops a1.tmps) = true ∧ ∃ v w2, Does P o a1 w1 v w2 ∧ wpList P ops Q ls (a1.put o.dst v) w2) lp a w) : wpN P (.region id ops false) Q a w := by
  intro b k cs hb
  have hsz : ops.size = lp.length + (1 + ls.length) := by rw [hops]; simp; omega
  have e1 : List.range ops.size = List.range' 0 lp.length ++ lp.length :: List.range' (lp.length + 1) ls.length := by
    rw [List.range_eq_range', hsz, ← List.range'_append_1, Nat.zero_add, Nat.add_comm 1 ls.length, List.range'_succ]
  have ho : ops[lp.length]? = some o := by rw [hops]; simp
  rw [← pre_list lp 0 (fun j hj => ?_)] at h
  · obtain ⟨a1, w1, ⟨hwt, v, w2, hd, h2⟩, hs⟩ := upto (List.range' 0 lp.length) (lp.length :: List.range' (lp.length + 1) ls.length) a w h b k cs
    rw [← wpOps_eq_wpList ls (lp.length + 1) (fun j => ?_)] at h2
    · obtain ⟨e, a', w', hq, ha⟩ := wp_ops _ _ _ h2 b k cs
      refine ⟨e, a', w', hq, .of_steps (.head step_region ?_) ha⟩
      rw [e1]
      exact hs.trans (.one (hd b k cs ops _ _ hb ho hwt))
    · rw [hops]
      simp [List.getElem?_append_right, show lp.length ≤ lp.length + 1 + j by omega, show lp.length + 1 + j - lp.length = j + 1 by omega]
  · rw [hops, Nat.zero_add]
    simp [List.getElem?_append_left, hj]
end Go.Proofs.Ytdlfmobnmcamaaa.Q
namespace Go.Proofs.Ytdlfmobnmcamaaa.Q
open Go.RowKit Go.Conc Go.MapKept Go.ChangeMaps Go.Proofs.YtdlfmobnmcamaaaW.PrintWords Go.Proofs.YtdlfmobnmcamaaaW.PrintLast Go.Proofs.YtdlfmobnmcamaaaW.PrintMore
set_option linter.unusedVariables false
set_option linter.unusedSimpArgs false

/-- The entries of a map of literals, each true, in the order in which they were laid. -/
def tentsFrom (ks : List Int) (j : Nat) : List MapEntry := (ks.zipIdx j).map fun p => { key := .int .i64 p.1, val := .bool true, born := p.2 }
def tents (ks : List Int) : Array MapEntry := (tentsFrom ks 0).toArray
theorem tents_push (ks : List Int) (x : Int) : (tents ks).push { key := .int .i64 x, val := .bool true, born := ks.length } = tents (ks ++ [x]) := by
  simp [tents, tentsFrom, List.zipIdx_append]
theorem find_tents (y : Int) : ∀ (ks : List Int) (j i : Nat), ∃ r, Instr.findNow (.int .i64) (.int .i64 y) (tentsFrom ks j) i = some r ∧ (y ∈ ks → ∃ n, r = some (n, .bool true)) ∧ (y ∉ ks → r = none)
  | [], j, i => ⟨none, rfl, by simp, by simp⟩
  | x :: ks, j, i => by
    obtain ⟨r, h1, h2, h3⟩ := find_tents y ks (j + 1) (i + 1)
    by_cases e : y = x
    · subst e
      exact ⟨some (i, .bool true), by simp [tentsFrom, Instr.findNow, Instr.sameNow], fun _ => ⟨i, rfl⟩, fun h => absurd List.mem_cons_self h⟩
    · refine ⟨r, ?_, fun h => h2 ((List.mem_cons.1 h).resolve_left e), fun h => h3 (fun h' => h (List.mem_cons_of_mem _ h'))⟩
      simp only [tentsFrom] at h1
      simp [tentsFrom, Instr.findNow, Instr.sameNow, h1, (by simpa using e : (y == x) = false)]
theorem run_taken {w : World} {m : Nat} {ks : List Int} (h : w.heap[m]? = some (.map (tents ks) ks.length)) (y : Int) :
    (Instr.lookup 61 (.map (some m)) (.int .i64 y) false).run Try.prog w = .ok (.bool (decide (y ∈ ks))) w := by
  obtain ⟨r, h1, h2, h3⟩ := find_tents y ks 0 0
  have hk := run_findKey (P := Try.prog) (w := w) (kt := 3) (k := .int .i64 y) (l := (tents ks).toList) Try.underlying3 h1
  have hc : ∀ e, (Instr.checkKey e 10000 3 (.int .i64 y)).run Try.prog w = .ok () w := fun e => run_checkKey (P := Try.prog) (w := w) (kt := 3) (k := .int .i64 y) Try.underlying3 rfl e 9999
  unfold Instr.lookup
  simp only [Sem.run_bind, run_underlying Try.underlying61, Result.andThen, Go.MapKept.run_getObj_map (P := Try.prog) h, Sem.run_pure, hc, hk]
  by_cases hy : y ∈ ks
  · obtain ⟨n, rfl⟩ := h2 hy
    simp [hy]
  · rw [h3 hy]
    simp [hy, Result.andThen, Try.zeroValue4]
theorem run_take {w : World} {m : Nat} {ks : List Int} (h : w.heap[m]? = some (.map (tents ks) ks.length)) (y : Int) (hy : y ∉ ks) :
    (Instr.mapUpdate 61 (.map (some m)) (.int .i64 y) (.bool true)).run Try.prog w = .ok () (setBlock w m (.map (tents (ks ++ [y])) (ks ++ [y]).length)) := by
  obtain ⟨r, h1, h2, h3⟩ := find_tents y ks 0 0
  rw [h3 hy] at h1
  have hk := run_findKey (P := Try.prog) (w := w) (kt := 3) (k := .int .i64 y) (l := (tents ks).toList) Try.underlying3 h1
  have hc : ∀ e, (Instr.checkKey e 10000 3 (.int .i64 y)).run Try.prog w = .ok () w := fun e => run_checkKey (P := Try.prog) (w := w) (kt := 3) (k := .int .i64 y) Try.underlying3 rfl e 9999
  unfold Instr.mapUpdate
  simp only [Sem.run_bind, run_underlying Try.underlying61, Result.andThen, Go.MapKept.run_getObj_map (P := Try.prog) h, Sem.run_pure, hc, hk, Go.MapKept.run_setObj_map (P := Try.prog) _ h, tents_push]
  simp [setBlock]

/-- The state: its block, the map of what is taken, the channel. -/
structure Held (w : World) (S mT ch cap : Nat) (lv av : Value) (ks q : List Int) : Prop where
  st : w.heap[S]? = some (.cells #[lv, av, .map (some mT), .chan (some ch)] 64 (0, 0))
  tk : w.heap[mT]? = some (.map (tents ks) ks.length)
  qu : ∃ s r, w.heap[ch]? = some (.chan cap (nums .i64 q).toArray false s r false)
  st_tk : S ≠ mT
  st_qu : S ≠ ch
  tk_qu : mT ≠ ch
/-- Nothing has turned but two blocks. -/
structure But2 (b c : Nat) (w w' : World) : Prop where
  os : w'.os = w.os
  tape : w'.tape = w.tape
  output : w'.output = w.output
  size : w.heap.size ≤ w'.heap.size
  block : ∀ k, k < w.heap.size → k ≠ b → k ≠ c → w'.heap[k]? = w.heap[k]?
theorem But2.refl (b c : Nat) (w : World) : But2 b c w w := ⟨rfl, rfl, rfl, Nat.le_refl _, fun _ _ _ _ => rfl⟩
theorem But2.trans {b c : Nat} {w w1 w2 : World} (h : But2 b c w w1) (k : But2 b c w1 w2) : But2 b c w w2 :=
  ⟨k.os.trans h.os, k.tape.trans h.tape, k.output.trans h.output, Nat.le_trans h.size k.size, fun i hi h1 h2 => (k.block i (Nat.lt_of_lt_of_le hi h.size) h1 h2).trans (h.block i hi h1 h2)⟩
theorem But2.drewN {b c : Nat} {w w1 : World} (h : But2 b c w w1) (n : Nat) : But2 b c w (w1.drewN n) := ⟨h.os, h.tape, h.output, h.size, h.block⟩
theorem But2.below {B b c : Nat} {w0 w w1 : World} (h : Below B w0 w) (hs : B ≤ w.heap.size) (hb : B ≤ b) (hc : B ≤ c) (k : But2 b c w w1) : Below B w0 w1 :=
  ⟨k.os.trans h.os, k.tape.trans h.tape, k.output.trans h.output, Nat.le_trans h.size k.size, fun i hi => (k.block i (by omega) (by omega) (by omega)).trans (h.block i hi)⟩
theorem Held.drewN {w : World} {S mT ch cap : Nat} {lv av : Value} {ks q : List Int} (h : Held w S mT ch cap lv av ks q) (n : Nat) : Held (w.drewN n) S mT ch cap lv av ks q := ⟨h.st, h.tk, h.qu, h.st_tk, h.st_qu, h.tk_qu⟩

/-- What taking a literal does. -/
def takeOf (ks q : List Int) (x : Int) : Bool × List Int × List Int := if wrap64 (-x) ∈ ks then (false, ks, q) else if x ∈ ks then (true, ks, q) else (true, ks ++ [x], q ++ [x])

section
variable {w : World} {S mT ch cap : Nat} {lv av : Value} {ks q : List Int}
theorem Held.cells (h : Held w S mT ch cap lv av ks q) : w.cell? ⟨S, 0, none⟩ = some lv ∧ w.cell? ⟨S, 1, none⟩ = some av ∧ w.cell? ⟨S, 2, none⟩ = some (.map (some mT)) ∧ w.cell? ⟨S, 3, none⟩ = some (.chan (some ch)) :=
  ⟨by rw [blk_cell h.st]; rfl, by rw [blk_cell h.st]; rfl, by rw [blk_cell h.st]; rfl, by rw [blk_cell h.st]; rfl⟩
set_option maxHeartbeats 4000000 in
set_option maxRecDepth 100000 in
theorem take_any (x : Int) (h : Held w S mT ch cap lv av ks q) (hq : q.length < cap) :
    Calls Try.prog 49 #[.pointer (some ⟨S, 0, none⟩), .int .i64 x] w fun e w' => e = .returned (.bool (takeOf ks q x).1) ∧ Held w' S mT ch cap lv av (takeOf ks q x).2.1 (takeOf ks q x).2.2 ∧ But2 mT ch w w' := by
  have H := Aside0.mk h
  obtain ⟨_, _, h2, h3⟩ := h.cells
  have hl := run_taken h.tk
  have HQ := Aside0.mk hq
  clear h hq
  by_cases e1 : wrap64 (-x) ∈ ks
  · have HE : Aside0 (takeOf ks q x = (false, ks, q)) := ⟨by rw [takeOf, if_pos e1]⟩
    go_enter Try.func49, Try.ntmps49
    go_wp2_with fail
    go_ret
    exact ⟨by rw [HE.out]; rfl, by rw [HE.out]; exact H.out, But2.refl _ _ _⟩
  · by_cases e2 : x ∈ ks
    · have HE : Aside0 (takeOf ks q x = (true, ks, q)) := ⟨by rw [takeOf, if_neg e1, if_pos e2]⟩
      go_enter Try.func49, Try.ntmps49
      go_wp2_with fail
      go_ret
      exact ⟨by rw [HE.out]; rfl, by rw [HE.out]; exact H.out, But2.refl _ _ _⟩
    · have HE : Aside0 (takeOf ks q x = (true, ks ++ [x], q ++ [x])) := ⟨by rw [takeOf, if_neg e1, if_neg e2]⟩
      have hu := run_take H.out.tk x e2
      obtain ⟨w1, hw1⟩ : ∃ w1, setBlock w mT (.map (tents (ks ++ [x])) (ks ++ [x]).length) = w1 := ⟨_, rfl⟩
      rw [hw1] at hu
      obtain ⟨cs, cr, hc⟩ := H.out.qu
      have g1 : w1.heap[S]? = w.heap[S]? := by rw [← hw1]; exact (heap_set H.out.tk).2 S H.out.st_tk
      have g2 : w1.heap[mT]? = some (.map (tents (ks ++ [x])) (ks ++ [x]).length) := by rw [← hw1]; exact (heap_set H.out.tk).1
      have g3 : w1.heap[ch]? = w.heap[ch]? := by rw [← hw1]; exact (heap_set H.out.tk).2 ch (fun e => H.out.tk_qu e.symm)
      have k3 : w1.cell? ⟨S, 3, none⟩ = some (.chan (some ch)) := by rw [blk_cell (g1.trans H.out.st)]; rfl
      have HC : Aside0 (w1.heap[ch]? = some (.chan cap (nums .i64 q).toArray false cs cr false)) := ⟨g3.trans hc⟩
      have HD : Aside0 (Held (w1.setChan ch cap ((nums .i64 q).toArray.push (.int .i64 x)) false (cs + 1) cr false) S mT ch cap lv av (ks ++ [x]) (q ++ [x])) := ⟨{
        st := by rw [World.setChan, Array.getElem?_setIfInBounds_ne (fun e => H.out.st_qu e.symm)]; exact g1.trans H.out.st
        tk := by rw [World.setChan, Array.getElem?_setIfInBounds_ne (fun e => H.out.tk_qu e.symm)]; exact g2
        qu := ⟨cs + 1, cr, by rw [Go.Conc.heap_setChan _ _ _ _ _ _ _ _ (blk_lt HC.out)]; simp [nums]⟩
        st_tk := H.out.st_tk
        st_qu := H.out.st_qu
        tk_qu := H.out.tk_qu }⟩
      have HB : Aside0 (But2 mT ch w (w1.setChan ch cap ((nums .i64 q).toArray.push (.int .i64 x)) false (cs + 1) cr false)) := ⟨{
        os := by rw [← hw1]; rfl
        tape := by rw [← hw1]; rfl
        output := by rw [← hw1]; rfl
        size := by rw [← hw1]; simp [World.setChan, setBlock]
        block := fun k hk h1 h2 => by
          rw [World.setChan, Array.getElem?_setIfInBounds_ne (fun e => h2 e.symm), ← hw1]
          exact (heap_set H.out.tk).2 k h1 }⟩
      have HR : Aside0 ((nums .i64 q).toArray.size < cap) := ⟨by simpa [nums] using HQ.out⟩
      clear g1 g2 g3 hw1 hc
      refine calls_of_wpN Try.func49 rfl ?_
      simp only [Try.ntmps49, List.size_toArray, List.length_cons, List.length_nil, Nat.reduceAdd, Nat.reduceSub, Array.replicate_succ, Array.replicate_zero, List.push_toArray, List.append_toArray, List.nil_append, List.cons_append]
      refine wpN_seq' fun K1 hK1 => ?_
      go_wp2_with fail
      refine wpN_seq' fun K2 hK2 => ?_
      go_wp2_with fail
      refine wpN_seq ?_
      refine wpN_seq' fun K3 hK3 => ?_
      go_wp2_with fail
      refine wpN_cond true rfl ?_
      rw [if_pos rfl]
      refine wpN_seq' fun K4 hK4 => ?_
      go_wp2_with fail
      refine wpN_region [_, _, _, _, _] [] _ rfl ?_
      go_wp2_with fail
      refine ⟨_, _, does_send (z' := .tuple #[]) (by rfl) HC.out HR.out, ?_⟩
      refine wpN_of_wp ?_
      go_wp2_with fail
      go_ret
      exact ⟨by rw [HE.out]; rfl, by rw [HE.out]; exact HD.out, HB.out⟩
end
end Go.Proofs.Ytdlfmobnmcamaaa.Q
namespace Go.Proofs.Ytdlfmobnmcamaaa.Q
open Go.RowKit Go.Conc Go.MapKept Go.ChangeMaps Go.Proofs.YtdlfmobnmcamaaaW.PrintWords Go.Proofs.YtdlfmobnmcamaaaW.PrintLast Go.Proofs.YtdlfmobnmcamaaaW.PrintMore
set_option linter.unusedVariables false
set_option linter.unusedSimpArgs false

/-- What is left of a clause, from a place on: none: it is met, or has two literals that are open. -/
def scanOf (ks : List Int) : List Int → Int → Option Int
  | [], left => some left
  | x :: r, left => if x ∈ ks then none else if wrap64 (-x) ∈ ks then scanOf ks r left else if left ≠ 0 ∧ left ≠ x then none else scanOf ks r x
/-- What looking at a clause does. -/
def lookBy (ks q : List Int) : Option Int → Bool × List Int × List Int
  | none => (true, ks, q)
  | some left => if left = 0 then (false, ks, q) else takeOf ks q left
def lookOf (ks q : List Int) (c : List Int) : Bool × List Int × List Int := lookBy ks q (scanOf ks c 0)
theorem rd_at (l : List Int) (i : Nat) (h : i < l.length) : YtdlfmobnmcamaaaW.PrintWords.rd l (i : Int) = l[i] := by simp [YtdlfmobnmcamaaaW.PrintWords.rd, List.getD_eq_getElem?_getD, h]
theorem scan_at (ks l : List Int) (i : Nat) (h : i < l.length) (left : Int) : scanOf ks (l.drop i) left = if YtdlfmobnmcamaaaW.PrintWords.rd l (i : Int) ∈ ks then none else if wrap64 (-(YtdlfmobnmcamaaaW.PrintWords.rd l (i : Int))) ∈ ks then scanOf ks (l.drop (i + 1)) left else if left ≠ 0 ∧ left ≠ YtdlfmobnmcamaaaW.PrintWords.rd l (i : Int) then none else scanOf ks (l.drop (i + 1)) (YtdlfmobnmcamaaaW.PrintWords.rd l (i : Int)) := by
  rw [List.drop_eq_getElem_cons h, scanOf, rd_at l i h]
section
variable {w : World} {S mT ch cap : Nat} {lv av : Value} {ks q : List Int}
set_option maxHeartbeats 8000000 in
set_option maxRecDepth 100000 in
theorem look_any (A0 : Option Addr) (c0 : Nat) (l0 : List Int) (hr0 : Kd.C (Kd.int .i64) w A0 l0.length l0) (h : Held w S mT ch cap lv av ks q) (hq : q.length < cap) :
    Calls Try.prog 50 #[.pointer (some ⟨S, 0, none⟩), .slice A0 l0.length c0] w fun e w' => e = .returned (.bool (lookOf ks q l0).1) ∧ Held w' S mT ch cap lv av (lookOf ks q l0).2.1 (lookOf ks q l0).2.2 ∧ But2 mT ch w w' := by
  have H := Aside0.mk h
  obtain ⟨_, _, h2, h3⟩ := h.cells
  have hl := run_taken h.tk
  have HQ := Aside0.mk hq
  have HR0 := Aside0.mk hr0
  have hm : l0.length ≤ 9223372036854775807 := hr0.2.1
  obtain ⟨z, hz⟩ : ∃ z, scanOf ks l0 0 = z := ⟨_, rfl⟩
  obtain ⟨r, hr⟩ : ∃ r, lookOf ks q l0 = r := ⟨_, rfl⟩
  rw [hr]
  have HE : Aside0 (lookBy ks q z = r) := ⟨by rw [← hr, lookOf, hz]⟩
  have HZ := Aside0.mk hz
  clear h hq hz hr hr0
  go_enter Try.func50, Try.ntmps50
  go_wp2_with fail
  go_loopw [5, 10] (fun u v w' => ∃ (i : Nat) (left : Int), u = .int .i64 left ∧ v = .int .i64 (i : Int) ∧ Aside0 (scanOf ks (l0.drop i) left = z) ∧ i ≤ l0.length ∧ w' = w) (fun _ v _ => l0.length - (intOf v).toNat)
  case atStart => exact ⟨0, 0, rfl, rfl, ⟨by rw [List.drop_zero]; exact HZ.out⟩, by omega, rfl⟩
  case round =>
    obtain ⟨i, left, rfl, rfl, HI, hi, rfl⟩ := hrel
    by_cases hlt : i < l0.length
    · obtain ⟨ad, rfl, hx⟩ := Kd.at_int HR0.out (i : Int) (by omega) (by omega)
      rw [Int.toNat_natCast] at hx
      have hs := HI.out
      rw [scan_at ks l0 i hlt] at hs
      obtain ⟨x, ex⟩ : ∃ x, YtdlfmobnmcamaaaW.PrintWords.rd l0 (i : Int) = x := ⟨_, rfl⟩
      rw [ex] at hs hx
      clear ex HI
      by_cases e1 : x ∈ ks
      · rw [if_pos e1] at hs
        have HT : Aside0 (r = (true, ks, q)) := ⟨by rw [← HE.out, ← hs]; rfl⟩
        clear hs
        go_wp2_with fail
        go_ret
        exact ⟨by rw [HT.out]; rfl, by rw [HT.out]; exact H.out, But2.refl _ _ _⟩
      · rw [if_neg e1] at hs
        by_cases e2 : wrap64 (-x) ∈ ks
        · rw [if_pos e2] at hs
          have HS := Aside0.mk hs
          clear hs
          go_wp2_with fail
          go_roundw
          case rel => exact ⟨i + 1, left, rfl, by go_num, HS, by omega, trivial⟩
          case measure => simp [intOf]; omega
        · rw [if_neg e2] at hs
          by_cases e3 : left = 0
          · rw [if_neg (fun h => h.1 e3)] at hs
            have HS := Aside0.mk hs
            have e4 : (left != 0) = false := by simpa using e3
            clear hs e3
            go_wp2_with fail
            go_roundw
            case rel => exact ⟨i + 1, x, rfl, by go_num, HS, by omega, trivial⟩
            case measure => simp [intOf]; omega
          · have e4 : (left != 0) = true := by simpa using e3
            by_cases e5 : left = x
            · rw [if_neg (fun h => h.2 e5)] at hs
              have HS := Aside0.mk hs
              have e6 : (left != x) = false := by simpa using e5
              clear hs e3 e5
              go_wp2_with fail
              go_roundw
              case rel => exact ⟨i + 1, x, rfl, by go_num, HS, by omega, trivial⟩
              case measure => simp [intOf]; omega
            · rw [if_pos ⟨e3, e5⟩] at hs
              have HT : Aside0 (r = (true, ks, q)) := ⟨by rw [← HE.out, ← hs]; rfl⟩
              have e6 : (left != x) = true := by simpa using e5
              clear hs e3 e5
              go_wp2_with fail
              go_ret
              exact ⟨by rw [HT.out]; rfl, by rw [HT.out]; exact H.out, But2.refl _ _ _⟩
    · have hs := HI.out
      rw [List.drop_eq_nil_of_le (by omega), scanOf] at hs
      have hE := HE.out
      rw [← hs, lookBy] at hE
      by_cases e3 : left = 0
      · have e4 : (left != 0) = false := by simpa using e3
        simp only [e3, if_true] at hE
        have HT : Aside0 (r = (false, ks, q)) := ⟨hE.symm⟩
        clear hs e3 HE hE
        go_wp2_with fail
        go_ret
        exact ⟨by rw [HT.out]; rfl, by rw [HT.out]; exact H.out, But2.refl _ _ _⟩
      · have e4 : (left != 0) = true := by simpa using e3
        simp only [e3, if_false] at hE
        have HT : Aside0 (r = takeOf ks q left) := ⟨hE.symm⟩
        clear hs e3 HE hE
        go_wp2_with fail
        refine (take_any left H.out HQ.out).mono ?_
        rintro e w2 ⟨rfl, hh, hb⟩
        have HH := Aside0.mk hh
        have HB := Aside0.mk hb
        clear hh hb
        go_wp2_with fail
        go_ret
        exact ⟨by rw [HT.out]; rfl, by rw [HT.out]; exact HH.out, HB.out⟩
end
end Go.Proofs.Ytdlfmobnmcamaaa.Q
namespace Go.Proofs.Ytdlfmobnmcamaaa.Q
set_option linter.unusedVariables false
set_option linter.unusedSimpArgs false
open Go.RowKit

/-- The opposite. -/
def neg (x : Int) : Int := wrap64 (-x)
/-- A literal of any use. -/
def Lt (x : Int) : Prop := x ≠ 0 ∧ -4611686018427387904 < x ∧ x < 4611686018427387904
theorem neg_lt {x : Int} (h : Lt x) : neg x = -x := by unfold Lt at h; unfold neg wrap64; omega
theorem neg_Lt {x : Int} (h : Lt x) : Lt (neg x) := by rw [neg_lt h]; unfold Lt at *; omega
theorem neg_neg {x : Int} (h : Lt x) : neg (neg x) = x := by rw [neg_lt (neg_Lt h), neg_lt h]; omega
theorem neg_ne {x : Int} (h : Lt x) : neg x ≠ x := by rw [neg_lt h]; unfold Lt at h; omega

/-- What follows by units. -/
inductive Der (l : List (List Int)) (known : List Int) : Int → Prop
  | known {x : Int} : x ∈ known → Der l known x
  | unit {c : List Int} {x : Int} : c ∈ l → x ∈ c → (∀ y ∈ c, y ≠ x → Der l known (neg y)) → Der l known x
/-- A conflict. -/
def Conf (l : List (List Int)) (known : List Int) : Prop := (∃ x, Der l known x ∧ Der l known (neg x)) ∨ ∃ c ∈ l, ∀ y ∈ c, Der l known (neg y)
/-- Nothing is to be done at a clause. -/
def Good (ks c : List Int) : Prop := (∃ z ∈ c, z ∈ ks) ∨ ∃ y ∈ c, ∃ z ∈ c, y ≠ z ∧ neg y ∉ ks ∧ neg z ∉ ks

theorem scan_none (ks : List Int) : ∀ (c : List Int) (left : Int), scanOf ks c left = none → (∃ z ∈ c, z ∈ ks) ∨ (∃ y ∈ c, neg y ∉ ks ∧ left ≠ 0 ∧ left ≠ y) ∨ ∃ y ∈ c, ∃ z ∈ c, y ≠ z ∧ neg y ∉ ks ∧ neg z ∉ ks
  | [], left, h => by cases h
  | x :: r, left, h => by
    rw [scanOf] at h
    by_cases e1 : x ∈ ks
    · exact .inl ⟨x, List.mem_cons_self, e1⟩
    · rw [if_neg e1] at h
      by_cases e2 : wrap64 (-x) ∈ ks
      · rw [if_pos e2] at h
        rcases scan_none ks r left h with ⟨z, hz, hk⟩ | ⟨y, hy, hk⟩ | ⟨y, hy, z, hz, hk⟩
        · exact .inl ⟨z, List.mem_cons_of_mem _ hz, hk⟩
        · exact .inr (.inl ⟨y, List.mem_cons_of_mem _ hy, hk⟩)
        · exact .inr (.inr ⟨y, List.mem_cons_of_mem _ hy, z, List.mem_cons_of_mem _ hz, hk⟩)
      · rw [if_neg e2] at h
        by_cases e3 : left ≠ 0 ∧ left ≠ x
        · exact .inr (.inl ⟨x, List.mem_cons_self, e2, e3.1, e3.2⟩)
        · rw [if_neg e3] at h
          rcases scan_none ks r x h with ⟨z, hz, hk⟩ | ⟨y, hy, hk, _, hne⟩ | ⟨y, hy, z, hz, hk⟩
          · exact .inl ⟨z, List.mem_cons_of_mem _ hz, hk⟩
          · exact .inr (.inr ⟨x, List.mem_cons_self, y, List.mem_cons_of_mem _ hy, hne, e2, hk⟩)
          · exact .inr (.inr ⟨y, List.mem_cons_of_mem _ hy, z, List.mem_cons_of_mem _ hz, hk⟩)
theorem scan_some (ks : List Int) : ∀ (c : List Int) (left z : Int), (∀ y ∈ c, y ≠ 0) → scanOf ks c left = some z → (∀ y ∈ c, y ∉ ks) ∧ (∀ y ∈ c, neg y ∈ ks ∨ y = z) ∧ (z = left ∨ (z ∈ c ∧ neg z ∉ ks ∧ (left = 0 ∨ left = z)))
  | [], left, z, _, h => by
    have := Option.some.inj h
    exact ⟨by simp, by simp, .inl this.symm⟩
  | x :: r, left, z, h0, h => by
    rw [scanOf] at h
    have h0r : ∀ y ∈ r, y ≠ 0 := fun y hy => h0 y (List.mem_cons_of_mem _ hy)
    by_cases e1 : x ∈ ks
    · rw [if_pos e1] at h; cases h
    · rw [if_neg e1] at h
      by_cases e2 : wrap64 (-x) ∈ ks
      · rw [if_pos e2] at h
        obtain ⟨h1, h2, h3⟩ := scan_some ks r left z h0r h
        refine ⟨fun y hy => ?_, fun y hy => ?_, ?_⟩
        · rcases List.mem_cons.1 hy with rfl | hy
          · exact e1
          · exact h1 y hy
        · rcases List.mem_cons.1 hy with rfl | hy
          · exact .inl e2
          · exact h2 y hy
        · rcases h3 with h3 | ⟨h3, h4⟩
          · exact .inl h3
          · exact .inr ⟨List.mem_cons_of_mem _ h3, h4⟩
      · rw [if_neg e2] at h
        by_cases e3 : left ≠ 0 ∧ left ≠ x
        · rw [if_pos e3] at h; cases h
        · rw [if_neg e3] at h
          obtain ⟨h1, h2, h3⟩ := scan_some ks r x z h0r h
          have hx : x = z ∨ x = 0 := by
            rcases h3 with h3 | ⟨_, _, h5 | h5⟩
            · exact .inl h3.symm
            · exact .inr h5
            · exact .inl h5
          by_cases e4 : x = z
          · subst e4
            refine ⟨fun y hy => ?_, fun y hy => ?_, .inr ⟨List.mem_cons_self, e2, ?_⟩⟩
            · rcases List.mem_cons.1 hy with rfl | hy
              · exact e1
              · exact h1 y hy
            · rcases List.mem_cons.1 hy with rfl | hy
              · exact .inr rfl
              · exact h2 y hy
            · by_cases e5 : left = 0
              · exact .inl e5
              · exact .inr (Decidable.not_not.1 fun e6 => e3 ⟨e5, e6⟩)
          · exact absurd (hx.resolve_left e4) (h0 x List.mem_cons_self)

/-- Where the work stands: what is taken, how many of it have been looked after; 'todo': clauses that wait. -/
structure Inv (l : List (List Int)) (known : List Int) (todo : Nat → Prop) (ks : List Int) (p : Nat) : Prop where
  nodup : ks.Nodup
  der : ∀ x ∈ ks, Der l known x
  lt : ∀ x ∈ ks, Lt x
  of : ∀ x ∈ ks, x ∈ known ++ l.flatten
  con : ∀ x ∈ ks, neg x ∉ ks
  done : p ≤ ks.length
  good : ∀ i c, l[i]? = some c → todo i ∨ Good ks c ∨ ∃ x ∈ ks.drop p, neg x ∈ c
section
variable {l : List (List Int)} {known : List Int} {todo : Nat → Prop} {ks : List Int} {p : Nat}
theorem drop_push (ks : List Int) (p : Nat) (h : p ≤ ks.length) (x : Int) : (ks ++ [x]).drop p = ks.drop p ++ [x] := by
  rw [List.drop_append_of_le_length h]
theorem Inv.push (hL : ∀ c ∈ l, ∀ y ∈ c, Lt y) (I : Inv l known todo ks p) {x : Int} (hx : x ∉ ks) (hn : neg x ∉ ks) (hd : Der l known x) (hl : Lt x) (ho : x ∈ known ++ l.flatten) : Inv l known todo (ks ++ [x]) p where
  nodup := by
    rw [List.nodup_append]
    refine ⟨I.nodup, by simp, fun a ha b hb => ?_⟩
    simp at hb
    subst hb
    exact fun e => hx (e ▸ ha)
  der y hy := by
    rcases List.mem_append.1 hy with h | h
    · exact I.der y h
    · simp at h; subst h; exact hd
  lt y hy := by
    rcases List.mem_append.1 hy with h | h
    · exact I.lt y h
    · simp at h; subst h; exact hl
  of y hy := by
    rcases List.mem_append.1 hy with h | h
    · exact I.of y h
    · simp at h; subst h; exact ho
  con y hy := by
    intro hc
    rcases List.mem_append.1 hy with h | h
    · rcases List.mem_append.1 hc with k | k
      · exact I.con y h k
      · simp at k
        apply hn
        rw [← k, neg_neg (I.lt y h)]
        exact h
    · simp at h
      subst h
      rcases List.mem_append.1 hc with k | k
      · exact hn k
      · simp at k
        exact neg_ne hl k
  done := by simp; have := I.done; omega
  good i c hc := by
    rw [drop_push ks p I.done]
    rcases I.good i c hc with h | h | ⟨y, hy, hyc⟩
    · exact .inl h
    · right
      rcases h with ⟨z, hz, hk⟩ | ⟨y, hy, z, hz, hne, h1, h2⟩
      · exact .inl (.inl ⟨z, hz, List.mem_append_left _ hk⟩)
      · by_cases e1 : neg y = x
        · exact .inr ⟨x, by simp, by rw [← e1, neg_neg (hL c (List.mem_of_getElem? hc) y hy)]; exact hy⟩
        · by_cases e2 : neg z = x
          · exact .inr ⟨x, by simp, by rw [← e2, neg_neg (hL c (List.mem_of_getElem? hc) z hz)]; exact hz⟩
          · exact .inl (.inr ⟨y, hy, z, hz, hne, fun h => (List.mem_append.1 h).elim h1 (fun h => e1 (by simpa using h)), fun h => (List.mem_append.1 h).elim h2 (fun h => e2 (by simpa using h))⟩)
    · exact .inr (.inr ⟨y, List.mem_append_left _ hy, hyc⟩)
theorem take_sub (ks q : List Int) (z : Int) : ∀ x ∈ ks, x ∈ (takeOf ks q z).2.1 := fun x hx => by
  unfold takeOf
  split
  · exact hx
  · split
    · exact hx
    · exact List.mem_append_left _ hx
theorem look_sub (ks q c : List Int) : ∀ x ∈ ks, x ∈ (lookOf ks q c).2.1 := fun x hx => by
  unfold lookOf lookBy
  split
  · exact hx
  · split
    · exact hx
    · exact take_sub ks q _ x hx
theorem Inv.fewer (I : Inv l known todo ks p) {todo' : Nat → Prop} (h : ∀ i c, l[i]? = some c → todo i → todo' i ∨ Good ks c) : Inv l known todo' ks p :=
  ⟨I.nodup, I.der, I.lt, I.of, I.con, I.done, fun i c hc => by
    rcases I.good i c hc with k | k | k
    · rcases h i c hc k with k | k
      · exact .inl k
      · exact .inr (.inl k)
    · exact .inr (.inl k)
    · exact .inr (.inr k)⟩
/-- A look at a clause. -/
theorem Inv.look (hL : ∀ c ∈ l, ∀ y ∈ c, Lt y) (I : Inv l known todo ks p) {i : Nat} {c : List Int} (hc : l[i]? = some c) :
    ((lookOf ks (ks.drop p) c).1 = false → Conf l known) ∧ ((lookOf ks (ks.drop p) c).1 = true → (lookOf ks (ks.drop p) c).2.2 = (lookOf ks (ks.drop p) c).2.1.drop p ∧ Inv l known (fun j => todo j ∧ j ≠ i) (lookOf ks (ks.drop p) c).2.1 p) := by
  have hcl := List.mem_of_getElem? hc
  have h0 : ∀ y ∈ c, y ≠ 0 := fun y hy => (hL c hcl y hy).1
  unfold lookOf
  cases hs : scanOf ks c 0 with
  | none =>
    refine ⟨fun h => (by cases h), fun _ => ⟨rfl, I.fewer fun j d hd hj => ?_⟩⟩
    by_cases e : j = i
    · subst e
      rw [hc] at hd
      cases hd
      refine .inr ?_
      rcases scan_none ks c 0 hs with h | ⟨_, _, _, h, _⟩ | h
      · exact .inl h
      · exact absurd rfl h
      · exact .inr h
    · exact .inl ⟨hj, e⟩
  | some z =>
    obtain ⟨h1, h2, h3⟩ := scan_some ks c 0 z h0 hs
    by_cases hz : z = 0
    · subst hz
      refine ⟨fun _ => .inr ⟨c, hcl, fun y hy => I.der _ ((h2 y hy).resolve_right (h0 y hy))⟩, fun h => ?_⟩
      simp [lookBy] at h
    · obtain ⟨hzc, hnz, _⟩ := h3.resolve_left hz
      have e : lookBy ks (ks.drop p) (some z) = (true, ks ++ [z], ks.drop p ++ [z]) := by
        rw [lookBy, if_neg hz, takeOf, if_neg (show ¬ wrap64 (-z) ∈ ks from hnz), if_neg (h1 z hzc)]
      rw [e]
      refine ⟨fun h => (by cases h), fun _ => ⟨(drop_push ks p I.done z).symm, ?_⟩⟩
      have I2 := I.push hL (h1 z hzc) hnz (.unit hcl hzc fun y hy hne => I.der _ ((h2 y hy).resolve_right hne)) (hL c hcl z hzc) (List.mem_append_right _ (List.mem_flatten.2 ⟨c, hcl, hzc⟩))
      refine I2.fewer fun j d hd hj => ?_
      by_cases e : j = i
      · subst e
        rw [hc] at hd
        cases hd
        exact .inr (.inl ⟨z, hzc, by simp⟩)
      · exact .inl ⟨hj, e⟩
/-- Taking what is known. -/
theorem Inv.take (hL : ∀ c ∈ l, ∀ y ∈ c, Lt y) (I : Inv l known todo ks p) {x : Int} (hx : x ∈ known) (hl : Lt x) :
    ((takeOf ks (ks.drop p) x).1 = false → Conf l known) ∧ ((takeOf ks (ks.drop p) x).1 = true → (takeOf ks (ks.drop p) x).2.2 = (takeOf ks (ks.drop p) x).2.1.drop p ∧ Inv l known todo (takeOf ks (ks.drop p) x).2.1 p ∧ x ∈ (takeOf ks (ks.drop p) x).2.1 ∧ ∀ y ∈ ks, y ∈ (takeOf ks (ks.drop p) x).2.1) := by
  unfold takeOf
  by_cases e1 : wrap64 (-x) ∈ ks
  · rw [if_pos e1]
    exact ⟨fun _ => .inl ⟨x, .known hx, I.der _ e1⟩, fun h => (by cases h)⟩
  · rw [if_neg e1]
    by_cases e2 : x ∈ ks
    · rw [if_pos e2]
      exact ⟨fun h => (by cases h), fun _ => ⟨rfl, I, e2, fun _ h => h⟩⟩
    · rw [if_neg e2]
      exact ⟨fun h => (by cases h), fun _ => ⟨(drop_push ks p I.done x).symm, I.push hL e2 e1 (.known hx) hl (List.mem_append_left _ hx), by simp, fun y hy => List.mem_append_left _ hy⟩⟩
theorem Inv.pop (I : Inv l known (fun _ => False) ks p) {x : Int} {r : List Int} (h : ks.drop p = x :: r) : ks.drop (p + 1) = r ∧ Inv l known (fun i => ∃ c, l[i]? = some c ∧ neg x ∈ c) ks (p + 1) := by
  have hr : ks.drop (p + 1) = r := by rw [← List.drop_drop, h]; rfl
  have hp : p < ks.length := by
    rcases Nat.lt_or_ge p ks.length with h' | h'
    · exact h'
    · rw [List.drop_eq_nil_of_le h'] at h; cases h
  refine ⟨hr, ⟨I.nodup, I.der, I.lt, I.of, I.con, hp, fun i c hc => ?_⟩⟩
  rcases I.good i c hc with k | k | ⟨y, hy, hyc⟩
  · exact k.elim
  · exact .inr (.inl k)
  · rw [h] at hy
    rcases List.mem_cons.1 hy with e | hy
    · subst e; exact .inl ⟨c, hc, hyc⟩
    · exact .inr (.inr ⟨y, by rw [hr]; exact hy, hyc⟩)
/-- The end: what is taken is what follows, and there is no conflict. -/
theorem Inv.last (hL : ∀ c ∈ l, ∀ y ∈ c, Lt y) (I : Inv l known (fun _ => False) ks p) (hp : ks.drop p = []) (hk : ∀ x ∈ known, x ∈ ks) : (∀ x, Der l known x ↔ x ∈ ks) ∧ ¬ Conf l known := by
  have hg : ∀ c ∈ l, Good ks c := fun c hc => by
    obtain ⟨i, hi⟩ := List.getElem?_of_mem hc
    rcases I.good i c hi with k | k | ⟨y, hy, _⟩
    · exact k.elim
    · exact k
    · rw [hp] at hy; cases hy
  have no : ∀ z, z ∈ ks → neg z ∈ ks → False := fun z h h' => I.con z h h'
  have hd : ∀ x, Der l known x → x ∈ ks := by
    intro x h
    induction h with
    | known h => exact hk _ h
    | @unit c x hc hx _ ih =>
      rcases hg c hc with ⟨z, hz, hzk⟩ | ⟨y, hy, z, hz, hne, h1, h2⟩
      · by_cases e : z = x
        · exact e ▸ hzk
        · exact (no z hzk (ih z hz e)).elim
      · by_cases e : y = x
        · exact absurd (ih z hz (fun e' => hne (e.trans e'.symm))) h2
        · exact absurd (ih y hy e) h1
  refine ⟨fun x => ⟨hd x, I.der x⟩, ?_⟩
  rintro (⟨x, h1, h2⟩ | ⟨c, hc, h⟩)
  · exact no x (hd x h1) (hd _ h2)
  · rcases hg c hc with ⟨z, hz, hzk⟩ | ⟨y, hy, z, hz, hne, h1, h2⟩
    · exact no z hzk (hd _ (h z hz))
    · exact h1 (hd _ (h y hy))
end
end Go.Proofs.Ytdlfmobnmcamaaa.Q
namespace Go.Proofs.Ytdlfmobnmcamaaa.Q
open Go.RowKit Go.Conc Go.MapKept Go.ChangeMaps Go.Proofs.YtdlfmobnmcamaaaW.PrintWords Go.Proofs.YtdlfmobnmcamaaaW.PrintLast Go.Proofs.YtdlfmobnmcamaaaW.PrintMore
set_option linter.unusedVariables false
set_option linter.unusedSimpArgs false
theorem row_at {w : World} {A : Option Addr} {n : Nat} {xs : List (List Int)} (h : Kd.C (Kd.slice 3 (Kd.int .i64)) w A n xs) (i : Nat) (h1 : i < xs.length) : ∃ ad A0 c0, A = some ad ∧ w.cell? (ad.add i) = some (.slice A0 xs[i].length c0) ∧ xs[i].length ≤ c0 ∧ Kd.C (Kd.int .i64) w A0 xs[i].length xs[i] := by
  have hn := h.1
  obtain ⟨ad, c, e, _, hK, hc0⟩ := Kd.C_get h ([] : List Int) (i : Int) (by omega) (by omega)
  have e2 : xs.getD ((i : Int)).toNat [] = xs[i] := by simp [List.getD_eq_getElem?_getD, h1]
  rw [e2] at hK
  obtain ⟨A0, c0, rfl, hl, hC⟩ := hK
  refine ⟨ad, A0, c0, e, ?_, hl, hC⟩
  have := hc0 0 _ rfl
  simpa [Kd.slice] using this
theorem Inv.room {l : List (List Int)} {known : List Int} {todo : Nat → Prop} {ks : List Int} {p : Nat} (I : Inv l known todo ks p) : ks.length ≤ (known ++ l.flatten).length := List.Nodup.length_le_of_subset I.nodup I.of

/-- Where a literal stands: the numbers of the clauses. -/
def Occ (l : List (List Int)) (y : Int) (zs : List Int) : Prop := (∀ j ∈ zs, ∃ i : Nat, j = (i : Int) ∧ i < l.length) ∧ ∀ (i : Nat) c, l[i]? = some c → y ∈ c → (i : Int) ∈ zs
/-- The map of where literals stand, and the clauses, in each world in which no other blocks have turned. -/
structure Laid (wb : World) (mT ch : Nat) (AL : Option Addr) (mA : Nat) (l : List (List Int)) : Prop where
  row : ∀ w', But2 mT ch wb w' → Kd.C (Kd.slice 3 (Kd.int .i64)) w' AL l.length l
  occ : ∀ y, Lt y → ∃ A c zs, Occ l y zs ∧ ∀ w', But2 mT ch wb w' → (Instr.lookup 60 (.map (some mA)) (.int .i64 y) false).run Try.prog w' = .ok (.slice A zs.length c) w' ∧ Kd.C (Kd.int .i64) w' A zs.length zs
/-- What 'run' leaves. -/
def RunPost (l : List (List Int)) (known : List Int) (wb : World) (S mT ch cap : Nat) (lv av : Value) (ks : List Int) (e : Ending) (w' : World) : Prop :=
  But2 mT ch wb w' ∧ ((e = .returned (.bool false) ∧ Conf l known) ∨ (e = .returned (.bool true) ∧ ∃ ks' p', (∀ x ∈ ks, x ∈ ks') ∧ Inv l known (fun _ => False) ks' p' ∧ ks'.drop p' = [] ∧ Held w' S mT ch cap lv av ks' []))
section
variable {w wb : World} {S mT ch cap mA cL : Nat} {AL : Option Addr} {l : List (List Int)} {known ks : List Int}
def runI (l : List (List Int)) (known : List Int) (wb : World) (S mT ch cap : Nat) (lv av : Value) (ks0 : List Int) (a : Act) (w : World) (p : Nat) : Prop :=
  (∃ u1 u2 u3 u4 u5 u6 u7 u8 u9 u10 u11 u12 u13 u14 u15 u16 u17 u18 u19 u20 u21 u22 u23 u24 u25 u26 u27 u28 u29 u30 u31 u32 u33 u34 u35 u36, a = { tmps := #[.pointer (some ⟨S, 0, none⟩), u1, u2, u3, u4, u5, u6, u7, u8, u9, u10, u11, u12, u13, u14, u15, u16, u17, u18, u19, u20, u21, u22, u23, u24, u25, u26, u27, u28, u29, u30, u31, u32, u33, u34, u35, u36], defers := [] }) ∧ ∃ ks, (∀ x ∈ ks0, x ∈ ks) ∧ But2 mT ch wb w ∧ Inv l known (fun _ => False) ks p ∧ Held w S mT ch cap lv av ks (ks.drop p)
set_option maxHeartbeats 16000000 in
set_option maxRecDepth 100000 in
theorem run_any (p : Nat) (hL : ∀ c ∈ l, ∀ y ∈ c, Lt y) (hX : Laid wb mT ch AL mA l) (hcap : (known ++ l.flatten).length < cap) (hB : But2 mT ch wb w) (I : Inv l known (fun _ => False) ks p) (H : Held w S mT ch cap (.slice AL l.length cL) (.map (some mA)) ks (ks.drop p)) :
    Calls Try.prog 51 #[.pointer (some ⟨S, 0, none⟩)] w (RunPost l known wb S mT ch cap (.slice AL l.length cL) (.map (some mA)) ks) := by
  have HL := Aside0.mk hL
  have HX := Aside0.mk hX
  have HCAP := Aside0.mk hcap
  have HB := Aside0.mk hB
  have HI := Aside0.mk I
  have HH := Aside0.mk H
  clear hL hX hcap hB I H
  refine calls_of_wpN Try.func51 rfl ?_
  simp only [Try.ntmps51, List.size_toArray, List.length_cons, List.length_nil, Nat.reduceAdd, Nat.reduceSub, Array.replicate_succ, Array.replicate_zero, List.push_toArray, List.append_toArray, List.nil_append, List.cons_append]
  refine wpN_seq' fun K1 hK1 => ?_
  go_wp2_with fail
  refine wpN_block ?_
  refine wpN_loop_n (fun n a w => ∃ p, n = (known ++ l.flatten).length - p ∧ runI l known wb S mT ch cap (.slice AL l.length cL) (.map (some mA)) ks a w p) _ ⟨p, rfl, ⟨_, _, _, _, _, _, _, _, _, _, _, _, _, _, _, _, _, _, _, _, _, _, _, _, _, _, _, _, _, _, _, _, _, _, _, _, rfl⟩, ks, fun _ h => h, HB.out, HI.out, HH.out⟩ ?_
  rintro n a w1 ⟨p1, rfl, ⟨u1, u2, u3, u4, u5, u6, u7, u8, u9, u10, u11, u12, u13, u14, u15, u16, u17, u18, u19, u20, u21, u22, u23, u24, u25, u26, u27, u28, u29, u30, u31, u32, u33, u34, u35, u36, rfl⟩, ks1, hk1, hB1, I1, H1⟩
  have HK1 := Aside0.mk hk1
  have HB1 := Aside0.mk hB1
  have HI1 := Aside0.mk I1
  have HH1 := Aside0.mk H1
  obtain ⟨_, _, _, h3⟩ := H1.cells
  obtain ⟨cs, cr, hc⟩ := H1.qu
  have HC := Aside0.mk hc
  clear hk1 hB1 I1 H1 hc
  refine wpN_block ?_
  refine wpN_seq' fun K2 hK2 => ?_
  go_wp2_with fail
  cases hq : ks1.drop p1 with
  | nil =>
    rw [hq] at HC
    refine wpN_seq ?_
    refine wpN_region [] [_, _] _ rfl ?_
    refine ⟨by rfl, _, _, does_none (z := .int .i64 0) ?_ HC.out, ?_⟩
    · simp [execOp, Act.eval, rcase, Result.andThen, Try.zeroValue3]
    · go_wp2_with fail
      refine wpN_block ?_
      refine wpN_cond false rfl ?_
      simp only [Bool.false_eq_true, if_false]
      refine wpN_of_wp ?_
      go_wp2_with fail
      go_ret
      exact ⟨HB1.out, .inr ⟨rfl, ks1, p1, HK1.out, HI1.out, hq, by have := HH1.out; rw [hq] at this; exact this⟩⟩
  | cons x r =>
    rw [hq] at HC
    obtain ⟨hr, I2⟩ := HI1.out.pop hq
    have HI2 := Aside0.mk I2
    obtain ⟨w2, hw2⟩ : ∃ w2, w1.setChan ch cap ((nums .i64 (x :: r)).toArray.extract 1 (nums .i64 (x :: r)).toArray.size) false cs (cr + 1) false = w2 := ⟨_, rfl⟩
    have HH2 : Aside0 (Held w2 S mT ch cap (.slice AL l.length cL) (.map (some mA)) ks1 (ks1.drop (p1 + 1))) := ⟨{
        st := by rw [← hw2, World.setChan, Array.getElem?_setIfInBounds_ne (fun e => HH1.out.st_qu e.symm)]; exact HH1.out.st
        tk := by rw [← hw2, World.setChan, Array.getElem?_setIfInBounds_ne (fun e => HH1.out.tk_qu e.symm)]; exact HH1.out.tk
        qu := ⟨cs, cr + 1, by rw [← hw2, Go.Conc.heap_setChan _ _ _ _ _ _ _ _ (blk_lt HC.out), hr]; simp [nums]; exact List.take_of_length_le (by simp)⟩
        st_tk := HH1.out.st_tk
        st_qu := HH1.out.st_qu
        tk_qu := HH1.out.tk_qu }⟩
    have HB2 : Aside0 (But2 mT ch wb w2) := ⟨HB1.out.trans {
        os := by rw [← hw2]; rfl
        tape := by rw [← hw2]; rfl
        output := by rw [← hw2]; rfl
        size := by rw [← hw2]; simp [World.setChan]
        block := fun k hk h1 h2 => by rw [← hw2, World.setChan, Array.getElem?_setIfInBounds_ne (fun e => h2 e.symm)] }⟩
    have hx : x ∈ ks1 := List.mem_of_mem_drop (i := p1) (by rw [hq]; exact List.mem_cons_self)
    have hlx : Lt (neg x) := neg_Lt (HI1.out.lt x hx)
    have HP : Aside0 (p1 < (known ++ l.flatten).length) := ⟨by
      have := HI1.out.room
      have h2 : p1 < ks1.length := by
        rcases Nat.lt_or_ge p1 ks1.length with h' | h'
        · exact h'
        · rw [List.drop_eq_nil_of_le h'] at hq; cases hq
      omega⟩
    obtain ⟨A5, c5, zs, ho, hx5⟩ := HX.out.occ (neg x) hlx
    have HO := Aside0.mk ho
    have HX5 := Aside0.mk hx5
    clear hx hlx ho hx5 I2 hr
    refine wpN_seq ?_
    refine wpN_region [] [_, _] _ rfl ?_
    refine ⟨by rfl, _, _, does_recv' (v := .int .i64 x) (z := .int .i64 0) rfl ?_ HC.out (by simp [nums]), ?_⟩
    · simp [execOp, Act.eval, rcase, Result.andThen, Try.zeroValue3]
    · rw [hw2]
      clear hw2
      obtain ⟨h6, h7, _, h8⟩ := HH2.out.cells
      go_wp2_with fail
      refine wpN_block ?_
      refine wpN_cond true rfl ?_
      rw [if_pos rfl]
      refine wpN_of_wp ?_
      have hlk : (Instr.lookup 60 (.map (some mA)) (.int .i64 (wrap64 (-x))) false).run Try.prog w2 = .ok (.slice A5 zs.length c5) w2 := (HX5.out w2 HB2.out).1
      go_wp2_with fail
      go_loopw [22] (fun v w' => ∃ j : Nat, v = .int .i64 (j : Int) ∧ j ≤ zs.length ∧ ∃ W : World, W = w' ∧ Aside0 (∃ ks2, (∀ x ∈ ks, x ∈ ks2) ∧ But2 mT ch wb W ∧ Inv l known (fun i => (i : Int) ∈ zs.drop j) ks2 (p1 + 1) ∧ Held W S mT ch cap (.slice AL l.length cL) (.map (some mA)) ks2 (ks2.drop (p1 + 1)))) (fun v _ => zs.length - (intOf v).toNat)
      case atStart =>
        exact ⟨0, rfl, by omega, _, rfl, ⟨ks1, HK1.out, HB2.out, HI2.out.fewer (fun i c hc h => .inl (by obtain ⟨d, hd, hy⟩ := h; rw [List.drop_zero]; exact HO.out.2 i d hd hy)), HH2.out⟩⟩
      case round =>
        obtain ⟨j, rfl, hj, W, rfl, ⟨⟨ks2, hk2, hB3, I3, H3⟩⟩⟩ := hrel
        have HK2 := Aside0.mk hk2
        have HB3 := Aside0.mk hB3
        have HI3 := Aside0.mk I3
        have HH3 := Aside0.mk H3
        obtain ⟨g0, _, _, _⟩ := H3.cells
        have HZ := Aside0.mk (HX5.out W HB3.out).2
        have hzm : zs.length ≤ 9223372036854775807 := HZ.out.2.1
        clear hk2 hB3 I3 H3
        by_cases hlt : j < zs.length
        · obtain ⟨ad, rfl, hz⟩ := Kd.at_int HZ.out (j : Int) (by omega) (by omega)
          rw [Int.toNat_natCast] at hz
          have hmem : YtdlfmobnmcamaaaW.PrintWords.rd zs (j : Int) = zs[j] := rd_at zs j hlt
          obtain ⟨i, hi, hil⟩ := HO.out.1 _ (List.getElem_mem hlt)
          rw [hmem, hi] at hz
          obtain ⟨ad2, A6, c6, rfl, hrow, hl6, hC6⟩ := row_at (HX.out.row W HB3.out) i hil
          obtain ⟨c, hc⟩ : ∃ c, l[i] = c := ⟨_, rfl⟩
          rw [hc] at hrow hl6 hC6
          have hc2 : l[i]? = some c := by rw [List.getElem?_eq_getElem hil, hc]
          have HS := Aside0.mk (look_sub ks2 (ks2.drop (p1 + 1)) c)
          have hroom : (ks2.drop (p1 + 1)).length < cap := by have := HI3.out.room; have := HCAP.out; rw [List.length_drop]; omega
          have hlook := look_any A6 c6 c hC6 HH3.out hroom
          have hinv := HI3.out.look HL.out hc2
          rcases hr3 : lookOf ks2 (ks2.drop (p1 + 1)) c with ⟨b, ks3, q3⟩
          rw [hr3] at hlook hinv HS
          have HD : Aside0 (∀ i' : Nat, (i' : Int) ∈ zs.drop j ∧ i' ≠ i → (i' : Int) ∈ zs.drop (j + 1)) := ⟨by
            rintro i' ⟨h1, h2⟩
            rw [List.drop_eq_getElem_cons hlt, hi] at h1
            rcases List.mem_cons.1 h1 with h | h
            · exact absurd (by omega) h2
            · exact h⟩
          have HLK := Aside0.mk hlook
          have HIN := Aside0.mk hinv
          clear hroom hmem hi hc hl6 hC6 hc2 hlook hinv hr3
          cases b with
          | false =>
            have HCF := Aside0.mk (HIN.out.1 rfl)
            clear HIN
            go_wp2_with fail
            refine HLK.out.mono ?_
            rintro e w4 ⟨rfl, _, hb4⟩
            have HB4 := Aside0.mk (HB3.out.trans hb4)
            clear hb4
            go_wp2_with fail
            go_ret
            exact ⟨HB4.out, .inl ⟨rfl, HCF.out⟩⟩
          | true =>
            have HQ3 : Aside0 (q3 = ks3.drop (p1 + 1)) := ⟨(HIN.out.2 rfl).1⟩
            have HI3' := Aside0.mk (HIN.out.2 rfl).2
            clear HIN
            go_wp2_with fail
            refine HLK.out.mono ?_
            rintro e w4 ⟨rfl, hh4, hb4⟩
            have HB4 := Aside0.mk (HB3.out.trans hb4)
            have HH4 := Aside0.mk hh4
            clear hb4 hh4
            go_wp2_with fail
            go_roundw
            case rel =>
              refine ⟨j + 1, by go_num, by omega, _, rfl, ⟨ks3, fun x hx => HS.out x (HK2.out x hx), HB4.out, HI3'.out.fewer (fun i' d hd h => .inl (HD.out i' h)), ?_⟩⟩
              have := HH4.out
              rw [HQ3.out] at this
              exact this
            case measure => simp [intOf]; omega
        · have HI4 : Aside0 (Inv l known (fun _ => False) ks2 (p1 + 1)) := ⟨HI3.out.fewer (fun i c hc h => by rw [List.drop_eq_nil_of_le (by omega)] at h; cases h)⟩
          go_wp2_with fail
          exact ⟨_, (by have := HP.out; omega), p1 + 1, rfl, ⟨_, _, _, _, _, _, _, _, _, _, _, _, _, _, _, _, _, _, _, _, _, _, _, _, _, _, _, _, _, _, _, _, _, _, _, _, rfl⟩, ks2, HK2.out, HB3.out, HI4.out, HH3.out⟩
end
end Go.Proofs.Ytdlfmobnmcamaaa.Q
namespace Go.Proofs.Ytdlfmobnmcamaaa.Q
open Go.RowKit Go.Conc Go.MapKept Go.ChangeMaps Go.Proofs.YtdlfmobnmcamaaaW.PrintWords Go.Proofs.YtdlfmobnmcamaaaW.PrintLast Go.Proofs.YtdlfmobnmcamaaaW.PrintMore
set_option linter.unusedVariables false
set_option linter.unusedSimpArgs false

abbrev Gr := Int × Value × List Int
/-- Two groups: two keys, two rows. -/
def Apart (g h : Gr) : Prop := g.1 ≠ h.1 ∧ (g.2.1.ownBlock = none ∨ g.2.1.ownBlock ≠ h.2.1.ownBlock)
theorem Apart.symm {g h : Gr} (k : Apart g h) : Apart h g := ⟨fun e => k.1 e.symm, by
  rcases k.2 with a | a
  · cases e : h.2.1.ownBlock with
    | none => exact .inl rfl
    | some b => exact .inr (by rw [a]; simp)
  · exact .inr (fun e => a e.symm)⟩
/-- The map in memory. -/
def Ments (w : World) (m : Nat) (gs : List Gr) : Prop := ∃ es clock, w.heap[m]? = some (.map es clock) ∧ es.toList.map (fun e => (e.key, e.val)) = gs.map fun g => (Value.int .i64 g.1, g.2.1)
structure Groups (w : World) (m base : Nat) (gs : List Gr) : Prop where
  ents : Ments w m gs
  own : ∀ g ∈ gs, w.ownsRow base 3 1 g.2.1 g.2.2.length (nums .i64 g.2.2)
  far : ∀ (i j : Nat) (g h : Gr), gs[i]? = some g → gs[j]? = some h → i ≠ j → Apart g h
  low : m < base
/-- What stands at a key. -/
def GAt (gs : List Gr) (y : Int) (v : Value) (zs : List Int) : Prop := (∃ i : Nat, gs[i]? = some (y, v, zs)) ∨ ((∀ g ∈ gs, g.1 ≠ y) ∧ v = .slice none 0 0 ∧ zs = [])
theorem Groups.unique {w : World} {m base : Nat} {gs : List Gr} (h : Groups w m base gs) {y : Int} {v v' : Value} {zs zs' : List Int} (a : GAt gs y v zs) (b : GAt gs y v' zs') : v = v' ∧ zs = zs' := by
  rcases a with ⟨i, hi⟩ | ⟨h1, rfl, rfl⟩
  · rcases b with ⟨j, hj⟩ | ⟨h2, _, _⟩
    · by_cases e : i = j
      · subst e
        rw [hi] at hj
        cases hj
        exact ⟨rfl, rfl⟩
      · exact absurd rfl (h.far i j _ _ hi hj e).1
    · exact absurd rfl (h2 _ (List.mem_of_getElem? hi))
  · rcases b with ⟨j, hj⟩ | ⟨_, rfl, rfl⟩
    · exact absurd rfl (h1 _ (List.mem_of_getElem? hj))
    · exact ⟨rfl, rfl⟩
theorem find_group (y : Int) : ∀ (gs : List Gr) (es : List MapEntry) (k : Nat), es.map (fun e => (e.key, e.val)) = gs.map (fun g => (Value.int .i64 g.1, g.2.1)) →
    (Instr.findNow (.int .i64) (.int .i64 y) es k = some none ∧ ∀ g ∈ gs, g.1 ≠ y) ∨ ∃ i v zs, gs[i]? = some (y, v, zs) ∧ Instr.findNow (.int .i64) (.int .i64 y) es k = some (some (k + i, v))
  | [], [], k, _ => .inl ⟨rfl, by simp⟩
  | [], _ :: _, _, h => by simp at h
  | _ :: _, [], _, h => by simp at h
  | (x, v, zs) :: gs, e :: es, k, h => by
    simp only [List.map_cons, List.cons.injEq, Prod.mk.injEq] at h
    obtain ⟨⟨h1, h2⟩, h3⟩ := h
    by_cases c : y = x
    · subst c
      exact .inr ⟨0, v, zs, rfl, by simp [Instr.findNow, Instr.sameNow, h1, h2]⟩
    · have cb : (y == x) = false := by simpa using c
      rcases find_group y gs es (k + 1) h3 with ⟨h4, h5⟩ | ⟨i, v', zs', h4, h5⟩
      · refine .inl ⟨by simp [Instr.findNow, Instr.sameNow, h1, cb, h4], fun g hg => ?_⟩
        rcases List.mem_cons.1 hg with rfl | hg
        · exact fun e => c e.symm
        · exact h5 g hg
      · exact .inr ⟨i + 1, v', zs', by simpa using h4, by simp only [Instr.findNow, Instr.sameNow, h1, cb, h5, if_true]; congr 3; omega⟩
section
variable {w : World} {m base : Nat} {gs : List Gr}
theorem run_group (h : Ments w m gs) (y : Int) : ∃ v zs, GAt gs y v zs ∧ ∀ w', w'.heap[m]? = w.heap[m]? → (Instr.lookup 60 (.map (some m)) (.int .i64 y) false).run Try.prog w' = .ok v w' := by
  obtain ⟨es, clock, hb, he⟩ := h
  have hf := find_group y gs es.toList 0 he
  have key : ∀ r, Instr.findNow (.int .i64) (.int .i64 y) es.toList 0 = some r → ∀ w' : World, w'.heap[m]? = some (.map es clock) → (Instr.lookup 60 (.map (some m)) (.int .i64 y) false).run Try.prog w' = .ok (match r with | some (_, v) => v | none => .slice none 0 0) w' := by
    intro r h1 w' hb'
    have hk := run_findKey (P := Try.prog) (w := w') (kt := 3) (k := .int .i64 y) (l := es.toList) Try.underlying3 h1
    have hc : ∀ e, (Instr.checkKey e 10000 3 (.int .i64 y)).run Try.prog w' = .ok () w' := fun e => run_checkKey (P := Try.prog) (w := w') (kt := 3) (k := .int .i64 y) Try.underlying3 rfl e 9999
    unfold Instr.lookup
    simp only [Sem.run_bind, run_underlying Try.underlying60, Result.andThen, Go.MapKept.run_getObj_map (P := Try.prog) hb', Sem.run_pure, hc, hk]
    cases r with
    | none => simp [Result.andThen, Try.zeroValue23]
    | some p => simp
  rcases hf with ⟨h1, h2⟩ | ⟨i, v, zs, h1, h2⟩
  · exact ⟨.slice none 0 0, [], .inr ⟨h2, rfl, rfl⟩, fun w' hw => key none h1 w' (hw.trans hb)⟩
  · exact ⟨v, zs, .inl ⟨i, h1⟩, fun w' hw => key _ h2 w' (hw.trans hb)⟩
theorem run_put (h : Ments w m gs) (y : Int) (v' : Value) (zs' : List Int) : ∃ w' gs', (Instr.mapUpdate 60 (.map (some m)) (.int .i64 y) v').run Try.prog w = .ok () w' ∧ Ments w' m gs' ∧ w.grownBy w' (some m) ∧ w'.heap.size = w.heap.size ∧
    ((∃ i v zs, gs[i]? = some (y, v, zs) ∧ gs' = gs.set i (y, v', zs')) ∨ ((∀ g ∈ gs, g.1 ≠ y) ∧ gs' = gs ++ [(y, v', zs')])) := by
  obtain ⟨es, clock, hb, he⟩ := h
  have hf := find_group y gs es.toList 0 he
  have hgr : ∀ o, w.grownBy (setBlock w m o) (some m) ∧ (setBlock w m o).heap.size = w.heap.size := fun o => ⟨⟨rfl, rfl, rfl, by simp [setBlock], fun i _ hi => (heap_set hb).2 i (fun e => hi (by rw [e]))⟩, by simp [setBlock]⟩
  have hc : ∀ e, (Instr.checkKey e 10000 3 (.int .i64 y)).run Try.prog w = .ok () w := fun e => run_checkKey (P := Try.prog) (w := w) (kt := 3) (k := .int .i64 y) Try.underlying3 rfl e 9999
  rcases hf with ⟨h1, h2⟩ | ⟨i, v, zs, h1, h2⟩
  · have hk := run_findKey (P := Try.prog) (w := w) (kt := 3) (k := .int .i64 y) (l := es.toList) Try.underlying3 h1
    refine ⟨setBlock w m (.map (es.push { key := .int .i64 y, val := v', born := clock }) (clock + 1)), gs ++ [(y, v', zs')], ?_, ⟨_, _, (heap_set hb).1, by simp [he]⟩, (hgr _).1, (hgr _).2, .inr ⟨h2, rfl⟩⟩
    unfold Instr.mapUpdate
    simp only [Sem.run_bind, run_underlying Try.underlying60, Result.andThen, Go.MapKept.run_getObj_map (P := Try.prog) hb, Sem.run_pure, hc, hk, Go.MapKept.run_setObj_map (P := Try.prog) _ hb]
    rfl
  · have hk := run_findKey (P := Try.prog) (w := w) (kt := 3) (k := .int .i64 y) (l := es.toList) Try.underlying3 h2
    rw [Nat.zero_add] at hk
    have hget := congrArg (fun l => l[i]?) he
    simp only [List.getElem?_map, h1, Option.map_some] at hget
    obtain ⟨e, hes, hee⟩ := Option.map_eq_some_iff.1 hget
    simp only [Prod.mk.injEq] at hee
    rw [Array.getElem?_toList] at hes
    refine ⟨setBlock w m (.map (es.modify i fun e => { e with key := .int .i64 y, val := v' }) clock), gs.set i (y, v', zs'), ?_, ⟨_, _, (heap_set hb).1, ?_⟩, (hgr _).1, (hgr _).2, .inl ⟨i, v, zs, h1, rfl⟩⟩
    · unfold Instr.mapUpdate
      simp only [Sem.run_bind, run_underlying Try.underlying60, Result.andThen, Go.MapKept.run_getObj_map (P := Try.prog) hb, Sem.run_pure, hc, hk, Instr.keyThatStays, hes, Option.map_some, Option.getD_some, hee.1, Instr.sameBits, Go.MapKept.run_setObj_map (P := Try.prog) _ hb]
      simp [Go.MapKept.run_setObj_map (P := Try.prog) _ hb, setBlock]
    · apply List.ext_getElem?
      intro j
      have hj := congrArg (fun l => l[j]?) he
      simp only [List.getElem?_map] at hj
      by_cases c : i = j
      · subst c
        have hi : i < gs.length := (List.getElem?_eq_some_iff.1 h1).1
        simp [Array.getElem?_modify, hes, hi]
      · simp only [List.getElem?_map, Array.getElem?_toList, Array.getElem?_modify, c, if_false, List.getElem?_set_ne c]
        rw [Array.getElem?_toList] at hj
        exact hj
/-- A round of the group by: what was appended to the row at a key is laid at that key. -/
theorem Groups.round (h : Groups w m base gs) {y x : Int} {v : Value} {zs : List Int} (e : GAt gs y v zs) {w3 : World} {v' : Value} (hg : w.grownBy w3 v.ownBlock) (ho : w3.ownsRow base 3 1 v' (zs ++ [x]).length (nums .i64 (zs ++ [x])))
    (hloc : v'.ownBlock = v.ownBlock ∨ ∃ b, v'.ownBlock = some b ∧ w.heap.size ≤ b) (hnil : v'.ownBlock ≠ none) :
    ∃ w4 gs', (Instr.mapUpdate 60 (.map (some m)) (.int .i64 y) v').run Try.prog w3 = .ok () w4 ∧ Groups w4 m base gs' ∧ w3.grownBy w4 (some m) ∧ w4.heap.size = w3.heap.size ∧ GAt gs' y v' (zs ++ [x]) ∧ ∀ z u us, z ≠ y → GAt gs z u us → GAt gs' z u us := by
  have hlow : ∀ g ∈ gs, ∀ b, g.2.1.ownBlock = some b → base ≤ b ∧ b < w.heap.size := fun g hg b hb => ⟨own_base (h.own g hg) b hb, own_lt (h.own g hg) b hb⟩
  have hvm : some m ≠ v.ownBlock := by
    rcases e with ⟨i, hi⟩ | ⟨_, rfl, _⟩
    · intro e
      have := (hlow _ (List.mem_of_getElem? hi) m e.symm).1
      have := h.low
      omega
    · simp [Value.ownBlock]
  have hm3 : Ments w3 m gs := by
    obtain ⟨es, clock, hb, he⟩ := h.ents
    exact ⟨es, clock, blk_grown hb hg hvm, he⟩
  obtain ⟨w4, gs', hrun, hm4, hg4, hsz, hgs⟩ := run_put hm3 y v' (zs ++ [x])
  -- a group of another key: its row stands, and is not the new one
  have hother : ∀ g ∈ gs, g.1 ≠ y → (g.2.1.ownBlock = none ∨ g.2.1.ownBlock ≠ v.ownBlock) ∧ (g.2.1.ownBlock = none ∨ g.2.1.ownBlock ≠ v'.ownBlock) := by
    intro g hgm hne
    have h1 : g.2.1.ownBlock = none ∨ g.2.1.ownBlock ≠ v.ownBlock := by
      rcases e with ⟨i, hi⟩ | ⟨_, rfl, _⟩
      · obtain ⟨j, hj⟩ := List.getElem?_of_mem hgm
        by_cases c : j = i
        · subst c
          rw [hi] at hj
          cases hj
          exact absurd rfl hne
        · exact (h.far j i _ _ hj hi c).2
      · cases hb : g.2.1.ownBlock with
        | none => exact .inl rfl
        | some b => exact .inr (by simp [Value.ownBlock])
    refine ⟨h1, ?_⟩
    rcases hloc with hl | ⟨b, hl, hb⟩
    · rw [hl]; exact h1
    · cases hc : g.2.1.ownBlock with
      | none => exact .inl rfl
      | some b' => exact .inr (by rw [hl]; intro e'; cases e'; have := (hlow g hgm b hc).2; omega)
  have hv'm : v'.ownBlock = none ∨ v'.ownBlock ≠ some m := by
    cases hc : v'.ownBlock with
    | none => exact .inl rfl
    | some b => exact .inr (fun e' => by cases e'; have := own_base ho m hc; have := h.low; omega)
  have hown' : w4.ownsRow base 3 1 v' (zs ++ [x]).length (nums .i64 (zs ++ [x])) := own_other ho hg4 hv'm
  have hkeep : ∀ g ∈ gs, g.1 ≠ y → w4.ownsRow base 3 1 g.2.1 g.2.2.length (nums .i64 g.2.2) := fun g hgm hne => by
    refine own_other (own_other (h.own g hgm) hg (hother g hgm hne).1) hg4 ?_
    cases hc : g.2.1.ownBlock with
    | none => exact .inl rfl
    | some b => exact .inr (fun e' => by cases e'; have := (hlow g hgm m hc).1; have := h.low; omega)
  rcases hgs with ⟨i, v0, zs0, hi, rfl⟩ | ⟨hno, rfl⟩
  · have hil : i < gs.length := (List.getElem?_eq_some_iff.1 hi).1
    have hidx : ∀ j g, gs[j]? = some g → j ≠ i → g.1 ≠ y := fun j g hj hne e' => absurd e' (h.far j i _ _ hj hi hne).1
    refine ⟨w4, _, hrun, ⟨hm4, ?_, ?_, h.low⟩, hg4, hsz, .inl ⟨i, by simp [hil]⟩, ?_⟩
    · intro g hgm
      obtain ⟨j, hj⟩ := List.getElem?_of_mem hgm
      by_cases c : j = i
      · subst c
        simp [hil] at hj
        subst hj
        exact hown'
      · rw [List.getElem?_set_ne (fun e' => c e'.symm)] at hj
        exact hkeep g (List.mem_of_getElem? hj) (hidx j g hj c)
    · intro j k g k' hj hk hne
      by_cases c : j = i
      · subst c
        simp [hil] at hj
        subst hj
        rw [List.getElem?_set_ne hne] at hk
        have hy := hidx k k' hk (fun e' => hne e'.symm)
        exact Apart.symm ⟨hy, (hother k' (List.mem_of_getElem? hk) hy).2⟩
      · rw [List.getElem?_set_ne (fun e' => c e'.symm)] at hj
        by_cases d : k = i
        · subst d
          simp [hil] at hk
          subst hk
          have hy := hidx j g hj c
          exact ⟨hy, (hother g (List.mem_of_getElem? hj) hy).2⟩
        · rw [List.getElem?_set_ne (fun e' => d e'.symm)] at hk
          exact h.far j k g k' hj hk hne
    · rintro z u us hz (⟨j, hj⟩ | ⟨hn, rfl, rfl⟩)
      · have c : j ≠ i := fun c => by subst c; rw [hi] at hj; cases hj; exact hz rfl
        exact .inl ⟨j, by rw [List.getElem?_set_ne (fun e' => c e'.symm)]; exact hj⟩
      · refine .inr ⟨fun g hgm => ?_, rfl, rfl⟩
        obtain ⟨j, hj⟩ := List.getElem?_of_mem hgm
        by_cases c : j = i
        · subst c
          simp [hil] at hj
          subst hj
          exact fun e' => hz e'.symm
        · rw [List.getElem?_set_ne (fun e' => c e'.symm)] at hj
          exact hn g (List.mem_of_getElem? hj)
  · refine ⟨w4, _, hrun, ⟨hm4, ?_, ?_, h.low⟩, hg4, hsz, .inl ⟨gs.length, by simp⟩, ?_⟩
    · intro g hgm
      rcases List.mem_append.1 hgm with hgm | hgm
      · exact hkeep g hgm (hno g hgm)
      · simp at hgm
        subst hgm
        exact hown'
    · intro j k g k' hj hk hne
      rcases Nat.lt_or_ge j gs.length with a | a
      · rw [List.getElem?_append_left a] at hj
        have hjy := hno g (List.mem_of_getElem? hj)
        rcases Nat.lt_or_ge k gs.length with b | b
        · rw [List.getElem?_append_left b] at hk
          exact h.far j k g k' hj hk hne
        · rw [List.getElem?_append_right b] at hk
          obtain rfl : k' = (y, v', zs ++ [x]) := by have := List.mem_of_getElem? hk; simpa using this
          exact ⟨hjy, (hother g (List.mem_of_getElem? hj) hjy).2⟩
      · rw [List.getElem?_append_right a] at hj
        obtain rfl : g = (y, v', zs ++ [x]) := by have := List.mem_of_getElem? hj; simpa using this
        rcases Nat.lt_or_ge k gs.length with b | b
        · rw [List.getElem?_append_left b] at hk
          have hky := hno k' (List.mem_of_getElem? hk)
          exact Apart.symm ⟨hky, (hother k' (List.mem_of_getElem? hk) hky).2⟩
        · have h1 : j - gs.length < 1 := by have := (List.getElem?_eq_some_iff.1 hj).1; simpa using this
          rw [List.getElem?_append_right b] at hk
          have h2 : k - gs.length < 1 := by have := (List.getElem?_eq_some_iff.1 hk).1; simpa using this
          omega
    · rintro z u us hz (⟨j, hj⟩ | ⟨hn, rfl, rfl⟩)
      · exact .inl ⟨j, by rw [List.getElem?_append_left (List.getElem?_eq_some_iff.1 hj).1]; exact hj⟩
      · refine .inr ⟨fun g hgm => ?_, rfl, rfl⟩
        rcases List.mem_append.1 hgm with hgm | hgm
        · exact hn g hgm
        · simp at hgm
          subst hgm
          exact fun e' => hz e'.symm
end
end Go.Proofs.Ytdlfmobnmcamaaa.Q
namespace Go.Proofs.Ytdlfmobnmcamaaa.Q
open Go.RowKit Go.Proofs.YtdlfmobnmcamaaaW.PrintWords Go.Proofs.YtdlfmobnmcamaaaW.PrintLast Go.Proofs.YtdlfmobnmcamaaaW.PrintMore
set_option linter.unusedVariables false
def litOk (vars x : Int) : Bool := decide (pvar x ≠ 0) && decide (pvar x ≤ vars)
/-- May clauses be so? -/
def rightOf (l : List (List Int)) (vars : Int) : Bool := decide (0 ≤ vars) && decide (vars ≤ 1048576) && l.all fun c => c.all (litOk vars)
theorem right_l1 (vars : Int) (l : List (List Int)) (n i : Int) (c : List Int) (r0 : Bool) (hc : c.length ≤ 9223372036854775807) (h0 : ∃ k, prop_Right.l0 k vars l n (wrap64 (i + 1)) = some r0) :
    ∀ (d j : Nat), c.length - j = d → j ≤ c.length → ∃ k, prop_Right.l1 k vars l n i c (c.length : Int) (j : Int) = some ((c.drop j).all (litOk vars) && r0)
  | 0, j, hd, hj => by
    obtain ⟨k, hk⟩ := h0
    refine ⟨k + 1, ?_⟩
    rw [prop_Right.l1, if_neg (by omega), hk, List.drop_eq_nil_of_le (by omega)]
    simp
  | d + 1, j, hd, hj => by
    have h : j < c.length := by omega
    have hr : YtdlfmobnmcamaaaW.PrintWords.rd c (j : Int) = c[j] := by simp [YtdlfmobnmcamaaaW.PrintWords.rd, List.getD_eq_getElem?_getD, h]
    have hw : wrap64 ((j : Int) + 1) = ((j + 1 : Nat) : Int) := by unfold wrap64; omega
    obtain ⟨k, hk⟩ := right_l1 vars l n i c r0 hc h0 d (j + 1) (by omega) (by omega)
    refine ⟨k + 1, ?_⟩
    rw [prop_Right.l1, if_pos (by omega), if_pos (by omega), if_pos (by omega), prop_variable.f, Option.bind_some, List.drop_eq_getElem_cons h, List.all_cons, hr]
    show (if pvar c[j] = 0 then _ else if pvar c[j] > vars then _ else _) = _
    by_cases e1 : pvar c[j] = 0
    · rw [if_pos e1]; simp [litOk, e1]
    · rw [if_neg e1]
      by_cases e2 : pvar c[j] > vars
      · rw [if_pos e2]; simp [litOk, e1, show ¬ pvar c[j] ≤ vars by omega]
      · rw [if_neg e2, hw, hk]; simp [litOk, e1, show pvar c[j] ≤ vars by omega]
theorem right_l0 (vars : Int) (l : List (List Int)) (hl : l.length ≤ 9223372036854775807) (hc : ∀ c ∈ l, c.length ≤ 9223372036854775807) :
    ∀ (d i : Nat), l.length - i = d → i ≤ l.length → ∃ k, prop_Right.l0 k vars l (l.length : Int) (i : Int) = some ((l.drop i).all fun c => c.all (litOk vars))
  | 0, i, hd, hi => by
    refine ⟨1, ?_⟩
    rw [prop_Right.l0, if_neg (by omega), List.drop_eq_nil_of_le (by omega)]
    rfl
  | d + 1, i, hd, hi => by
    have h : i < l.length := by omega
    have hr : rd_L1 l (i : Int) = l[i] := by simp [rd_L1, List.getD_eq_getElem?_getD, h]
    have hw : wrap64 ((i : Int) + 1) = ((i + 1 : Nat) : Int) := by unfold wrap64; omega
    have h0 := right_l0 vars l hl hc d (i + 1) (by omega) (by omega)
    rw [← hw] at h0
    obtain ⟨k, hk⟩ := right_l1 vars l (l.length : Int) (i : Int) l[i] _ (hc _ (List.getElem_mem h)) h0 _ 0 rfl (Nat.zero_le _)
    refine ⟨k + 1, ?_⟩
    rw [prop_Right.l0, if_pos (by omega), if_pos (by omega), if_pos (by omega), hr]
    rw [show ((0 : Nat) : Int) = 0 from rfl, List.drop_zero] at hk
    rw [hk, List.drop_eq_getElem_cons h, List.all_cons]
theorem right_ev (l : List (List Int)) (vars : Int) (hl : l.length ≤ 9223372036854775807) (hc : ∀ c ∈ l, c.length ≤ 9223372036854775807) : ∃ k, prop_Right.f k l vars = some (rightOf l vars) := by
  obtain ⟨k, hk⟩ := right_l0 vars l hl hc _ 0 rfl (Nat.zero_le _)
  rw [show ((0 : Nat) : Int) = 0 from rfl, List.drop_zero] at hk
  refine ⟨k + 1, ?_⟩
  unfold prop_Right.f rightOf
  by_cases e1 : vars < 0
  · rw [if_pos e1, prop_Right.j0, if_pos rfl]; simp [show ¬ 0 ≤ vars by omega]
  · rw [if_neg e1, prop_Right.j0]
    by_cases e2 : vars > 1048576
    · rw [if_pos (by simpa using e2)]; simp [show ¬ vars ≤ 1048576 by omega]
    · rw [if_neg (by simpa using e2), hk]; simp [show 0 ≤ vars by omega, show vars ≤ 1048576 by omega]
theorem right_calls (A0 : Option Addr) (c0 : Nat) (l0 : List (List Int)) (a1 : Int) (w : World) (hr0 : Kd.C (Kd.slice 3 (Kd.int .i64)) w A0 l0.length l0) (hc0 : l0.length ≤ c0) (hc : ∀ c ∈ l0, c.length ≤ 9223372036854775807) :
    Calls Try.prog 29 #[.slice A0 l0.length c0, .int .i64 a1] w fun e w' => e = .returned (.bool (rightOf l0 a1)) ∧ Below w.heap.size w w' := by
  obtain ⟨k, hk⟩ := right_ev l0 a1 hr0.2.1 hc
  exact prop_Right.calls k A0 c0 l0 a1 _ w hr0 hc0 hk
end Go.Proofs.Ytdlfmobnmcamaaa.Q
namespace Go.Proofs.Ytdlfmobnmcamaaa.Q
open Go.RowKit Go.Conc Go.MapKept Go.ChangeMaps Go.Proofs.YtdlfmobnmcamaaaW.PrintWords Go.Proofs.YtdlfmobnmcamaaaW.PrintLast Go.Proofs.YtdlfmobnmcamaaaW.PrintMore
set_option linter.unusedVariables false
set_option linter.unusedSimpArgs false
theorem tents_mem (ks : List Int) (e : MapEntry) : e ∈ (tents ks).toList ↔ ∃ (j : Nat) (h : j < ks.length), e = { key := .int .i64 ks[j], val := .bool true, born := j } := by
  simp only [tents, tentsFrom, List.mem_map]
  constructor
  · rintro ⟨⟨x, j⟩, hp, rfl⟩
    obtain ⟨_, h1, h2⟩ := List.mem_zipIdx hp
    simp at h1
    refine ⟨j, h1, ?_⟩
    simp at h2
    rw [h2]
  · rintro ⟨j, h, rfl⟩
    exact ⟨(ks[j], j), List.mk_mem_zipIdx_iff_getElem?.2 (by simp [h]), rfl⟩
theorem tents_born (ks : List Int) : ((tents ks).toList.map (·.born)) = List.range ks.length := by
  have e : (tents ks).toList.map (·.born) = (ks.zipIdx 0).map Prod.snd := by simp [tents, tentsFrom, List.map_map, Function.comp_def]
  rw [e, List.zipIdx_map_snd, List.range_eq_range']
/-- A step of the range: nothing is left, or one that has not come. -/
theorem run_next_tents {w : World} {r m : Nat} {ks : List Int} {js : List Nat} (hr : w.heap[r]? = some (.mapIter (some m) ks.length js.toArray ks.length)) (hb : w.heap[m]? = some (.map (tents ks) ks.length)) :
    ((∀ j, j < ks.length → j ∈ js) ∧ ∀ ty, (Instr.next (.pointer (some ⟨r, 0, none⟩)) false ty).run Try.prog w = .ok (.tuple #[.bool false]) w) ∨
    ∃ (j : Nat) (h : j < ks.length) (w1 : World), j ∉ js ∧ (w1 = w ∨ w1 = w.drew) ∧ ∀ ty, (Instr.next (.pointer (some ⟨r, 0, none⟩)) false ty).run Try.prog w = .ok (.tuple #[.bool true, .int .i64 ks[j], .bool true]) (setBlock w1 r (.mapIter (some m) ks.length (js ++ [j]).toArray ks.length)) := by
  have hold : ∀ x ∈ (tents ks).toList, x.born < ks.length := fun x hx => by
    obtain ⟨j, h, rfl⟩ := (tents_mem ks x).1 hx
    exact h
  have hleft : ∀ e : MapEntry, e ∈ (leftOf (tents ks) js.toArray).toList ↔ e ∈ (tents ks).toList ∧ e.born ∉ js := fun e => by
    simp [leftOf]
  rcases run_next_at (P := Try.prog) w 0 r m ks.length ks.length js.toArray (tents ks) ks.length hr hb hold (Nat.le_refl _) with ⟨h0, hrun⟩ | ⟨e, he, w1, hw, hrun⟩
  · refine .inl ⟨fun j hj => ?_, fun ty => hrun⟩
    by_cases c : j ∈ js
    · exact c
    · have : (leftOf (tents ks) js.toArray).toList = [] := by
        have := Array.eq_empty_of_size_eq_zero h0
        rw [this]
      have hm := (hleft _).2 ⟨(tents_mem ks _).2 ⟨j, hj, rfl⟩, c⟩
      rw [this] at hm
      cases hm
  · obtain ⟨h1, h2⟩ := (hleft e).1 he
    obtain ⟨j, h, rfl⟩ := (tents_mem ks e).1 h1
    exact .inr ⟨j, h, w1, h2, hw, fun ty => by
      have h3 := hrun
      simp only [List.push_toArray] at h3
      exact h3⟩
theorem run_entry_tents {w : World} {r m : Nat} {ks : List Int} {js : List Nat} {j : Nat} (h : j < ks.length) (hr : w.heap[r]? = some (.mapIter (some m) ks.length (js ++ [j]).toArray ks.length)) (hb : w.heap[m]? = some (.map (tents ks) ks.length)) :
    (Instr.entry (.pointer (some ⟨r, 0, none⟩))).run Try.prog w = .ok (.tuple #[.int .i64 ks[j], .bool true]) w :=
  run_entry_at w r m ks.length js.toArray (tents ks) ks.length { key := .int .i64 ks[j], val := .bool true, born := j } (by simpa using hr) hb ((tents_mem ks _).2 ⟨j, h, rfl⟩) (by rw [tents_born]; exact List.nodup_range)
end Go.Proofs.Ytdlfmobnmcamaaa.Q
namespace Go.Proofs.Ytdlfmobnmcamaaa.Q
open Go.RowKit Go.Sort Go.Proofs.YtdlfmobnmcamaaaW.PrintWords Go.Proofs.YtdlfmobnmcamaaaW.PrintLast Go.Proofs.YtdlfmobnmcamaaaW.PrintMore
set_option linter.unusedVariables false
/-- The order plays no part. -/
theorem litSort_perm {a b : List Int} (h : a.Perm b) : litSort a = litSort b := by
  have tr : ∀ x y z : Int, (!(ltOf litCmp) y x) = true → (!(ltOf litCmp) z y) = true → (!(ltOf litCmp) z x) = true := by
    intro x y z h1 h2
    simp only [Bool.not_eq_true'] at *
    exact litCmp_swo.ntrans _ _ _ h2 h1
  have tot : ∀ x y : Int, ((!(ltOf litCmp) y x) || (!(ltOf litCmp) x y)) = true := by
    intro x y
    cases h1 : (ltOf litCmp) y x with
    | false => simp
    | true =>
      cases h2 : (ltOf litCmp) x y with
      | false => simp
      | true => have := litCmp_swo.trans _ _ _ h1 h2; rw [litCmp_swo.irrefl] at this; cases this
  refine List.Perm.eq_of_pairwise (le := fun x y => (!(ltOf litCmp) y x) = true) ?_ (List.pairwise_mergeSort tr tot a) (List.pairwise_mergeSort tr tot b) ((List.mergeSort_perm a _).trans (h.trans (List.mergeSort_perm b _).symm))
  intro x y _ _ h1 h2
  simp only [Bool.not_eq_true'] at h1 h2
  exact litCmp_total x y h2 h1
theorem normOf_perm {a b : List Int} (h : a.Perm b) : normOf a = normOf b := by unfold normOf; rw [litSort_perm h]
theorem nodup_perm {a b : List Int} (ha : a.Nodup) (hb : b.Nodup) (h : ∀ x, x ∈ a ↔ x ∈ b) : a.Perm b := (List.perm_ext_iff_of_nodup ha hb).2 h
/-- What follows, as a row. -/
def Row (l : List (List Int)) (known ks : List Int) : Prop := ks.Nodup ∧ ∀ x, Der l known x ↔ x ∈ ks
open Classical in
noncomputable def unitOf (l : List (List Int)) (vars : Int) (known : List Int) : List Int × Bool :=
  if rightOf l vars = true ∧ rightOf [known] vars = true then (if h : ¬ Conf l known ∧ ∃ ks, Row l known ks then normOf (Classical.choose h.2) else ([], false)) else ([], false)
theorem unitOf_wrong {l : List (List Int)} {vars : Int} {known : List Int} (h : ¬ (rightOf l vars = true ∧ rightOf [known] vars = true)) : unitOf l vars known = ([], false) := by
  unfold unitOf; rw [if_neg h]
theorem unitOf_conf {l : List (List Int)} {vars : Int} {known : List Int} (h : Conf l known) : unitOf l vars known = ([], false) := by
  unfold unitOf; split
  · rw [dif_neg (fun k => k.1 h)]
  · rfl
theorem unitOf_row {l : List (List Int)} {vars : Int} {known ks : List Int} (h1 : rightOf l vars = true) (h2 : rightOf [known] vars = true) (hn : ¬ Conf l known) (hk : Row l known ks) : unitOf l vars known = normOf ks := by
  unfold unitOf
  have hh : ¬ Conf l known ∧ ∃ ks, Row l known ks := ⟨hn, ks, hk⟩
  rw [if_pos ⟨h1, h2⟩, dif_pos hh]
  have hc := Classical.choose_spec hh.2
  exact normOf_perm (nodup_perm hc.1 hk.1 fun x => (hc.2 x).symm.trans (hk.2 x))
/-- Literals that may be so are of use. -/
def Wf (x : Int) : Prop := -9223372036854775808 ≤ x ∧ x ≤ 9223372036854775807
theorem lt_of_ok {vars x : Int} (hw : Wf x) (hv : vars ≤ 1048576) (h : litOk vars x = true) : Lt x := by
  simp only [litOk, Bool.and_eq_true, decide_eq_true_eq] at h
  obtain ⟨h1, h2⟩ := h
  unfold Wf at hw
  unfold Lt
  unfold pvar mx at h1 h2
  have e : wrap64 (-x) = -x ∨ x = -9223372036854775808 ∧ wrap64 (-x) = x := by unfold wrap64; omega
  rcases e with e | ⟨e, e2⟩
  · rw [e] at h1 h2
    split at h1 <;> split at h1 <;> (repeat' split at h2) <;> omega
  · rw [e2] at h1
    exfalso
    apply h1
    simp [show x < 0 by omega]
theorem lits_ok {l : List (List Int)} {vars : Int} (hw : ∀ c ∈ l, ∀ y ∈ c, Wf y) (h : rightOf l vars = true) : ∀ c ∈ l, ∀ y ∈ c, Lt y := by
  simp only [rightOf, Bool.and_eq_true, decide_eq_true_eq, List.all_eq_true] at h
  exact fun c hc y hy => lt_of_ok (hw c hc y hy) h.1.2 (h.2 c hc y hy)
/-- The bounds within which the contract speaks. -/
def Small (l : List (List Int)) (known : List Int) : Prop := l.flatten.length + known.length + 1 < 17592186044416 ∧ (∀ c ∈ l, ∀ y ∈ c, Wf y) ∧ ∀ y ∈ known, Wf y
instance (x : Int) : Decidable (Wf x) := by unfold Wf; infer_instance
instance (l : List (List Int)) (known : List Int) : Decidable (Small l known) := by unfold Small; infer_instance
noncomputable def prop_Unit.f (l : List (List Int)) (vars : Int) (known : List Int) : Option (List Int × Bool) := if Small l known then some (unitOf l vars known) else none
end Go.Proofs.Ytdlfmobnmcamaaa.Q
namespace Go.Proofs.Ytdlfmobnmcamaaa.Q
open Go.RowKit Go.Conc Go.MapKept Go.ChangeMaps Go.Proofs.YtdlfmobnmcamaaaW.PrintWords Go.Proofs.YtdlfmobnmcamaaaW.PrintLast Go.Proofs.YtdlfmobnmcamaaaW.PrintMore
set_option linter.unusedVariables false
set_option linter.unusedSimpArgs false
/-- The world in which the state has been made. -/
def madeW (w : World) (lv : Value) (cp : Nat) : World :=
  (((w.alloc (.map #[] 0)).alloc (.map #[] 0)).alloc (.chan cp #[] false 0 0 false)).alloc (.cells #[lv, .map (some w.heap.size), .map (some (w.heap.size + 1)), .chan (some (w.heap.size + 1 + 1))] 64)
theorem alloc_new (w : World) (o : Obj) : (w.alloc o).heap[w.heap.size]? = some o := (Go.MapKept.heap_alloc w o).1
theorem alloc_old (w : World) (o : Obj) (k : Nat) (h : k < w.heap.size) : (w.alloc o).heap[k]? = w.heap[k]? := (Go.MapKept.heap_alloc w o).2 k h
theorem alloc_size (w : World) (o : Obj) : (w.alloc o).heap.size = w.heap.size + 1 := by simp
theorem made_facts (w : World) (lv : Value) (cp : Nat) : Held (madeW w lv cp) (w.heap.size + 1 + 1 + 1) (w.heap.size + 1) (w.heap.size + 1 + 1) cp lv (.map (some w.heap.size)) [] [] ∧ Groups (madeW w lv cp) w.heap.size (w.heap.size + 1 + 1 + 1 + 1) [] ∧ (madeW w lv cp).heap.size = w.heap.size + 1 + 1 + 1 + 1 ∧ ∀ B w0, B ≤ w.heap.size → Below B w0 w → Below B w0 (madeW w lv cp) := by
  have s1 := alloc_size w (.map #[] 0)
  have s2 := alloc_size (w.alloc (.map #[] 0)) (.map #[] 0)
  have s3 := alloc_size ((w.alloc (.map #[] 0)).alloc (.map #[] 0)) (.chan cp #[] false 0 0 false)
  have s4 := alloc_size (((w.alloc (.map #[] 0)).alloc (.map #[] 0)).alloc (.chan cp #[] false 0 0 false)) (.cells #[lv, .map (some w.heap.size), .map (some (w.heap.size + 1)), .chan (some (w.heap.size + 1 + 1))] 64)
  have h4 := alloc_new (((w.alloc (.map #[] 0)).alloc (.map #[] 0)).alloc (.chan cp #[] false 0 0 false)) (.cells #[lv, .map (some w.heap.size), .map (some (w.heap.size + 1)), .chan (some (w.heap.size + 1 + 1))] 64)
  have h3 := alloc_new ((w.alloc (.map #[] 0)).alloc (.map #[] 0)) (.chan cp #[] false 0 0 false)
  have h2 := alloc_new (w.alloc (.map #[] 0)) (.map #[] 0)
  have h1 := alloc_new w (.map #[] 0)
  rw [s3, s2, s1] at h4
  rw [s2, s1] at h3
  rw [s1] at h2
  have o4 := fun k hk => alloc_old (((w.alloc (.map #[] 0)).alloc (.map #[] 0)).alloc (.chan cp #[] false 0 0 false)) (.cells #[lv, .map (some w.heap.size), .map (some (w.heap.size + 1)), .chan (some (w.heap.size + 1 + 1))] 64) k hk
  have o3 := fun k hk => alloc_old ((w.alloc (.map #[] 0)).alloc (.map #[] 0)) (.chan cp #[] false 0 0 false) k hk
  have o2 := fun k hk => alloc_old (w.alloc (.map #[] 0)) (.map #[] 0) k hk
  have b2 : (madeW w lv cp).heap[w.heap.size + 1]? = some (.map #[] 0) := (o4 _ (by omega)).trans ((o3 _ (by omega)).trans h2)
  have b1 : (madeW w lv cp).heap[w.heap.size]? = some (.map #[] 0) := (o4 _ (by omega)).trans ((o3 _ (by omega)).trans ((o2 _ (by omega)).trans h1))
  have b3 : (madeW w lv cp).heap[w.heap.size + 1 + 1]? = some (.chan cp #[] false 0 0 false) := (o4 _ (by omega)).trans h3
  refine ⟨⟨h4, b2, ⟨0, 0, b3⟩, by omega, by omega, by omega⟩, ⟨⟨#[], 0, b1, rfl⟩, by simp, by simp, by omega⟩, by unfold madeW; omega, fun B w0 hB h => ?_⟩
  exact ((((h.alloc hB _).alloc (by rw [s1]; omega) _).alloc (by rw [s2, s1]; omega) _).alloc (by rw [s3, s2, s1]; omega) _)

/-- What the groups hold: of each literal the numbers that have come with it. -/
def zsOf (done : List (Int × Int)) (y : Int) : List Int := (done.filter fun p => p.1 == y).map (·.2)
def Sem (gs : List Gr) (done : List (Int × Int)) : Prop := ∀ y v zs, GAt gs y v zs → zs = zsOf done y
theorem Sem.none : Sem [] [] := fun y v zs h => by
  rcases h with ⟨i, hi⟩ | ⟨_, _, rfl⟩
  · simp at hi
  · rfl
theorem zsOf_push_same (done : List (Int × Int)) (y x : Int) : zsOf (done ++ [(y, x)]) y = zsOf done y ++ [x] := by simp [zsOf]
theorem zsOf_push_other (done : List (Int × Int)) (y x z : Int) (h : z ≠ y) : zsOf (done ++ [(y, x)]) z = zsOf done z := by
  simp [zsOf, show ¬ y = z from fun e => h e.symm]
theorem GAt.total {w : World} {m base : Nat} {gs : List Gr} (h : Groups w m base gs) (y : Int) : ∃ v zs, GAt gs y v zs := by
  obtain ⟨v, zs, h1, _⟩ := run_group h.ents y
  exact ⟨v, zs, h1⟩
theorem Sem.push {w : World} {m base : Nat} {gs gs' : List Gr} {done : List (Int × Int)} {y x : Int} {v v' : Value} {zs : List Int} (hG : Groups w m base gs') (hG0 : Groups w m base gs ∨ ∃ w0, Groups w0 m base gs) (h : Sem gs done) (e : GAt gs y v zs) (h1 : GAt gs' y v' (zs ++ [x])) (h2 : ∀ z u us, z ≠ y → GAt gs z u us → GAt gs' z u us) : Sem gs' (done ++ [(y, x)]) := by
  intro z u us hz
  by_cases c : z = y
  · subst c
    rw [zsOf_push_same, ← h z v zs e]
    exact (hG.unique hz h1).2
  · rw [zsOf_push_other _ _ _ _ c]
    obtain ⟨u0, us0, h0⟩ : ∃ u0 us0, GAt gs z u0 us0 := by
      rcases hG0 with hg | ⟨_, hg⟩
      · exact GAt.total hg z
      · exact GAt.total hg z
    rw [(hG.unique hz (h2 z u0 us0 c h0)).2]
    exact h z u0 us0 h0
theorem GAt.own {w : World} {m base : Nat} {gs : List Gr} (h : Groups w m base gs) {y : Int} {v : Value} {zs : List Int} (e : GAt gs y v zs) : w.ownsRow base 3 1 v zs.length (nums .i64 zs) := by
  rcases e with ⟨i, hi⟩ | ⟨_, rfl, rfl⟩
  · exact h.own _ (List.mem_of_getElem? hi)
  · exact own_nil _ _ _ _
theorem zsOf_le (done : List (Int × Int)) (y : Int) : (zsOf done y).length ≤ done.length := by
  simp only [zsOf, List.length_map]; exact List.length_filter_le _ _
theorem grown_from {w w5 : World} {o : Obj} {row : Option Nat} (h : ((w.drew).alloc o).grownBy w5 row) : w.grownBy w5 row :=
  ⟨h.os, h.tape, h.output, by have := h.size; simp at this; omega, fun i hi hne => (h.block i (by simp; omega) hne).trans (alloc_old w.drew o i hi)⟩
/-- The statement 'at[x] = append(at[x], i)', behind its append. -/
theorem round_step {W w5 : World} {m base : Nat} {gs : List Gr} {x i : Int} {A : Option Addr} {c cap g : Nat} {zs : List Int} {o : Obj} (h : Groups W m base gs) (e : GAt gs x (.slice A zs.length c) zs) (hs : base ≤ W.heap.size)
    (hgrow : ((W.alloc o).drew).grownBy w5 (Value.slice A zs.length c).ownBlock) (hown : w5.ownsRow base 3 1 (.slice (some ⟨g, 0, none⟩) (zs.length + 1) cap) (zs.length + 1) (nums .i64 zs ++ [.int .i64 i])) (hat : (Value.slice A zs.length c).ownBlock = some g ∨ g = W.heap.size + 1) :
    ∃ w6 gs', (Instr.mapUpdate 60 (.map (some m)) (.int .i64 x) (.slice (some ⟨g, 0, none⟩) (zs.length + 1) cap)).run Try.prog w5 = .ok () w6 ∧ Groups w6 m base gs' ∧ GAt gs' x (.slice (some ⟨g, 0, none⟩) (zs.length + 1) cap) (zs ++ [i]) ∧ (∀ z u us, z ≠ x → GAt gs z u us → GAt gs' z u us) ∧ W.heap.size ≤ w6.heap.size ∧
      ∀ (B : Nat) (w0 : World), B ≤ m → Below B w0 W → Below B w0 w6 ∧ ∀ k, m < k → k < base → w6.heap[k]? = W.heap[k]? := by
  have hg : W.grownBy w5 (Value.slice A zs.length c).ownBlock :=
    ⟨hgrow.os, hgrow.tape, hgrow.output, by have := hgrow.size; simp at this; omega, fun k hk hne => (hgrow.block k (by simp; omega) hne).trans (alloc_old W o k hk)⟩
  have hb : ∀ b, (Value.slice A zs.length c).ownBlock = some b → base ≤ b := fun b hb => own_base (GAt.own h e) b hb
  obtain ⟨w6, gs', h1, h2, h3, h4, h5, h6⟩ := h.round (x := i) e (w3 := w5) (v' := .slice (some ⟨g, 0, none⟩) (zs.length + 1) cap) hg (by simpa [nums] using hown) (by
    rcases hat with hat | hat
    · exact .inl (by rw [hat]; rfl)
    · exact .inr ⟨g, rfl, by omega⟩) (by simp [Value.ownBlock])
  refine ⟨w6, gs', h1, h2, h5, h6, by rw [h4]; exact hg.size, fun B w0 hB hw => ⟨?_, fun k hk1 hk2 => ?_⟩⟩
  · have hl := h.low
    exact pw_below_grown (pw_below_grown hw _ (by omega) hg (fun k hk => by have := hb k hk; omega)) _ (by have := hg.size; omega) h3 (fun k hk => by cases hk; omega)
  · exact (h3.block k (by have := hg.size; omega) (fun e' => by cases e'; omega)).trans (hg.block k (by omega) (fun e' => by have := hb k e'.symm; omega))
theorem same_cell {w w' : World} {k i : Nat} {v : Value} (h : w'.heap[k]? = w.heap[k]?) (hc : w.cell? ⟨k, i, none⟩ = some v) : w'.cell? ⟨k, i, none⟩ = some v := by
  rw [← hc]; simp only [World.cell?, h]
theorem Held.same {w w' : World} {S mT ch cap : Nat} {lv av : Value} {ks q : List Int} (h : Held w S mT ch cap lv av ks q) (h1 : w'.heap[S]? = w.heap[S]?) (h2 : w'.heap[mT]? = w.heap[mT]?) (h3 : w'.heap[ch]? = w.heap[ch]?) : Held w' S mT ch cap lv av ks q :=
  ⟨h1.trans h.st, h2.trans h.tk, by obtain ⟨s, r, hc⟩ := h.qu; exact ⟨s, r, h3.trans hc⟩, h.st_tk, h.st_qu, h.tk_qu⟩
/-- Which pairs have come: of clauses ahead of i all, of clause i those ahead of j. -/
def Came (l : List (List Int)) (i j : Nat) (done : List (Int × Int)) : Prop :=
  done.length = (l.take i).flatten.length + j ∧ ∀ p ∈ done, ∃ m : Nat, p.2 = (m : Int) ∧ m < l.length ∧ True
def CameAll (l : List (List Int)) (i j : Nat) (done : List (Int × Int)) : Prop :=
  ∀ (m k : Nat) c, l[m]? = some c → (h : k < c.length) → (m < i ∨ m = i ∧ k < j) → (c[k], (m : Int)) ∈ done
theorem came_start (l : List (List Int)) : Came l 0 0 [] ∧ CameAll l 0 0 [] := ⟨⟨by simp, by simp⟩, fun m k c _ _ h => by omega⟩
theorem came_step {l : List (List Int)} {i j : Nat} {done : List (Int × Int)} (hi : i < l.length) (hj : j < l[i].length) (h1 : Came l i j done) (h2 : CameAll l i j done) : Came l i (j + 1) (done ++ [(l[i][j], (i : Int))]) ∧ CameAll l i (j + 1) (done ++ [(l[i][j], (i : Int))]) := by
  refine ⟨⟨by have := h1.1; simp only [List.length_append, List.length_cons, List.length_nil]; omega, fun p hp => ?_⟩, fun m k c hc hk h => ?_⟩
  · rcases List.mem_append.1 hp with h | h
    · exact h1.2 p h
    · simp at h
      subst h
      exact ⟨i, rfl, hi, trivial⟩
  · by_cases c1 : m = i ∧ k = j
    · obtain ⟨rfl, rfl⟩ := c1
      rw [List.getElem?_eq_getElem hi] at hc
      cases hc
      simp
    · exact List.mem_append_left _ (h2 m k c hc hk (by omega))
theorem came_next {l : List (List Int)} {i j : Nat} {done : List (Int × Int)} (hi : i < l.length) (hj : j = l[i].length) (h1 : Came l i j done) (h2 : CameAll l i j done) : Came l (i + 1) 0 done ∧ CameAll l (i + 1) 0 done := by
  refine ⟨⟨?_, h1.2⟩, fun m k c hc hk h => ?_⟩
  · rw [List.take_succ_eq_append_getElem hi, List.flatten_append]
    have := h1.1
    simp only [List.length_append, List.flatten_cons, List.flatten_nil, List.append_nil]
    omega
  · refine h2 m k c hc hk ?_
    by_cases c1 : m = i
    · subst c1
      rw [List.getElem?_eq_getElem hi] at hc
      cases hc
      omega
    · omega
theorem occ_of {l : List (List Int)} {done : List (Int × Int)} {j : Nat} (h1 : Came l l.length j done) (h2 : CameAll l l.length j done) (y : Int) : Occ l y (zsOf done y) := by
  refine ⟨fun z hz => ?_, fun i c hc hy => ?_⟩
  · simp only [zsOf, List.mem_map, List.mem_filter] at hz
    obtain ⟨p, ⟨hp, _⟩, rfl⟩ := hz
    obtain ⟨m, hm, hml, _⟩ := h1.2 p hp
    exact ⟨m, hm, hml⟩
  · obtain ⟨k, hk, rfl⟩ := List.getElem_of_mem hy
    have := h2 i k c hc hk (.inl (List.getElem?_eq_some_iff.1 hc).1)
    simp only [zsOf, List.mem_map, List.mem_filter]
    exact ⟨_, ⟨this, by simp⟩, rfl⟩
/-- What the work leans on, once the map is built. -/
theorem laid_of {w W : World} {B j : Nat} {A0 : Option Addr} {l : List (List Int)} {gs : List Gr} {done : List (Int × Int)} (hr : Kd.C (Kd.slice 3 (Kd.int .i64)) w A0 l.length l) (hB : Below w.heap.size w W) (hw : w.heap.size ≤ B) (hz : B + 1 + 1 + 1 + 1 ≤ W.heap.size) (hG : Groups W B (B + 1 + 1 + 1 + 1) gs) (hS : Sem gs done) (h1 : Came l l.length j done) (h2 : CameAll l l.length j done) : Laid W (B + 1) (B + 1 + 1) A0 B l where
  row w' h := Kd.C_below hr (But2.below hB hB.size (by omega) (by omega) h)
  occ y _ := by
    obtain ⟨v, zs, hg, hl⟩ := run_group hG.ents y
    have ho := GAt.own hG hg
    obtain ⟨A, c, rfl⟩ := own_slice ho
    refine ⟨A, c, zs, ?_, fun w' h => ⟨hl w' (h.block B (by omega) (by omega) (by omega)), ?_⟩⟩
    · rw [hS y _ zs hg]; exact occ_of h1 h2 y
    · have ho' := own_move ho (w1 := w') (fun k hk => h.block k (own_lt ho k hk) (by have := own_base ho k hk; omega) (by have := own_base ho k hk; omega))
      exact Kd.C_of_reads (d := 0) (own_reads_of' (d := 0) ho')
theorem inv_start (l : List (List Int)) (known : List Int) : Inv l known (fun _ => True) [] 0 := ⟨by simp, by simp, by simp, by simp, by simp, by simp, fun _ _ _ => .inl trivial⟩
theorem run_range (w : World) (m : Nat) (ks : List Int) (h : w.heap[m]? = some (.map (tents ks) ks.length)) : (Instr.range 61 (.map (some m))).run Try.prog w = .ok (.pointer (some ⟨w.heap.size, 0, none⟩)) (w.alloc (.mapIter (some m) ks.length #[] ks.length)) := by
  unfold Instr.range
  simp [Sem.run_bind, run_underlying Try.underlying61, Result.andThen, Go.MapKept.run_getObj_map (P := Try.prog) h]
theorem step_world {W w1 : World} {r : Nat} {o : Obj} (hw : w1 = W ∨ w1 = W.drew) (hr : W.heap[r]? = some o) (o' : Obj) : (setBlock w1 r o').heap[r]? = some o' ∧ (∀ k, k ≠ r → (setBlock w1 r o').heap[k]? = W.heap[k]?) ∧ (setBlock w1 r o').heap.size = W.heap.size ∧ ∀ B w0, B ≤ r → Below B w0 W → Below B w0 (setBlock w1 r o') := by
  have e : (setBlock w1 r o').heap = W.heap.setIfInBounds r o' := by rcases hw with rfl | rfl <;> rfl
  have h := heap_set (o' := o') hr
  refine ⟨by rw [e]; exact h.1, fun k hk => by rw [e]; exact h.2 k hk, by rw [e]; simp, fun B w0 hB hb => ⟨?_, ?_, ?_, by rw [e]; simpa using hb.size, fun k hk => by rw [e, h.2 k (by omega)]; exact hb.block k hk⟩⟩
  · rcases hw with rfl | rfl <;> exact hb.os
  · rcases hw with rfl | rfl <;> exact hb.tape
  · rcases hw with rfl | rfl <;> exact hb.output
def seenN : Option Obj → Nat
  | some (.mapIter _ _ s _) => s.size
  | _ => 0
/-- What has come out of the range so far. -/
def outOf (ks : List Int) (js : List Nat) : List Int := js.map fun j => ks.getD j 0
theorem outOf_push (ks : List Int) (js : List Nat) (j : Nat) (h : j < ks.length) : outOf ks (js ++ [j]) = outOf ks js ++ [ks[j]] := by
  simp [outOf, List.getD_eq_getElem?_getD, h]
theorem outOf_all (ks : List Int) (js : List Nat) (hn : js.Nodup) (h1 : ∀ j ∈ js, j < ks.length) (h2 : ∀ j, j < ks.length → j ∈ js) : (outOf ks js).Perm ks := by
  have hp : js.Perm (List.range ks.length) := (List.perm_ext_iff_of_nodup hn List.nodup_range).2 fun j => by rw [List.mem_range]; exact ⟨h1 j, h2 j⟩
  have e : (List.range ks.length).map (fun j => ks.getD j 0) = ks := by
    apply List.ext_getElem (by simp)
    intro i h3 h4
    simp [List.getD_eq_getElem?_getD, h4]
  have := hp.map (fun j => ks.getD j 0)
  rw [e] at this
  exact this
theorem js_room {n : Nat} {js : List Nat} (hn : js.Nodup) (h1 : ∀ j ∈ js, j < n) : js.length ≤ n := by
  have := List.Nodup.length_le_of_subset hn (l₂ := List.range n) (fun j hj => List.mem_range.2 (h1 j hj))
  simpa using this
end Go.Proofs.Ytdlfmobnmcamaaa.Q
namespace Go.Proofs.Ytdlfmobnmcamaaa.Q
open Go.RowKit Go.Sort Go.Shelf Go.Proofs.YtdlfmobnmcamaaaW.PrintWords Go.Proofs.YtdlfmobnmcamaaaW.PrintLast Go.Proofs.YtdlfmobnmcamaaaW.PrintMore
set_option linter.unusedVariables false
set_option linter.unusedSimpArgs false
theorem once_mem (d : Array Int) : ∀ (m : Nat), m ≤ d.size → ∀ x, x ∈ Lib.compactUpTo d m ↔ x ∈ d.toList.take m
  | 0, _, x => by simp [Lib.compactUpTo]
  | m + 1, hm, x => by
    have ih := once_mem d m (by omega) x
    have hl : m < d.toList.length := by simpa using (show m < d.size by omega)
    rw [Lib.compactUpTo_succ, List.mem_append, ih, List.take_succ_eq_append_getElem hl, List.mem_append]
    have e : d[m]! = d.toList[m] := by simp [getElem!_pos d m (by omega)]
    by_cases hk : Lib.keeps d m = true
    · rw [if_pos hk, e]
    · rw [if_neg hk]
      simp only [Lib.keeps, decide_eq_true_eq, not_or, Decidable.not_not] at hk
      have h1 : m - 1 < d.toList.length := by omega
      have e1 : d[m - 1]! = d.toList[m - 1] := by simp [getElem!_pos d (m - 1) (by omega)]
      constructor
      · rintro (h | h)
        · exact .inl h
        · cases h
      · rintro (h | h)
        · exact .inl h
        · simp only [List.mem_singleton] at h
          refine .inl ?_
          rw [h, ← e, hk.2, e1]
          exact List.mem_take_iff_getElem.2 ⟨m - 1, by omega, rfl⟩
theorem litOnce_mem (l : List Int) (x : Int) : x ∈ litOnce l ↔ x ∈ l := by
  unfold litOnce
  rw [once_mem _ _ (by simp)]
  simp
def litLe (x y : Int) : Prop := pvar x < pvar y ∨ (pvar x = pvar y ∧ x ≤ y)
theorem once_sorted (d : Array Int) (hs : d.toList.Pairwise litLe) : ∀ (m : Nat), m ≤ d.size → (Lib.compactUpTo d m).Pairwise (fun x y => litLe x y ∧ x ≠ y)
  | 0, _ => by simp [Lib.compactUpTo]
  | m + 1, hm => by
    have ih := once_sorted d hs m (by omega)
    have hl : m < d.toList.length := by simpa using (show m < d.size by omega)
    rw [Lib.compactUpTo_succ]
    have e : d[m]! = d.toList[m] := by simp [getElem!_pos d m (by omega)]
    by_cases hk : Lib.keeps d m = true
    · rw [if_pos hk, e, List.pairwise_append]
      refine ⟨ih, by simp, fun x hx y hy => ?_⟩
      simp only [List.mem_singleton] at hy
      subst hy
      rw [once_mem d m (by omega)] at hx
      obtain ⟨i, hi, rfl⟩ := List.mem_take_iff_getElem.1 hx
      have hi' : i < m := by omega
      rw [List.pairwise_iff_getElem] at hs
      have h1 := hs i m (by omega) hl hi'
      refine ⟨h1, fun hx => ?_⟩
      simp only [Lib.keeps, decide_eq_true_eq] at hk
      have e1 : d[m - 1]! = d.toList[m - 1] := by simp [getElem!_pos d (m - 1) (by omega)]
      rw [e, e1] at hk
      rcases hk with hk | hk
      · omega
      · apply hk
        by_cases c : i = m - 1
        · subst c; exact hx.symm
        · have h2 := hs i (m - 1) (by omega) (by omega) (by omega)
          have h3 := hs (m - 1) m (by omega) hl (by omega)
          unfold litLe at h2 h3
          rw [hx] at h2
          omega
    · rw [if_neg hk, List.append_nil]; exact ih
theorem litSort_sorted (l : List Int) : (litSort l).Pairwise litLe := by
  have tr : ∀ x y z : Int, (!(ltOf litCmp) y x) = true → (!(ltOf litCmp) z y) = true → (!(ltOf litCmp) z x) = true := by
    intro x y z h1 h2
    simp only [Bool.not_eq_true'] at *
    exact litCmp_swo.ntrans _ _ _ h2 h1
  have tot : ∀ x y : Int, ((!(ltOf litCmp) y x) || (!(ltOf litCmp) x y)) = true := by
    intro x y
    cases h1 : (ltOf litCmp) y x with
    | false => simp
    | true =>
      cases h2 : (ltOf litCmp) x y with
      | false => simp
      | true => have := litCmp_swo.trans _ _ _ h1 h2; rw [litCmp_swo.irrefl] at this; cases this
  refine (List.pairwise_mergeSort tr tot l).imp fun {x y} h => ?_
  simp only [Bool.not_eq_true', litLt_not] at h
  unfold litLe
  omega
theorem litSort_mem (l : List Int) (x : Int) : x ∈ litSort l ↔ x ∈ l := (List.mergeSort_perm l _).mem_iff
/-- Literals of one variable each, none of none. -/
def Clear (ks : List Int) : Prop := (∀ x ∈ ks, pvar x ≠ 0) ∧ ∀ x ∈ ks, ∀ y ∈ ks, pvar x = pvar y → x = y
/-- By variable. -/
def Rise (l : List Int) : Prop := l.Pairwise fun x y => pvar x < pvar y
theorem rd_get (s : List Int) (i : Nat) (h : i < s.length) : YtdlfmobnmcamaaaW.PrintWords.rd s (i : Int) = s[i] := by simp [YtdlfmobnmcamaaaW.PrintWords.rd, List.getD_eq_getElem?_getD, h]
theorem norm_row (ks : List Int) : (litOnce (litSort ks)).Pairwise (fun x y => litLe x y ∧ x ≠ y) := by
  have h := once_sorted (litSort ks).toArray (litSort_sorted ks) (litSort ks).length (by simp)
  exact h
theorem norm_mem (ks : List Int) (x : Int) : x ∈ litOnce (litSort ks) ↔ x ∈ ks := by rw [litOnce_mem, litSort_mem]
theorem rise_of {s : List Int} (hs : s.Pairwise (fun x y => litLe x y ∧ x ≠ y)) (hb : ¬ litBad s) : Rise s := by
  have adj : ∀ i, i + 1 < s.length → pvar s[i]! < pvar s[i+1]! := by
    intro i hi
    have h1 := List.pairwise_iff_getElem.1 hs i (i + 1) (by omega) hi (by omega)
    have h2 : ¬ badAt s (i + 1) := fun h => hb ⟨i + 1, hi, h⟩
    unfold badAt at h2
    rw [rd_get s (i + 1) hi, show (((i + 1 : Nat) : Int) - 1) = (i : Int) by omega, rd_get s i (by omega)] at h2
    rw [getElem!_pos s i (by omega), getElem!_pos s (i + 1) hi]
    unfold litLe at h1
    omega
  unfold Rise
  rw [List.pairwise_iff_getElem]
  intro i j hi hj hij
  have : ∀ d, i + d + 1 < s.length → pvar s[i]! < pvar s[i + d + 1]! := by
    intro d
    induction d with
    | zero => exact fun h => adj i h
    | succ d ih => exact fun h => Int.lt_trans (ih (by omega)) (adj (i + d + 1) h)
  have h := this (j - i - 1) (by omega)
  rw [show i + (j - i - 1) + 1 = j by omega, getElem!_pos s i hi, getElem!_pos s j hj] at h
  exact h
theorem norm_clear {ks : List Int} (h : Clear ks) : ∃ out, normOf ks = (out, true) ∧ (∀ x, x ∈ out ↔ x ∈ ks) ∧ Rise out := by
  have hb : ¬ litBad (litOnce (litSort ks)) := by
    rintro ⟨i, hi, hb⟩
    have hm : ∀ (j : Nat) (hj : j < (litOnce (litSort ks)).length), (litOnce (litSort ks))[j] ∈ ks := fun j hj => (norm_mem ks _).1 (List.getElem_mem hj)
    unfold badAt at hb
    rcases hb with hb | ⟨h0, hb⟩
    · rw [rd_get _ i hi] at hb
      exact h.1 _ (hm i hi) hb
    · rw [show ((i : Int) - 1) = ((i - 1 : Nat) : Int) by omega, rd_get _ (i - 1) (by omega), rd_get _ i hi] at hb
      have e := h.2 _ (hm (i - 1) (by omega)) _ (hm i hi) hb
      exact (List.pairwise_iff_getElem.1 (norm_row ks) (i - 1) i (by omega) hi (by omega)).2 e
  exact ⟨_, by unfold normOf; rw [if_neg hb], norm_mem ks, rise_of (norm_row ks) hb⟩
theorem norm_unclear {ks : List Int} (h : ¬ Clear ks) : normOf ks = ([], false) := by
  unfold normOf
  rw [if_pos]
  apply Decidable.byContradiction
  intro hb
  apply h
  have hr := rise_of (norm_row ks) hb
  refine ⟨fun x hx h0 => ?_, fun x hx y hy e => ?_⟩
  · obtain ⟨i, hi, e⟩ := List.getElem_of_mem ((norm_mem ks x).2 hx)
    exact hb ⟨i, hi, .inl (by rw [rd_get _ i hi, e]; exact h0)⟩
  · obtain ⟨i, hi, ei⟩ := List.getElem_of_mem ((norm_mem ks x).2 hx)
    obtain ⟨j, hj, ej⟩ := List.getElem_of_mem ((norm_mem ks y).2 hy)
    have hp := List.pairwise_iff_getElem.1 hr
    rcases Nat.lt_trichotomy i j with c | c | c
    · have := hp i j hi hj c; rw [ei, ej] at this; omega
    · subst c; exact ei.symm.trans ej
    · have := hp j i hj hi c; rw [ei, ej] at this; omega
theorem rise_eq {a b : List Int} (ha : Rise a) (hb : Rise b) (h : ∀ x, x ∈ a ↔ x ∈ b) : a = b := by
  have na : a.Nodup := ha.imp fun {x y} h e => by subst e; omega
  have nb : b.Nodup := hb.imp fun {x y} h e => by subst e; omega
  refine List.Perm.eq_of_pairwise (le := fun x y => pvar x < pvar y) ?_ ha hb ((List.perm_ext_iff_of_nodup na nb).2 h)
  intro x y _ _ h1 h2
  omega
theorem rise_clear {a : List Int} (ha : Rise a) (h0 : ∀ x ∈ a, pvar x ≠ 0) : Clear a := by
  refine ⟨h0, fun x hx y hy e => ?_⟩
  obtain ⟨i, hi, ei⟩ := List.getElem_of_mem hx
  obtain ⟨j, hj, ej⟩ := List.getElem_of_mem hy
  have hp := List.pairwise_iff_getElem.1 ha
  rcases Nat.lt_trichotomy i j with c | c | c
  · have := hp i j hi hj c; rw [ei, ej] at this; omega
  · subst c; exact ei.symm.trans ej
  · have := hp j i hj hi c; rw [ei, ej] at this; omega
theorem pvar_lt {x : Int} (h : Lt x) : pvar x = if x < 0 then -x else x := by
  have e : wrap64 (-x) = -x := by unfold Lt at h; unfold wrap64; omega
  unfold Lt at h
  unfold pvar
  rw [e]
  unfold mx
  repeat' split
  all_goals omega
theorem pvar_neg {x : Int} (h : Lt x) : pvar (neg x) = pvar x := by
  rw [pvar_lt (neg_Lt h), pvar_lt h, neg_lt h]
  unfold Lt at h
  repeat' split
  all_goals omega
theorem pvar_pos {x : Int} (h : Lt x) : 0 < pvar x := by
  rw [pvar_lt h]; unfold Lt at h; split <;> omega
theorem pvar_eq {x y : Int} (hx : Lt x) (hy : Lt y) (h : pvar x = pvar y) : x = y ∨ y = neg x := by
  rw [pvar_lt hx, pvar_lt hy] at h
  rw [neg_lt hx]
  unfold Lt at hx hy
  split at h <;> split at h <;> omega
/-- A literal and its opposite are not both true. -/
theorem true_neg {m : List Bool} {x : Int} (hx : Lt x) (h1 : litTrue m x = true) (h2 : litTrue m (neg x) = true) : False := by
  unfold litTrue at h1 h2
  rw [pvar_neg hx, neg_lt hx] at h2
  simp only [Bool.and_eq_true, decide_eq_true_eq, beq_iff_eq] at h1 h2
  have := h1.2.symm.trans h2.2
  unfold Lt at hx
  by_cases c : 0 < x
  · simp [c] at this; omega
  · simp [c] at this; omega
/-- .. one of them is, if the model tells the variable. -/
theorem true_or {m : List Bool} {x : Int} (hx : Lt x) (hm : pvar x ≤ (m.length : Int)) : litTrue m x = true ∨ litTrue m (neg x) = true := by
  unfold litTrue
  rw [pvar_neg hx, neg_lt hx]
  have hp := pvar_pos hx
  simp only [Bool.and_eq_true, decide_eq_true_eq, beq_iff_eq, hp, hm, true_and]
  unfold Lt at hx
  by_cases c : 0 < x
  · simp [c]
    cases rdOf false m (pvar x - 1) <;> simp
    all_goals omega
  · simp [c]
    cases rdOf false m (pvar x - 1) <;> simp
    all_goals omega
def Lits (l : List (List Int)) : Prop := ∀ c ∈ l, ∀ y ∈ c, Lt y
theorem der_of {l : List (List Int)} {known : List Int} {x : Int} (h : Der l known x) : x ∈ known ++ l.flatten := by
  cases h with
  | known h => exact List.mem_append_left _ h
  | unit hc hx _ => exact List.mem_append_right _ (List.mem_flatten.2 ⟨_, hc, hx⟩)
theorem der_lt {l : List (List Int)} {known : List Int} {x : Int} (hL : Lits l) (hK : ∀ y ∈ known, Lt y) (h : Der l known x) : Lt x := by
  cases h with
  | known h => exact hK _ h
  | unit hc hx _ => exact hL _ hc _ hx
/-- Does a model meet clauses? -/
def Meets (m : List Bool) (l : List (List Int)) : Prop := ∀ c ∈ l, ∃ y ∈ c, litTrue m y = true
theorem der_true {l : List (List Int)} {known : List Int} {m : List Bool} (hL : Lits l) (hm : Meets m l) (hk : ∀ y ∈ known, litTrue m y = true) {x : Int} (h : Der l known x) : litTrue m x = true := by
  induction h with
  | known h => exact hk _ h
  | @unit c x hc hx _ ih =>
    obtain ⟨y, hy, ht⟩ := hm c hc
    by_cases e : y = x
    · exact e ▸ ht
    · exact (true_neg (hL c hc y hy) ht (ih y hy e)).elim
theorem conf_no {l : List (List Int)} {known : List Int} {m : List Bool} (hL : Lits l) (hK : ∀ y ∈ known, Lt y) (hm : Meets m l) (hk : ∀ y ∈ known, litTrue m y = true) : ¬ Conf l known := by
  rintro (⟨x, h1, h2⟩ | ⟨c, hc, h⟩)
  · exact true_neg (der_lt hL hK h1) (der_true hL hm hk h1) (der_true hL hm hk h2)
  · obtain ⟨y, hy, ht⟩ := hm c hc
    exact true_neg (hL c hc y hy) ht (der_true hL hm hk (h y hy))
theorem der_more {l l' : List (List Int)} {known known' : List Int} (h1 : ∀ c ∈ l, c ∈ l') (h2 : ∀ x ∈ known, Der l' known' x) {x : Int} (h : Der l known x) : Der l' known' x := by
  induction h with
  | known h => exact h2 _ h
  | unit hc hx _ ih => exact .unit (h1 _ hc) hx ih
theorem conf_more {l l' : List (List Int)} {known known' : List Int} (h1 : ∀ c ∈ l, c ∈ l') (h2 : ∀ x ∈ known, Der l' known' x) (h : Conf l known) : Conf l' known' := by
  rcases h with ⟨x, ha, hb⟩ | ⟨c, hc, h⟩
  · exact .inl ⟨x, der_more h1 h2 ha, der_more h1 h2 hb⟩
  · exact .inr ⟨c, h1 c hc, fun y hy => der_more h1 h2 (h y hy)⟩
theorem row_ex : ∀ (L : List Int) (P : Int → Prop), (∀ x, P x → x ∈ L) → ∃ ks : List Int, ks.Nodup ∧ ∀ x, P x ↔ x ∈ ks
  | [], P, h => ⟨[], by simp, fun x => ⟨fun hx => h x hx, fun hx => by cases hx⟩⟩
  | a :: L, P, h => by
    obtain ⟨ks, hn, hk⟩ := row_ex L (fun x => P x ∧ x ≠ a) (fun x hx => by
      rcases List.mem_cons.1 (h x hx.1) with e | e
      · exact absurd e hx.2
      · exact e)
    by_cases ha : P a
    · refine ⟨a :: ks, List.nodup_cons.2 ⟨fun hx => ((hk a).2 hx).2 rfl, hn⟩, fun x => ⟨fun hx => ?_, fun hx => ?_⟩⟩
      · by_cases e : x = a
        · subst e; exact List.mem_cons_self
        · exact List.mem_cons_of_mem _ ((hk x).1 ⟨hx, e⟩)
      · rcases List.mem_cons.1 hx with e | hx
        · subst e; exact ha
        · exact ((hk x).2 hx).1
    · refine ⟨ks, hn, fun x => ⟨fun hx => (hk x).1 ⟨hx, fun e => ha (e ▸ hx)⟩, fun hx => ((hk x).2 hx).1⟩⟩
theorem row_is (l : List (List Int)) (known : List Int) : ∃ ks, Row l known ks := by
  obtain ⟨ks, h1, h2⟩ := row_ex (known ++ l.flatten) (Der l known) (fun x h => der_of h)
  exact ⟨ks, h1, h2⟩
/-- What prop.Unit tells, in one piece. -/
theorem unit_spec {l : List (List Int)} {vars : Int} {known : List Int} (h1 : rightOf l vars = true) (h2 : rightOf [known] vars = true) (hL : Lits l) (hK : ∀ y ∈ known, Lt y) :
    (Conf l known ∧ unitOf l vars known = ([], false)) ∨ (¬ Conf l known ∧ ∃ out, unitOf l vars known = (out, true) ∧ (∀ x, x ∈ out ↔ Der l known x) ∧ Rise out) := by
  by_cases hc : Conf l known
  · exact .inl ⟨hc, unitOf_conf hc⟩
  · right
    obtain ⟨ks, hr⟩ := row_is l known
    have hlt : ∀ x ∈ ks, Lt x := fun x hx => der_lt hL hK ((hr.2 x).2 hx)
    have hcl : Clear ks := ⟨fun x hx => by have := pvar_pos (hlt x hx); omega, fun x hx y hy e => by
      rcases pvar_eq (hlt x hx) (hlt y hy) e with e | e
      · exact e
      · exact absurd (.inl ⟨x, (hr.2 x).2 hx, (hr.2 _).2 (e ▸ hy)⟩) hc⟩
    obtain ⟨out, e, hm, hri⟩ := norm_clear hcl
    exact ⟨hc, out, by rw [unitOf_row h1 h2 hc hr, e], fun x => (hm x).trans (hr.2 x).symm, hri⟩
theorem unit_true {l : List (List Int)} {vars : Int} {known : List Int} (h1 : rightOf l vars = true) (h2 : rightOf [known] vars = true) (hL : Lits l) (hK : ∀ y ∈ known, Lt y) : (unitOf l vars known).2 = true ↔ ¬ Conf l known := by
  rcases unit_spec h1 h2 hL hK with ⟨h, e⟩ | ⟨h, out, e, _⟩ <;> rw [e] <;> simp [h]
/-- Literals of the variables 1 to 8. -/
def Sm (x : Int) : Prop := x ≠ 0 ∧ -8 ≤ x ∧ x ≤ 8
theorem Sm.lt {x : Int} (h : Sm x) : Lt x := by unfold Sm at h; unfold Lt; omega
theorem Sm.wf {x : Int} (h : Sm x) : Wf x := by unfold Sm at h; unfold Wf; omega
theorem Sm.neg {x : Int} (h : Sm x) : Sm (neg x) := by rw [neg_lt h.lt]; unfold Sm at *; omega
theorem Sm.pv {x : Int} (h : Sm x) : pvar x ≤ 8 := by rw [pvar_lt h.lt]; unfold Sm at h; split <;> omega
theorem right_sm {l : List (List Int)} {vars : Int} (hv : 8 ≤ vars) (hv2 : vars ≤ 1048576) (h : ∀ c ∈ l, ∀ y ∈ c, Sm y) : rightOf l vars = true := by
  simp only [rightOf, Bool.and_eq_true, decide_eq_true_eq, List.all_eq_true]
  refine ⟨⟨by omega, hv2⟩, fun c hc y hy => ?_⟩
  have := (h c hc y hy).pv
  have := pvar_pos (h c hc y hy).lt
  simp only [litOk, Bool.and_eq_true, decide_eq_true_eq]
  omega
end Go.Proofs.Ytdlfmobnmcamaaa.Q
