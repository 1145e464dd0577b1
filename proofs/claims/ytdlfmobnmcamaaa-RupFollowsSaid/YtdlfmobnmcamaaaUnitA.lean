/- Communication in one goroutine, what is taken, a look at a clause, and what follows by units. Written for this claim. -/
import Derived.Test.YtdlfmobnmcamaaaQx0
import Derived.Conc.LoneCalls
import Derived.Conc.LoneSelect
import Derived.MapKept
import Derived.ChangeMaps4
import Derived.Outline
namespace Go.Proofs.Ytdlfmobnmcamaaa.Q
set_option linter.unusedVariables false
set_option linter.unusedSimpArgs false
open Go.RowKit Go.Conc

/-- As 'Code.wp', for ordinary frames alone. -/
def wpN (P : Program) (c : Code) (Q : Exit → Act → World → Prop) (a : Act) (w : World) : Prop :=
  ∀ (b : Frame) (k : List Item) (cs : List Frame), b.kind = .normal →
    ∃ e a' w', Q e a' w' ∧ Arrives P (lone (b.at a (.code c :: k)) cs w) b k cs e a' w'

section
variable {P : Program} {Q : Exit → Act → World → Prop} {a : Act} {w : World}
theorem wpN_of_wp {c : Code} (h : c.wp P Q a w) : wpN P c Q a w := fun b k cs _ => h b k cs
theorem wpN_seq {x y : Code} (h : wpN P x (Exit.then (wpN P y Q) Q) a w) : wpN P (.seq x y) Q a w := fun b k cs hb => by
  obtain ⟨e, a1, w1, hq, ha⟩ := h b (.code y :: k) cs hb
  have h1 : Steps P (lone (b.at a (.code (.seq x y) :: k)) cs w) (lone (b.at a (.code x :: .code y :: k)) cs w) := .one step_seq
  cases e with
  | normal =>
    obtain ⟨e2, a2, w2, hq2, ha2⟩ := hq b k cs hb
    exact ⟨e2, a2, w2, hq2, .of_steps (h1.trans ha) ha2⟩
  | exit id => exact ⟨.exit id, a1, w1, hq, .of_steps h1 (Arrives.pass (x := .code y) rfl (fun _ _ => .inl (by simp)) ha)⟩
  | goto l => exact ⟨.goto l, a1, w1, hq, .of_steps h1 (Arrives.pass (x := .code y) rfl (fun _ _ => .inl (by simp)) ha)⟩
  | ret => exact ⟨.ret, a1, w1, hq, .of_steps h1 (Arrives.pass (x := .code y) rfl (fun _ _ => .inl (by simp)) ha)⟩
  | panic ch => exact ⟨.panic ch, a1, w1, hq, .of_steps h1 (Arrives.pass (x := .code y) rfl (fun _ _ => .inl (by simp)) ha)⟩
  | outgrown => exact ⟨.outgrown, a1, w1, hq, .of_steps h1 (Arrives.pass (x := .code y) rfl (fun _ _ => .inl (by simp)) ha)⟩
/-- The first half by the kit's walk. -/
theorem wpN_seq' {x y : Code} (h : ∀ K : Act → World → Prop, (∀ a w, wpN P y Q a w → K a w) → x.wp P (Exit.then K Q) a w) : wpN P (.seq x y) Q a w := wpN_seq (wpN_of_wp (h _ fun _ _ h => h))
theorem wpN_cond {c : Operand} {x y : Code} (t : Bool) (hc : a.eval c = .bool t) (h : wpN P (if t then x else y) Q a w) : wpN P (.cond c x y) Q a w := fun b k cs hb => by
  obtain ⟨e, a', w', q, r⟩ := h b k cs hb
  exact ⟨e, a', w', q, .of_steps (.one (step_cond hc)) r⟩
theorem wpN_block {id : Nat} {c : Code} (h : wpN P c (Exit.inBlock id Q) a w) : wpN P (.block id c) Q a w := fun b k cs hb => by
  obtain ⟨e, a1, w1, hq, ha⟩ := h b (.inBlock id :: k) cs hb
  have h1 : Steps P (lone (b.at a (.code (.block id c) :: k)) cs w) (lone (b.at a (.code c :: .inBlock id :: k)) cs w) := .one step_block
  cases e with
  | normal => exact ⟨.normal, a1, w1, hq, h1.trans (Steps.trans ha (.one step_inBlock))⟩
  | exit id' =>
    by_cases hid : id' = id
    · subst hid
      simp only [Exit.inBlock, if_true] at hq
      exact ⟨.normal, a1, w1, hq, h1.trans (ha k (by simp [exitTo]))⟩
    · simp only [Exit.inBlock, hid, if_false] at hq
      refine ⟨.exit id', a1, w1, hq, fun k' hk => h1.trans (ha k' ?_)⟩
      have : (id == id') = false := by simpa using fun e : id = id' => hid e.symm
      simp [exitTo, this, hk]
  | goto l => exact ⟨.goto l, a1, w1, hq, fun k' hk => h1.trans (ha k' (by simp [gotoIn, hk]))⟩
  | ret => exact ⟨.ret, a1, w1, hq, .of_steps h1 ha⟩
  | panic ch => exact ⟨.panic ch, a1, w1, hq, .of_steps h1 ha⟩
  | outgrown => exact ⟨.outgrown, a1, w1, hq, .of_steps (b := b) (k := k) (cs := cs) (e := .outgrown) h1 ha⟩
/-- A loop, by a number that goes down and that the frame and the world need not tell. -/
theorem wpN_loop_n {c : Code} (I : Nat → Act → World → Prop) (n0 : Nat) (h0 : I n0 a w) (round : ∀ n a w, I n a w → wpN P c (Exit.then (fun a' w' => ∃ m, m < n ∧ I m a' w') Q) a w) : wpN P (.loop c) Q a w := fun b k cs hb => by
  have key : ∀ n a w, I n a w → ∃ e a' w', Q e a' w' ∧ Arrives P (lone (b.at a (.code c :: .inLoop c :: k)) cs w) b k cs e a' w' := by
    intro n
    induction n using Nat.strongRecOn with
    | _ n ih =>
      intro a w hI
      obtain ⟨e, a1, w1, hq, ha⟩ := round n a w hI b (.inLoop c :: k) cs hb
      cases e with
      | normal =>
        obtain ⟨m, hm, hI1⟩ := hq
        obtain ⟨e2, a2, w2, hq2, ha2⟩ := ih m hm a1 w1 hI1
        exact ⟨e2, a2, w2, hq2, .of_steps (Steps.trans ha (.one step_inLoop)) ha2⟩
      | exit id => exact ⟨.exit id, a1, w1, hq, Arrives.pass (x := .inLoop c) rfl (fun _ _ => .inl (by simp)) ha⟩
      | goto l => exact ⟨.goto l, a1, w1, hq, Arrives.pass (x := .inLoop c) rfl (fun _ _ => .inl (by simp)) ha⟩
      | ret => exact ⟨.ret, a1, w1, hq, Arrives.pass (x := .inLoop c) rfl (fun _ _ => .inl (by simp)) ha⟩
      | panic ch => exact ⟨.panic ch, a1, w1, hq, Arrives.pass (x := .inLoop c) rfl (fun _ _ => .inl (by simp)) ha⟩
      | outgrown => exact ⟨.outgrown, a1, w1, hq, Arrives.pass (x := .inLoop c) rfl (fun _ _ => .inl (by simp)) ha⟩
  obtain ⟨e, a', w', hq, ha⟩ := key n0 a w h0
  exact ⟨e, a', w', hq, .of_steps (.one step_loop) ha⟩
theorem calls_of_wpN {f : FuncId} {fn : Func} {c : Code} {args : Array Value} {R : Ending → World → Prop} (hf : P.funcs[f]? = some fn) (hb : fn.body = some c)
    (h : wpN P c (bodyPost P fn R) { tmps := args ++ Array.replicate (fn.ntmps - args.size) undef, defers := [] } w) : Calls P f args w R := by
  intro cs
  let b : Frame := { (default : Frame) with fn := f, kind := .normal }
  have hen : Frame.enter P f args .normal = b.at { tmps := args ++ Array.replicate (fn.ntmps - args.size) undef, defers := [] } [.code c] := by simp [Frame.enter, Frame.at, hf, hb, b]
  obtain ⟨e, a', w', hq, ha⟩ := h b [] cs rfl
  rw [← hen] at ha
  cases e with
  | normal =>
    obtain ⟨hd, v, hr, hR⟩ := hq
    exact ⟨.returned v, w', _, hR, Steps.trans ha (.one step_end), rfl, rfl, hd, rfl, fn, hf, hr⟩
  | ret =>
    obtain ⟨hd, v, hr, hR⟩ := hq
    obtain ⟨todo, hs⟩ := ha
    exact ⟨.returned v, w', _, hR, hs, rfl, rfl, hd, rfl, fn, hf, hr⟩
  | panic chain =>
    obtain ⟨hd, hR⟩ := hq
    obtain ⟨todo, hs⟩ := ha
    exact ⟨.panicked chain, w', _, hR, hs, rfl, rfl, hd, fn, hf⟩
  | exit id => exact hq.elim
  | goto l => exact hq.elim
  | outgrown => exact ⟨.outgrown, w', b, hq, ha.resolve_left (by simp [b]), rfl, trivial⟩
end

/-- An operation that one step of the machine carries out: a communication that need not wait. -/
def Does (P : Program) (o : Oper) (a : Act) (w : World) (v : Value) (w' : World) : Prop :=
  ∀ (b : Frame) (k : List Item) (cs : List Frame) (ops : Array Oper) (i : Nat) (rest : List Nat), b.kind = .normal → ops[i]? = some o → Region.wanted o (yielded ops a.tmps) = true →
    step P (lone (b.at a (.inRegion ops (i :: rest) :: k)) cs w) = .next (lone (b.at (a.put o.dst v) (.inRegion ops rest :: k)) cs w')
section
variable {P : Program} {o : Oper} {a : Act} {w : World} {c cap s r : Nat} {buf : Array Value} {z z' v : Value} {tm closed : Bool}
theorem finish_put (b : Frame) (a : Act) (ops : Array Oper) (i : Nat) (rest : List Nat) (k : List Item) (v : Value) (ho : ops[i]? = some o) : (b.at a (.inRegion ops (i :: rest) :: k)).finish v = b.at (a.put o.dst v) (.inRegion ops rest :: k) := by
  rw [Frame.finish_at, ho]; rfl
theorem does_send (hr : (execOp a.eval o).run P w = .ok (.comm #[scase c v z'] true .send) w) (hc : w.heap[c]? = some (.chan cap buf false s r tm)) (hroom : buf.size < cap) : Does P o a w undef (w.setChan c cap (buf.push v) false (s + 1) r tm) := by
  intro b k cs ops i rest hb ho hw
  rw [← finish_put b a ops i rest k undef ho]
  exact step_lone_send_room (stepG_comm ho hw (by rw [hb]; simp) hr) hc hroom
theorem does_recv (hr : (execOp a.eval o).run P w = .ok (.comm #[rcase c z] false .select) w) (hc : w.heap[c]? = some (.chan cap buf closed s r tm)) (hsome : 0 < buf.size) : Does P o a w (.tuple #[goInt 0, .bool true, buf.getD 0 undef]) (w.setChan c cap (buf.extract 1 buf.size) closed s (r + 1) tm) := by
  intro b k cs ops i rest hb ho hw
  rw [← finish_put b a ops i rest k _ ho]
  exact step_lone_select_recv_buf (stepG_comm ho hw (by rw [hb]; simp) hr) hc hsome
theorem does_recv' {v : Value} (hv : buf.getD 0 undef = v) (hr : (execOp a.eval o).run P w = .ok (.comm #[rcase c z] false .select) w) (hc : w.heap[c]? = some (.chan cap buf closed s r tm)) (hsome : 0 < buf.size) : Does P o a w (.tuple #[goInt 0, .bool true, v]) (w.setChan c cap (buf.extract 1 buf.size) closed s (r + 1) tm) := hv ▸ does_recv hr hc hsome
theorem does_none (hr : (execOp a.eval o).run P w = .ok (.comm #[rcase c z] false .select) w) (hc : w.heap[c]? = some (.chan cap #[] false s r tm)) : Does P o a w (.tuple #[goInt (-1), .bool false, z]) w := by
  intro b k cs ops i rest hb ho hw
  rw [← finish_put b a ops i rest k _ ho]
  exact step_lone_select_default (stepG_comm ho hw (by rw [hb]; simp) hr) hc
end

/-- A stretch of a region's operations, each of which ends by a value or by nothing, or is a call that returns. -/
def onlyN (K : Act → World → Prop) : Exit → Act → World → Prop
  | .normal, a, w => K a w
  | _, _, _ => False
theorem upto {P : Program} {ops : Array Oper} {K : Act → World → Prop} (l ls : List Nat) : ∀ (a : Act) (w : World), wpOps P ops (onlyN K) l a w → ∀ (b : Frame) (k : List Item) (cs : List Frame),
    ∃ a' w', K a' w' ∧ Steps P (lone (b.at a (.inRegion ops (l ++ ls) :: k)) cs w) (lone (b.at a' (.inRegion ops ls :: k)) cs w') := by
  induction l with
  | nil => exact fun a w h b k cs => ⟨a, w, h, Steps.refl _ _⟩
  | cons i l ih =>
    intro a w h b k cs
    simp only [List.cons_append]
    simp only [wpOps] at h
    cases ho : ops[i]? with
    | none =>
      simp only [ho] at h
      obtain ⟨a', w', hk, hs⟩ := ih a w h b k cs
      have h1 := step_op_skip (P := P) (b := b) (a := a) (k := k) (cs := cs) (w := w) (ops := ops) (i := i) (rest := l ++ ls) (by simp [ho])
      simp only [ho, Option.bind_none, Act.put] at h1
      exact ⟨a', w', hk, .head h1 hs⟩
    | some o =>
      simp only [ho] at h
      by_cases hw : Region.wanted o (yielded ops a.tmps) = true
      · simp only [hw, if_true] at h
        have h0 := h.resolve_right (fun hh => by obtain ⟨_, _, _, hq⟩ := hh; exact hq)
        clear h
        unfold Oper.wp at h0
        have hg := stepG_op (P := P) (b := b) (k := k) (cs := cs) (w := w) (rest := l ++ ls) ho hw
        have hfin : ∀ (a1 : Act) v, (b.at a1 (.inRegion ops (i :: (l ++ ls)) :: k)).finish v = b.at (a1.put o.dst v) (.inRegion ops (l ++ ls) :: k) := fun a1 v => finish_put b a1 ops i (l ++ ls) k v ho
        generalize hr : (execOp a.eval o).run P w = res at h0
        unfold Oper.upon at h0
        split at h0
        · obtain ⟨a', w2, hk, hs⟩ := ih _ _ h0 b k cs
          refine ⟨a', w2, hk, .head (step_lone_go ?_) hs⟩
          rw [hg, ← hfin]; simp [stepG.apply, hr]
        · obtain ⟨a', w2, hk, hs⟩ := ih _ _ h0 b k cs
          refine ⟨a', w2, hk, .head (step_lone_go ?_) hs⟩
          rw [hg, ← hfin]; simp [stepG.apply, hr]
        · rename_i d w1
          obtain ⟨a', w2, hk, hs⟩ := ih _ _ h0 b k cs
          refine ⟨a', w2, hk, .head (step_lone_go ?_) hs⟩
          rw [hg, ← hfin]; simp [stepG.apply, hr, Frame.at]
        · rename_i f args w1
          obtain ⟨e, w2, fr, hR, hc, _, hl⟩ := h0 (b.at a (.inRegion ops (i :: (l ++ ls)) :: k) :: cs)
          have hen : step P (lone (b.at a (.inRegion ops (i :: (l ++ ls)) :: k)) cs w) = .next (lone (Frame.enter P f args .normal) (b.at a (.inRegion ops (i :: (l ++ ls)) :: k) :: cs) w1) :=
            step_lone_go (by rw [hg]; simp [stepG.apply, hr, Frame.at])
          cases e with
          | returned v =>
            obtain ⟨a', w3, hk, hs⟩ := ih _ _ hR b k cs
            refine ⟨a', w3, hk, .head hen (Steps.trans hc (.head ?_ hs))⟩
            rw [← hfin]; exact step_leave_returned hl
          | panicked ch => exact hR.elim
          | outgrown => obtain ⟨_, _, hq⟩ := hR; exact hq.elim
        · rename_i row args w1
          obtain ⟨v, w2, hR, hs1⟩ := h0 (b.at a (.inRegion ops (i :: (l ++ ls)) :: k)) cs
          have hen : step P (lone (b.at a (.inRegion ops (i :: (l ++ ls)) :: k)) cs w) = .next (lone (Frame.ofRow P row args .normal) (b.at a (.inRegion ops (i :: (l ++ ls)) :: k) :: cs) w1) :=
            step_lone_go (by rw [hg]; simp [stepG.apply, hr, Frame.at])
          obtain ⟨a', w3, hk, hs⟩ := ih _ _ hR b k cs
          refine ⟨a', w3, hk, .head hen (Steps.trans hs1 ?_)⟩
          rw [hfin]; exact hs
        · exact h0.elim
        · exact h0.elim
      · simp only [hw, if_false, Bool.false_eq_true] at h
        obtain ⟨a', w', hk, hs⟩ := ih _ _ h b k cs
        have h1 := step_op_skip (P := P) (b := b) (a := a) (k := k) (cs := cs) (w := w) (ops := ops) (i := i) (rest := l ++ ls) (by simp [ho]; simpa using hw)
        simp only [ho, Option.bind_some] at h1
        exact ⟨a', w', hk, .head h1 hs⟩

theorem pre_list {P : Program} {ops : Array Oper} {Q : Exit → Act → World → Prop} (l : List Oper) : ∀ k, (∀ j, j < l.length → l[j]? = ops[k + j]?) → wpOps P ops Q (List.range' k l.length) = wpList P ops Q l := by
  induction l with
  | nil => intro k _; funext a w; simp [wpOps, wpList]
  | cons o l ih =>
    intro k h
    have h0 : ops[k]? = some o := by simpa using (h 0 (by simp)).symm
    have ih' := ih (k + 1) (fun j hj => by have := h (j + 1) (by simpa using hj); simpa [Nat.add_assoc, Nat.add_comm 1 j] using this)
    funext a w
    simp only [List.length_cons, List.range'_succ, wpOps, h0, wpList, ih']
/-- A region of which one operation is a communication: what stands ahead of it ('lp'), it, what stands behind ('ls'). -/
theorem wpN_region {P : Program} {Q : Exit → Act → World → Prop} {a : Act} {w : World} {id : Nat} {ops : Array Oper} (lp ls : List Oper) (o : Oper) (hops : ops = (lp ++ o :: ls).toArray)
    (h : wpList P ops (onlyN fun a1 w1 => Region.wanted o (yielded ops a1.tmps) = true ∧ ∃ v w2, Does P o a1 w1 v w2 ∧ wpList P ops Q ls (a1.put o.dst v) w2) lp a w) : wpN P (.region id ops false) Q a w := by
  intro b k cs hb
  have hsz : ops.size = lp.length + (1 + ls.length) := by rw [hops]; simp; omega
  have e1 : List.range ops.size = List.range' 0 lp.length ++ lp.length :: List.range' (lp.length + 1) ls.length := by
    rw [List.range_eq_range', hsz, ← List.range'_append_1, Nat.zero_add, Nat.add_comm 1 ls.length, List.range'_succ]
  have ho : ops[lp.length]? = some o := by rw [hops]; simp
  rw [← pre_list lp 0 (fun j hj => ?_)] at h
  · obtain ⟨a1, w1, ⟨hwt, v, w2, hd, h2⟩, hs⟩ := upto (List.range' 0 lp.length) (lp.length :: List.range' (lp.length + 1) ls.length) a w h b k cs
    rw [← wpOps_eq_wpList ls (lp.length + 1) (fun j => ?_)] at h2
    · obtain ⟨e, a', w', hq, ha⟩ := wp_ops _ _ _ h2 b k cs
      refine ⟨e, a', w', hq, .of_steps (.head step_region ?_) ha⟩
      rw [e1]
      exact hs.trans (.one (hd b k cs ops _ _ hb ho hwt))
    · rw [hops]
      simp [List.getElem?_append_right, show lp.length ≤ lp.length + 1 + j by omega, show lp.length + 1 + j - lp.length = j + 1 by omega]
  · rw [hops, Nat.zero_add]
    simp [List.getElem?_append_left, hj]
end Go.Proofs.Ytdlfmobnmcamaaa.Q
namespace Go.Proofs.Ytdlfmobnmcamaaa.Q
open Go.RowKit Go.Conc Go.MapKept Go.ChangeMaps Go.Proofs.YtdlfmobnmcamaaaW.PrintWords Go.Proofs.YtdlfmobnmcamaaaW.PrintLast Go.Proofs.YtdlfmobnmcamaaaW.PrintMore
set_option linter.unusedVariables false
set_option linter.unusedSimpArgs false

/-- The entries of a map of literals, each true, in the order in which they were laid. -/
def tentsFrom (ks : List Int) (j : Nat) : List MapEntry := (ks.zipIdx j).map fun p => { key := .int .i64 p.1, val := .bool true, born := p.2 }
def tents (ks : List Int) : Array MapEntry := (tentsFrom ks 0).toArray
theorem tents_push (ks : List Int) (x : Int) : (tents ks).push { key := .int .i64 x, val := .bool true, born := ks.length } = tents (ks ++ [x]) := by
  simp [tents, tentsFrom, List.zipIdx_append]
theorem find_tents (y : Int) : ∀ (ks : List Int) (j i : Nat), ∃ r, Instr.findNow (.int .i64) (.int .i64 y) (tentsFrom ks j) i = some r ∧ (y ∈ ks → ∃ n, r = some (n, .bool true)) ∧ (y ∉ ks → r = none)
  | [], j, i => ⟨none, rfl, by simp, by simp⟩
  | x :: ks, j, i => by
    obtain ⟨r, h1, h2, h3⟩ := find_tents y ks (j + 1) (i + 1)
    by_cases e : y = x
    · subst e
      exact ⟨some (i, .bool true), by simp [tentsFrom, Instr.findNow, Instr.sameNow], fun _ => ⟨i, rfl⟩, fun h => absurd List.mem_cons_self h⟩
    · refine ⟨r, ?_, fun h => h2 ((List.mem_cons.1 h).resolve_left e), fun h => h3 (fun h' => h (List.mem_cons_of_mem _ h'))⟩
      simp only [tentsFrom] at h1
      simp [tentsFrom, Instr.findNow, Instr.sameNow, h1, (by simpa using e : (y == x) = false)]
theorem run_taken {w : World} {m : Nat} {ks : List Int} (h : w.heap[m]? = some (.map (tents ks) ks.length)) (y : Int) :
    (Instr.lookup 61 (.map (some m)) (.int .i64 y) false).run Try.prog w = .ok (.bool (decide (y ∈ ks))) w := by
  obtain ⟨r, h1, h2, h3⟩ := find_tents y ks 0 0
  have hk := run_findKey (P := Try.prog) (w := w) (kt := 3) (k := .int .i64 y) (l := (tents ks).toList) Try.underlying3 h1
  have hc : ∀ e, (Instr.checkKey e 10000 3 (.int .i64 y)).run Try.prog w = .ok () w := fun e => run_checkKey (P := Try.prog) (w := w) (kt := 3) (k := .int .i64 y) Try.underlying3 rfl e 9999
  unfold Instr.lookup
  simp only [Sem.run_bind, run_underlying Try.underlying61, Result.andThen, Go.MapKept.run_getObj_map (P := Try.prog) h, Sem.run_pure, hc, hk]
  by_cases hy : y ∈ ks
  · obtain ⟨n, rfl⟩ := h2 hy
    simp [hy]
  · rw [h3 hy]
    simp [hy, Result.andThen, Try.zeroValue4]
theorem run_take {w : World} {m : Nat} {ks : List Int} (h : w.heap[m]? = some (.map (tents ks) ks.length)) (y : Int) (hy : y ∉ ks) :
    (Instr.mapUpdate 61 (.map (some m)) (.int .i64 y) (.bool true)).run Try.prog w = .ok () (setBlock w m (.map (tents (ks ++ [y])) (ks ++ [y]).length)) := by
  obtain ⟨r, h1, h2, h3⟩ := find_tents y ks 0 0
  rw [h3 hy] at h1
  have hk := run_findKey (P := Try.prog) (w := w) (kt := 3) (k := .int .i64 y) (l := (tents ks).toList) Try.underlying3 h1
  have hc : ∀ e, (Instr.checkKey e 10000 3 (.int .i64 y)).run Try.prog w = .ok () w := fun e => run_checkKey (P := Try.prog) (w := w) (kt := 3) (k := .int .i64 y) Try.underlying3 rfl e 9999
  unfold Instr.mapUpdate
  simp only [Sem.run_bind, run_underlying Try.underlying61, Result.andThen, Go.MapKept.run_getObj_map (P := Try.prog) h, Sem.run_pure, hc, hk, Go.MapKept.run_setObj_map (P := Try.prog) _ h, tents_push]
  simp [setBlock]

/-- The state: its block, the map of what is taken, the channel. -/
structure Held (w : World) (S mT ch cap : Nat) (lv av : Value) (ks q : List Int) : Prop where
  st : w.heap[S]? = some (.cells #[lv, av, .map (some mT), .chan (some ch)] 64 (0, 0))
  tk : w.heap[mT]? = some (.map (tents ks) ks.length)
  qu : ∃ s r, w.heap[ch]? = some (.chan cap (nums .i64 q).toArray false s r false)
  st_tk : S ≠ mT
  st_qu : S ≠ ch
  tk_qu : mT ≠ ch
/-- Nothing has turned but two blocks. -/
structure But2 (b c : Nat) (w w' : World) : Prop where
  os : w'.os = w.os
  tape : w'.tape = w.tape
  output : w'.output = w.output
  size : w.heap.size ≤ w'.heap.size
  block : ∀ k, k < w.heap.size → k ≠ b → k ≠ c → w'.heap[k]? = w.heap[k]?
theorem But2.refl (b c : Nat) (w : World) : But2 b c w w := ⟨rfl, rfl, rfl, Nat.le_refl _, fun _ _ _ _ => rfl⟩
theorem But2.trans {b c : Nat} {w w1 w2 : World} (h : But2 b c w w1) (k : But2 b c w1 w2) : But2 b c w w2 :=
  ⟨k.os.trans h.os, k.tape.trans h.tape, k.output.trans h.output, Nat.le_trans h.size k.size, fun i hi h1 h2 => (k.block i (Nat.lt_of_lt_of_le hi h.size) h1 h2).trans (h.block i hi h1 h2)⟩
theorem But2.drewN {b c : Nat} {w w1 : World} (h : But2 b c w w1) (n : Nat) : But2 b c w (w1.drewN n) := ⟨h.os, h.tape, h.output, h.size, h.block⟩
theorem But2.below {B b c : Nat} {w0 w w1 : World} (h : Below B w0 w) (hs : B ≤ w.heap.size) (hb : B ≤ b) (hc : B ≤ c) (k : But2 b c w w1) : Below B w0 w1 :=
  ⟨k.os.trans h.os, k.tape.trans h.tape, k.output.trans h.output, Nat.le_trans h.size k.size, fun i hi => (k.block i (by omega) (by omega) (by omega)).trans (h.block i hi)⟩
theorem Held.drewN {w : World} {S mT ch cap : Nat} {lv av : Value} {ks q : List Int} (h : Held w S mT ch cap lv av ks q) (n : Nat) : Held (w.drewN n) S mT ch cap lv av ks q := ⟨h.st, h.tk, h.qu, h.st_tk, h.st_qu, h.tk_qu⟩

/-- What taking a literal does. -/
def takeOf (ks q : List Int) (x : Int) : Bool × List Int × List Int := if wrap64 (-x) ∈ ks then (false, ks, q) else if x ∈ ks then (true, ks, q) else (true, ks ++ [x], q ++ [x])

section
variable {w : World} {S mT ch cap : Nat} {lv av : Value} {ks q : List Int}
theorem Held.cells (h : Held w S mT ch cap lv av ks q) : w.cell? ⟨S, 0, none⟩ = some lv ∧ w.cell? ⟨S, 1, none⟩ = some av ∧ w.cell? ⟨S, 2, none⟩ = some (.map (some mT)) ∧ w.cell? ⟨S, 3, none⟩ = some (.chan (some ch)) :=
  ⟨by rw [blk_cell h.st]; rfl, by rw [blk_cell h.st]; rfl, by rw [blk_cell h.st]; rfl, by rw [blk_cell h.st]; rfl⟩
set_option maxHeartbeats 4000000 in
set_option maxRecDepth 100000 in
theorem take_any (x : Int) (h : Held w S mT ch cap lv av ks q) (hq : q.length < cap) :
    Calls Try.prog 49 #[.pointer (some ⟨S, 0, none⟩), .int .i64 x] w fun e w' => e = .returned (.bool (takeOf ks q x).1) ∧ Held w' S mT ch cap lv av (takeOf ks q x).2.1 (takeOf ks q x).2.2 ∧ But2 mT ch w w' := by
  have H := Aside0.mk h
  obtain ⟨_, _, h2, h3⟩ := h.cells
  have hl := run_taken h.tk
  have HQ := Aside0.mk hq
  clear h hq
  by_cases e1 : wrap64 (-x) ∈ ks
  · have HE : Aside0 (takeOf ks q x = (false, ks, q)) := ⟨by rw [takeOf, if_pos e1]⟩
    go_enter Try.func49, Try.ntmps49
    go_wp2_with fail
    go_ret
    exact ⟨by rw [HE.out]; rfl, by rw [HE.out]; exact H.out, But2.refl _ _ _⟩
  · by_cases e2 : x ∈ ks
    · have HE : Aside0 (takeOf ks q x = (true, ks, q)) := ⟨by rw [takeOf, if_neg e1, if_pos e2]⟩
      go_enter Try.func49, Try.ntmps49
      go_wp2_with fail
      go_ret
      exact ⟨by rw [HE.out]; rfl, by rw [HE.out]; exact H.out, But2.refl _ _ _⟩
    · have HE : Aside0 (takeOf ks q x = (true, ks ++ [x], q ++ [x])) := ⟨by rw [takeOf, if_neg e1, if_neg e2]⟩
      have hu := run_take H.out.tk x e2
      obtain ⟨w1, hw1⟩ : ∃ w1, setBlock w mT (.map (tents (ks ++ [x])) (ks ++ [x]).length) = w1 := ⟨_, rfl⟩
      rw [hw1] at hu
      obtain ⟨cs, cr, hc⟩ := H.out.qu
      have g1 : w1.heap[S]? = w.heap[S]? := by rw [← hw1]; exact (heap_set H.out.tk).2 S H.out.st_tk
      have g2 : w1.heap[mT]? = some (.map (tents (ks ++ [x])) (ks ++ [x]).length) := by rw [← hw1]; exact (heap_set H.out.tk).1
      have g3 : w1.heap[ch]? = w.heap[ch]? := by rw [← hw1]; exact (heap_set H.out.tk).2 ch (fun e => H.out.tk_qu e.symm)
      have k3 : w1.cell? ⟨S, 3, none⟩ = some (.chan (some ch)) := by rw [blk_cell (g1.trans H.out.st)]; rfl
      have HC : Aside0 (w1.heap[ch]? = some (.chan cap (nums .i64 q).toArray false cs cr false)) := ⟨g3.trans hc⟩
      have HD : Aside0 (Held (w1.setChan ch cap ((nums .i64 q).toArray.push (.int .i64 x)) false (cs + 1) cr false) S mT ch cap lv av (ks ++ [x]) (q ++ [x])) := ⟨{
        st := by rw [World.setChan, Array.getElem?_setIfInBounds_ne (fun e => H.out.st_qu e.symm)]; exact g1.trans H.out.st
        tk := by rw [World.setChan, Array.getElem?_setIfInBounds_ne (fun e => H.out.tk_qu e.symm)]; exact g2
        qu := ⟨cs + 1, cr, by rw [Go.Conc.heap_setChan _ _ _ _ _ _ _ _ (blk_lt HC.out)]; simp [nums]⟩
        st_tk := H.out.st_tk
        st_qu := H.out.st_qu
        tk_qu := H.out.tk_qu }⟩
      have HB : Aside0 (But2 mT ch w (w1.setChan ch cap ((nums .i64 q).toArray.push (.int .i64 x)) false (cs + 1) cr false)) := ⟨{
        os := by rw [← hw1]; rfl
        tape := by rw [← hw1]; rfl
        output := by rw [← hw1]; rfl
        size := by rw [← hw1]; simp [World.setChan, setBlock]
        block := fun k hk h1 h2 => by
          rw [World.setChan, Array.getElem?_setIfInBounds_ne (fun e => h2 e.symm), ← hw1]
          exact (heap_set H.out.tk).2 k h1 }⟩
      have HR : Aside0 ((nums .i64 q).toArray.size < cap) := ⟨by simpa [nums] using HQ.out⟩
      clear g1 g2 g3 hw1 hc
      refine calls_of_wpN Try.func49 rfl ?_
      simp only [Try.ntmps49, List.size_toArray, List.length_cons, List.length_nil, Nat.reduceAdd, Nat.reduceSub, Array.replicate_succ, Array.replicate_zero, List.push_toArray, List.append_toArray, List.nil_append, List.cons_append]
      refine wpN_seq' fun K1 hK1 => ?_
      go_wp2_with fail
      refine wpN_seq' fun K2 hK2 => ?_
      go_wp2_with fail
      refine wpN_seq ?_
      refine wpN_seq' fun K3 hK3 => ?_
      go_wp2_with fail
      refine wpN_cond true rfl ?_
      rw [if_pos rfl]
      refine wpN_seq' fun K4 hK4 => ?_
      go_wp2_with fail
      refine wpN_region [_, _, _, _, _] [] _ rfl ?_
      go_wp2_with fail
      refine ⟨_, _, does_send (z' := .tuple #[]) (by rfl) HC.out HR.out, ?_⟩
      refine wpN_of_wp ?_
      go_wp2_with fail
      go_ret
      exact ⟨by rw [HE.out]; rfl, by rw [HE.out]; exact HD.out, HB.out⟩
end
end Go.Proofs.Ytdlfmobnmcamaaa.Q
namespace Go.Proofs.Ytdlfmobnmcamaaa.Q
open Go.RowKit Go.Conc Go.MapKept Go.ChangeMaps Go.Proofs.YtdlfmobnmcamaaaW.PrintWords Go.Proofs.YtdlfmobnmcamaaaW.PrintLast Go.Proofs.YtdlfmobnmcamaaaW.PrintMore
set_option linter.unusedVariables false
set_option linter.unusedSimpArgs false

/-- What is left of a clause, from a place on: none: it is met, or has two literals that are open. -/
def scanOf (ks : List Int) : List Int → Int → Option Int
  | [], left => some left
  | x :: r, left => if x ∈ ks then none else if wrap64 (-x) ∈ ks then scanOf ks r left else if left ≠ 0 ∧ left ≠ x then none else scanOf ks r x
/-- What looking at a clause does. -/
def lookBy (ks q : List Int) : Option Int → Bool × List Int × List Int
  | none => (true, ks, q)
  | some left => if left = 0 then (false, ks, q) else takeOf ks q left
def lookOf (ks q : List Int) (c : List Int) : Bool × List Int × List Int := lookBy ks q (scanOf ks c 0)
theorem rd_at (l : List Int) (i : Nat) (h : i < l.length) : YtdlfmobnmcamaaaW.PrintWords.rd l (i : Int) = l[i] := by simp [YtdlfmobnmcamaaaW.PrintWords.rd, List.getD_eq_getElem?_getD, h]
theorem scan_at (ks l : List Int) (i : Nat) (h : i < l.length) (left : Int) : scanOf ks (l.drop i) left = if YtdlfmobnmcamaaaW.PrintWords.rd l (i : Int) ∈ ks then none else if wrap64 (-(YtdlfmobnmcamaaaW.PrintWords.rd l (i : Int))) ∈ ks then scanOf ks (l.drop (i + 1)) left else if left ≠ 0 ∧ left ≠ YtdlfmobnmcamaaaW.PrintWords.rd l (i : Int) then none else scanOf ks (l.drop (i + 1)) (YtdlfmobnmcamaaaW.PrintWords.rd l (i : Int)) := by
  rw [List.drop_eq_getElem_cons h, scanOf, rd_at l i h]
section
variable {w : World} {S mT ch cap : Nat} {lv av : Value} {ks q : List Int}
set_option maxHeartbeats 8000000 in
set_option maxRecDepth 100000 in
theorem look_any (A0 : Option Addr) (c0 : Nat) (l0 : List Int) (hr0 : Kd.C (Kd.int .i64) w A0 l0.length l0) (h : Held w S mT ch cap lv av ks q) (hq : q.length < cap) :
    Calls Try.prog 50 #[.pointer (some ⟨S, 0, none⟩), .slice A0 l0.length c0] w fun e w' => e = .returned (.bool (lookOf ks q l0).1) ∧ Held w' S mT ch cap lv av (lookOf ks q l0).2.1 (lookOf ks q l0).2.2 ∧ But2 mT ch w w' := by
  have H := Aside0.mk h
  obtain ⟨_, _, h2, h3⟩ := h.cells
  have hl := run_taken h.tk
  have HQ := Aside0.mk hq
  have HR0 := Aside0.mk hr0
  have hm : l0.length ≤ 9223372036854775807 := hr0.2.1
  obtain ⟨z, hz⟩ : ∃ z, scanOf ks l0 0 = z := ⟨_, rfl⟩
  obtain ⟨r, hr⟩ : ∃ r, lookOf ks q l0 = r := ⟨_, rfl⟩
  rw [hr]
  have HE : Aside0 (lookBy ks q z = r) := ⟨by rw [← hr, lookOf, hz]⟩
  have HZ := Aside0.mk hz
  clear h hq hz hr hr0
  go_enter Try.func50, Try.ntmps50
  go_wp2_with fail
  go_loopw [5, 10] (fun u v w' => ∃ (i : Nat) (left : Int), u = .int .i64 left ∧ v = .int .i64 (i : Int) ∧ Aside0 (scanOf ks (l0.drop i) left = z) ∧ i ≤ l0.length ∧ w' = w) (fun _ v _ => l0.length - (intOf v).toNat)
  case atStart => exact ⟨0, 0, rfl, rfl, ⟨by rw [List.drop_zero]; exact HZ.out⟩, by omega, rfl⟩
  case round =>
    obtain ⟨i, left, rfl, rfl, HI, hi, rfl⟩ := hrel
    by_cases hlt : i < l0.length
    · obtain ⟨ad, rfl, hx⟩ := Kd.at_int HR0.out (i : Int) (by omega) (by omega)
      rw [Int.toNat_natCast] at hx
      have hs := HI.out
      rw [scan_at ks l0 i hlt] at hs
      obtain ⟨x, ex⟩ : ∃ x, YtdlfmobnmcamaaaW.PrintWords.rd l0 (i : Int) = x := ⟨_, rfl⟩
      rw [ex] at hs hx
      clear ex HI
      by_cases e1 : x ∈ ks
      · rw [if_pos e1] at hs
        have HT : Aside0 (r = (true, ks, q)) := ⟨by rw [← HE.out, ← hs]; rfl⟩
        clear hs
        go_wp2_with fail
        go_ret
        exact ⟨by rw [HT.out]; rfl, by rw [HT.out]; exact H.out, But2.refl _ _ _⟩
      · rw [if_neg e1] at hs
        by_cases e2 : wrap64 (-x) ∈ ks
        · rw [if_pos e2] at hs
          have HS := Aside0.mk hs
          clear hs
          go_wp2_with fail
          go_roundw
          case rel => exact ⟨i + 1, left, rfl, by go_num, HS, by omega, trivial⟩
          case measure => simp [intOf]; omega
        · rw [if_neg e2] at hs
          by_cases e3 : left = 0
          · rw [if_neg (fun h => h.1 e3)] at hs
            have HS := Aside0.mk hs
            have e4 : (left != 0) = false := by simpa using e3
            clear hs e3
            go_wp2_with fail
            go_roundw
            case rel => exact ⟨i + 1, x, rfl, by go_num, HS, by omega, trivial⟩
            case measure => simp [intOf]; omega
          · have e4 : (left != 0) = true := by simpa using e3
            by_cases e5 : left = x
            · rw [if_neg (fun h => h.2 e5)] at hs
              have HS := Aside0.mk hs
              have e6 : (left != x) = false := by simpa using e5
              clear hs e3 e5
              go_wp2_with fail
              go_roundw
              case rel => exact ⟨i + 1, x, rfl, by go_num, HS, by omega, trivial⟩
              case measure => simp [intOf]; omega
            · rw [if_pos ⟨e3, e5⟩] at hs
              have HT : Aside0 (r = (true, ks, q)) := ⟨by rw [← HE.out, ← hs]; rfl⟩
              have e6 : (left != x) = true := by simpa using e5
              clear hs e3 e5
              go_wp2_with fail
              go_ret
              exact ⟨by rw [HT.out]; rfl, by rw [HT.out]; exact H.out, But2.refl _ _ _⟩
    · have hs := HI.out
      rw [List.drop_eq_nil_of_le (by omega), scanOf] at hs
      have hE := HE.out
      rw [← hs, lookBy] at hE
      by_cases e3 : left = 0
      · have e4 : (left != 0) = false := by simpa using e3
        simp only [e3, if_true] at hE
        have HT : Aside0 (r = (false, ks, q)) := ⟨hE.symm⟩
        clear hs e3 HE hE
        go_wp2_with fail
        go_ret
        exact ⟨by rw [HT.out]; rfl, by rw [HT.out]; exact H.out, But2.refl _ _ _⟩
      · have e4 : (left != 0) = true := by simpa using e3
        simp only [e3, if_false] at hE
        have HT : Aside0 (r = takeOf ks q left) := ⟨hE.symm⟩
        clear hs e3 HE hE
        go_wp2_with fail
        refine (take_any left H.out HQ.out).mono ?_
        rintro e w2 ⟨rfl, hh, hb⟩
        have HH := Aside0.mk hh
        have HB := Aside0.mk hb
        clear hh hb
        go_wp2_with fail
        go_ret
        exact ⟨by rw [HT.out]; rfl, by rw [HT.out]; exact HH.out, HB.out⟩
end
end Go.Proofs.Ytdlfmobnmcamaaa.Q
namespace Go.Proofs.Ytdlfmobnmcamaaa.Q
set_option linter.unusedVariables false
set_option linter.unusedSimpArgs false
open Go.RowKit

/-- The opposite. -/
def neg (x : Int) : Int := wrap64 (-x)
/-- A literal of any use. -/
def Lt (x : Int) : Prop := x ≠ 0 ∧ -4611686018427387904 < x ∧ x < 4611686018427387904
theorem neg_lt {x : Int} (h : Lt x) : neg x = -x := by unfold Lt at h; unfold neg wrap64; omega
theorem neg_Lt {x : Int} (h : Lt x) : Lt (neg x) := by rw [neg_lt h]; unfold Lt at *; omega
theorem neg_neg {x : Int} (h : Lt x) : neg (neg x) = x := by rw [neg_lt (neg_Lt h), neg_lt h]; omega
theorem neg_ne {x : Int} (h : Lt x) : neg x ≠ x := by rw [neg_lt h]; unfold Lt at h; omega

/-- What follows by units. -/
inductive Der (l : List (List Int)) (known : List Int) : Int → Prop
  | known {x : Int} : x ∈ known → Der l known x
  | unit {c : List Int} {x : Int} : c ∈ l → x ∈ c → (∀ y ∈ c, y ≠ x → Der l known (neg y)) → Der l known x
/-- A conflict. -/
def Conf (l : List (List Int)) (known : List Int) : Prop := (∃ x, Der l known x ∧ Der l known (neg x)) ∨ ∃ c ∈ l, ∀ y ∈ c, Der l known (neg y)
/-- Nothing is to be done at a clause. -/
def Good (ks c : List Int) : Prop := (∃ z ∈ c, z ∈ ks) ∨ ∃ y ∈ c, ∃ z ∈ c, y ≠ z ∧ neg y ∉ ks ∧ neg z ∉ ks

theorem scan_none (ks : List Int) : ∀ (c : List Int) (left : Int), scanOf ks c left = none → (∃ z ∈ c, z ∈ ks) ∨ (∃ y ∈ c, neg y ∉ ks ∧ left ≠ 0 ∧ left ≠ y) ∨ ∃ y ∈ c, ∃ z ∈ c, y ≠ z ∧ neg y ∉ ks ∧ neg z ∉ ks
  | [], left, h => by cases h
  | x :: r, left, h => by
    rw [scanOf] at h
    by_cases e1 : x ∈ ks
    · exact .inl ⟨x, List.mem_cons_self, e1⟩
    · rw [if_neg e1] at h
      by_cases e2 : wrap64 (-x) ∈ ks
      · rw [if_pos e2] at h
        rcases scan_none ks r left h with ⟨z, hz, hk⟩ | ⟨y, hy, hk⟩ | ⟨y, hy, z, hz, hk⟩
        · exact .inl ⟨z, List.mem_cons_of_mem _ hz, hk⟩
        · exact .inr (.inl ⟨y, List.mem_cons_of_mem _ hy, hk⟩)
        · exact .inr (.inr ⟨y, List.mem_cons_of_mem _ hy, z, List.mem_cons_of_mem _ hz, hk⟩)
      · rw [if_neg e2] at h
        by_cases e3 : left ≠ 0 ∧ left ≠ x
        · exact .inr (.inl ⟨x, List.mem_cons_self, e2, e3.1, e3.2⟩)
        · rw [if_neg e3] at h
          rcases scan_none ks r x h with ⟨z, hz, hk⟩ | ⟨y, hy, hk, _, hne⟩ | ⟨y, hy, z, hz, hk⟩
          · exact .inl ⟨z, List.mem_cons_of_mem _ hz, hk⟩
          · exact .inr (.inr ⟨x, List.mem_cons_self, y, List.mem_cons_of_mem _ hy, hne, e2, hk⟩)
          · exact .inr (.inr ⟨y, List.mem_cons_of_mem _ hy, z, List.mem_cons_of_mem _ hz, hk⟩)
theorem scan_some (ks : List Int) : ∀ (c : List Int) (left z : Int), (∀ y ∈ c, y ≠ 0) → scanOf ks c left = some z → (∀ y ∈ c, y ∉ ks) ∧ (∀ y ∈ c, neg y ∈ ks ∨ y = z) ∧ (z = left ∨ (z ∈ c ∧ neg z ∉ ks ∧ (left = 0 ∨ left = z)))
  | [], left, z, _, h => by
    have := Option.some.inj h
    exact ⟨by simp, by simp, .inl this.symm⟩
  | x :: r, left, z, h0, h => by
    rw [scanOf] at h
    have h0r : ∀ y ∈ r, y ≠ 0 := fun y hy => h0 y (List.mem_cons_of_mem _ hy)
    by_cases e1 : x ∈ ks
    · rw [if_pos e1] at h; cases h
    · rw [if_neg e1] at h
      by_cases e2 : wrap64 (-x) ∈ ks
      · rw [if_pos e2] at h
        obtain ⟨h1, h2, h3⟩ := scan_some ks r left z h0r h
        refine ⟨fun y hy => ?_, fun y hy => ?_, ?_⟩
        · rcases List.mem_cons.1 hy with rfl | hy
          · exact e1
          · exact h1 y hy
        · rcases List.mem_cons.1 hy with rfl | hy
          · exact .inl e2
          · exact h2 y hy
        · rcases h3 with h3 | ⟨h3, h4⟩
          · exact .inl h3
          · exact .inr ⟨List.mem_cons_of_mem _ h3, h4⟩
      · rw [if_neg e2] at h
        by_cases e3 : left ≠ 0 ∧ left ≠ x
        · rw [if_pos e3] at h; cases h
        · rw [if_neg e3] at h
          obtain ⟨h1, h2, h3⟩ := scan_some ks r x z h0r h
          have hx : x = z ∨ x = 0 := by
            rcases h3 with h3 | ⟨_, _, h5 | h5⟩
            · exact .inl h3.symm
            · exact .inr h5
            · exact .inl h5
          by_cases e4 : x = z
          · subst e4
            refine ⟨fun y hy => ?_, fun y hy => ?_, .inr ⟨List.mem_cons_self, e2, ?_⟩⟩
            · rcases List.mem_cons.1 hy with rfl | hy
              · exact e1
              · exact h1 y hy
            · rcases List.mem_cons.1 hy with rfl | hy
              · exact .inr rfl
              · exact h2 y hy
            · by_cases e5 : left = 0
              · exact .inl e5
              · exact .inr (Decidable.not_not.1 fun e6 => e3 ⟨e5, e6⟩)
          · exact absurd (hx.resolve_left e4) (h0 x List.mem_cons_self)

/-- Where the work stands: what is taken, how many of it have been looked after; 'todo': clauses that wait. -/
structure Inv (l : List (List Int)) (known : List Int) (todo : Nat → Prop) (ks : List Int) (p : Nat) : Prop where
  nodup : ks.Nodup
  der : ∀ x ∈ ks, Der l known x
  lt : ∀ x ∈ ks, Lt x
  of : ∀ x ∈ ks, x ∈ known ++ l.flatten
  con : ∀ x ∈ ks, neg x ∉ ks
  done : p ≤ ks.length
  good : ∀ i c, l[i]? = some c → todo i ∨ Good ks c ∨ ∃ x ∈ ks.drop p, neg x ∈ c
section
variable {l : List (List Int)} {known : List Int} {todo : Nat → Prop} {ks : List Int} {p : Nat}
theorem drop_push (ks : List Int) (p : Nat) (h : p ≤ ks.length) (x : Int) : (ks ++ [x]).drop p = ks.drop p ++ [x] := by
  rw [List.drop_append_of_le_length h]
theorem Inv.push (hL : ∀ c ∈ l, ∀ y ∈ c, Lt y) (I : Inv l known todo ks p) {x : Int} (hx : x ∉ ks) (hn : neg x ∉ ks) (hd : Der l known x) (hl : Lt x) (ho : x ∈ known ++ l.flatten) : Inv l known todo (ks ++ [x]) p where
  nodup := by
    rw [List.nodup_append]
    refine ⟨I.nodup, by simp, fun a ha b hb => ?_⟩
    simp at hb
    subst hb
    exact fun e => hx (e ▸ ha)
  der y hy := by
    rcases List.mem_append.1 hy with h | h
    · exact I.der y h
    · simp at h; subst h; exact hd
  lt y hy := by
    rcases List.mem_append.1 hy with h | h
    · exact I.lt y h
    · simp at h; subst h; exact hl
  of y hy := by
    rcases List.mem_append.1 hy with h | h
    · exact I.of y h
    · simp at h; subst h; exact ho
  con y hy := by
    intro hc
    rcases List.mem_append.1 hy with h | h
    · rcases List.mem_append.1 hc with k | k
      · exact I.con y h k
      · simp at k
        apply hn
        rw [← k, neg_neg (I.lt y h)]
        exact h
    · simp at h
      subst h
      rcases List.mem_append.1 hc with k | k
      · exact hn k
      · simp at k
        exact neg_ne hl k
  done := by simp; have := I.done; omega
  good i c hc := by
    rw [drop_push ks p I.done]
    rcases I.good i c hc with h | h | ⟨y, hy, hyc⟩
    · exact .inl h
    · right
      rcases h with ⟨z, hz, hk⟩ | ⟨y, hy, z, hz, hne, h1, h2⟩
      · exact .inl (.inl ⟨z, hz, List.mem_append_left _ hk⟩)
      · by_cases e1 : neg y = x
        · exact .inr ⟨x, by simp, by rw [← e1, neg_neg (hL c (List.mem_of_getElem? hc) y hy)]; exact hy⟩
        · by_cases e2 : neg z = x
          · exact .inr ⟨x, by simp, by rw [← e2, neg_neg (hL c (List.mem_of_getElem? hc) z hz)]; exact hz⟩
          · exact .inl (.inr ⟨y, hy, z, hz, hne, fun h => (List.mem_append.1 h).elim h1 (fun h => e1 (by simpa using h)), fun h => (List.mem_append.1 h).elim h2 (fun h => e2 (by simpa using h))⟩)
    · exact .inr (.inr ⟨y, List.mem_append_left _ hy, hyc⟩)
theorem take_sub (ks q : List Int) (z : Int) : ∀ x ∈ ks, x ∈ (takeOf ks q z).2.1 := fun x hx => by
  unfold takeOf
  split
  · exact hx
  · split
    · exact hx
    · exact List.mem_append_left _ hx
theorem look_sub (ks q c : List Int) : ∀ x ∈ ks, x ∈ (lookOf ks q c).2.1 := fun x hx => by
  unfold lookOf lookBy
  split
  · exact hx
  · split
    · exact hx
    · exact take_sub ks q _ x hx
theorem Inv.fewer (I : Inv l known todo ks p) {todo' : Nat → Prop} (h : ∀ i c, l[i]? = some c → todo i → todo' i ∨ Good ks c) : Inv l known todo' ks p :=
  ⟨I.nodup, I.der, I.lt, I.of, I.con, I.done, fun i c hc => by
    rcases I.good i c hc with k | k | k
    · rcases h i c hc k with k | k
      · exact .inl k
      · exact .inr (.inl k)
    · exact .inr (.inl k)
    · exact .inr (.inr k)⟩
/-- A look at a clause. -/
theorem Inv.look (hL : ∀ c ∈ l, ∀ y ∈ c, Lt y) (I : Inv l known todo ks p) {i : Nat} {c : List Int} (hc : l[i]? = some c) :
    ((lookOf ks (ks.drop p) c).1 = false → Conf l known) ∧ ((lookOf ks (ks.drop p) c).1 = true → (lookOf ks (ks.drop p) c).2.2 = (lookOf ks (ks.drop p) c).2.1.drop p ∧ Inv l known (fun j => todo j ∧ j ≠ i) (lookOf ks (ks.drop p) c).2.1 p) := by
  have hcl := List.mem_of_getElem? hc
  have h0 : ∀ y ∈ c, y ≠ 0 := fun y hy => (hL c hcl y hy).1
  unfold lookOf
  cases hs : scanOf ks c 0 with
  | none =>
    refine ⟨fun h => (by cases h), fun _ => ⟨rfl, I.fewer fun j d hd hj => ?_⟩⟩
    by_cases e : j = i
    · subst e
      rw [hc] at hd
      cases hd
      refine .inr ?_
      rcases scan_none ks c 0 hs with h | ⟨_, _, _, h, _⟩ | h
      · exact .inl h
      · exact absurd rfl h
      · exact .inr h
    · exact .inl ⟨hj, e⟩
  | some z =>
    obtain ⟨h1, h2, h3⟩ := scan_some ks c 0 z h0 hs
    by_cases hz : z = 0
    · subst hz
      refine ⟨fun _ => .inr ⟨c, hcl, fun y hy => I.der _ ((h2 y hy).resolve_right (h0 y hy))⟩, fun h => ?_⟩
      simp [lookBy] at h
    · obtain ⟨hzc, hnz, _⟩ := h3.resolve_left hz
      have e : lookBy ks (ks.drop p) (some z) = (true, ks ++ [z], ks.drop p ++ [z]) := by
        rw [lookBy, if_neg hz, takeOf, if_neg (show ¬ wrap64 (-z) ∈ ks from hnz), if_neg (h1 z hzc)]
      rw [e]
      refine ⟨fun h => (by cases h), fun _ => ⟨(drop_push ks p I.done z).symm, ?_⟩⟩
      have I2 := I.push hL (h1 z hzc) hnz (.unit hcl hzc fun y hy hne => I.der _ ((h2 y hy).resolve_right hne)) (hL c hcl z hzc) (List.mem_append_right _ (List.mem_flatten.2 ⟨c, hcl, hzc⟩))
      refine I2.fewer fun j d hd hj => ?_
      by_cases e : j = i
      · subst e
        rw [hc] at hd
        cases hd
        exact .inr (.inl ⟨z, hzc, by simp⟩)
      · exact .inl ⟨hj, e⟩
/-- Taking what is known. -/
theorem Inv.take (hL : ∀ c ∈ l, ∀ y ∈ c, Lt y) (I : Inv l known todo ks p) {x : Int} (hx : x ∈ known) (hl : Lt x) :
    ((takeOf ks (ks.drop p) x).1 = false → Conf l known) ∧ ((takeOf ks (ks.drop p) x).1 = true → (takeOf ks (ks.drop p) x).2.2 = (takeOf ks (ks.drop p) x).2.1.drop p ∧ Inv l known todo (takeOf ks (ks.drop p) x).2.1 p ∧ x ∈ (takeOf ks (ks.drop p) x).2.1 ∧ ∀ y ∈ ks, y ∈ (takeOf ks (ks.drop p) x).2.1) := by
  unfold takeOf
  by_cases e1 : wrap64 (-x) ∈ ks
  · rw [if_pos e1]
    exact ⟨fun _ => .inl ⟨x, .known hx, I.der _ e1⟩, fun h => (by cases h)⟩
  · rw [if_neg e1]
    by_cases e2 : x ∈ ks
    · rw [if_pos e2]
      exact ⟨fun h => (by cases h), fun _ => ⟨rfl, I, e2, fun _ h => h⟩⟩
    · rw [if_neg e2]
      exact ⟨fun h => (by cases h), fun _ => ⟨(drop_push ks p I.done x).symm, I.push hL e2 e1 (.known hx) hl (List.mem_append_left _ hx), by simp, fun y hy => List.mem_append_left _ hy⟩⟩
theorem Inv.pop (I : Inv l known (fun _ => False) ks p) {x : Int} {r : List Int} (h : ks.drop p = x :: r) : ks.drop (p + 1) = r ∧ Inv l known (fun i => ∃ c, l[i]? = some c ∧ neg x ∈ c) ks (p + 1) := by
  have hr : ks.drop (p + 1) = r := by rw [← List.drop_drop, h]; rfl
  have hp : p < ks.length := by
    rcases Nat.lt_or_ge p ks.length with h' | h'
    · exact h'
    · rw [List.drop_eq_nil_of_le h'] at h; cases h
  refine ⟨hr, ⟨I.nodup, I.der, I.lt, I.of, I.con, hp, fun i c hc => ?_⟩⟩
  rcases I.good i c hc with k | k | ⟨y, hy, hyc⟩
  · exact k.elim
  · exact .inr (.inl k)
  · rw [h] at hy
    rcases List.mem_cons.1 hy with e | hy
    · subst e; exact .inl ⟨c, hc, hyc⟩
    · exact .inr (.inr ⟨y, by rw [hr]; exact hy, hyc⟩)
/-- The end: what is taken is what follows, and there is no conflict. -/
theorem Inv.last (hL : ∀ c ∈ l, ∀ y ∈ c, Lt y) (I : Inv l known (fun _ => False) ks p) (hp : ks.drop p = []) (hk : ∀ x ∈ known, x ∈ ks) : (∀ x, Der l known x ↔ x ∈ ks) ∧ ¬ Conf l known := by
  have hg : ∀ c ∈ l, Good ks c := fun c hc => by
    obtain ⟨i, hi⟩ := List.getElem?_of_mem hc
    rcases I.good i c hi with k | k | ⟨y, hy, _⟩
    · exact k.elim
    · exact k
    · rw [hp] at hy; cases hy
  have no : ∀ z, z ∈ ks → neg z ∈ ks → False := fun z h h' => I.con z h h'
  have hd : ∀ x, Der l known x → x ∈ ks := by
    intro x h
    induction h with
    | known h => exact hk _ h
    | @unit c x hc hx _ ih =>
      rcases hg c hc with ⟨z, hz, hzk⟩ | ⟨y, hy, z, hz, hne, h1, h2⟩
      · by_cases e : z = x
        · exact e ▸ hzk
        · exact (no z hzk (ih z hz e)).elim
      · by_cases e : y = x
        · exact absurd (ih z hz (fun e' => hne (e.trans e'.symm))) h2
        · exact absurd (ih y hy e) h1
  refine ⟨fun x => ⟨hd x, I.der x⟩, ?_⟩
  rintro (⟨x, h1, h2⟩ | ⟨c, hc, h⟩)
  · exact no x (hd x h1) (hd _ h2)
  · rcases hg c hc with ⟨z, hz, hzk⟩ | ⟨y, hy, z, hz, hne, h1, h2⟩
    · exact no z hzk (hd _ (h z hz))
    · exact h1 (hd _ (h y hy))
end
end Go.Proofs.Ytdlfmobnmcamaaa.Q
