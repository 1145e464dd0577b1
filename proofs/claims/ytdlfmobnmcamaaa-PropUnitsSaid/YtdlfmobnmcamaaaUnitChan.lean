/- Communication in one goroutine inside the kit's walk: a walk of a code whose frame is an ordinary one ('wpN'), with rules that join it to the kit's own walk ('Code.wp'). Written for this claim. -/
import Derived.Test.YtdlfmobnmcamaaaQx0
import Derived.Conc.LoneCalls
import Derived.Conc.LoneSelect
namespace Go.Proofs.Ytdlfmobnmcamaaa.Q
set_option linter.unusedVariables false
set_option linter.unusedSimpArgs false
open Go.RowKit Go.Conc

/-- As 'Code.wp', for ordinary frames alone. -/
def wpN (P : Program) (c : Code) (Q : Exit → Act → World → Prop) (a : Act) (w : World) : Prop :=
  ∀ (b : Frame) (k : List Item) (cs : List Frame), b.kind = .normal →
    ∃ e a' w', Q e a' w' ∧ Arrives P (lone (b.at a (.code c :: k)) cs w) b k cs e a' w'

section
variable {P : Program} {Q : Exit → Act → World → Prop} {a : Act} {w : World}
theorem wpN_of_wp {c : Code} (h : c.wp P Q a w) : wpN P c Q a w := fun b k cs _ => h b k cs
theorem wpN_seq {x y : Code} (h : wpN P x (Exit.then (wpN P y Q) Q) a w) : wpN P (.seq x y) Q a w := fun b k cs hb => by
  obtain ⟨e, a1, w1, hq, ha⟩ := h b (.code y :: k) cs hb
  have h1 : Steps P (lone (b.at a (.code (.seq x y) :: k)) cs w) (lone (b.at a (.code x :: .code y :: k)) cs w) := .one step_seq
  cases e with
  | normal =>
    obtain ⟨e2, a2, w2, hq2, ha2⟩ := hq b k cs hb
    exact ⟨e2, a2, w2, hq2, .of_steps (h1.trans ha) ha2⟩
  | exit id => exact ⟨.exit id, a1, w1, hq, .of_steps h1 (Arrives.pass (x := .code y) rfl (fun _ _ => .inl (by simp)) ha)⟩
  | goto l => exact ⟨.goto l, a1, w1, hq, .of_steps h1 (Arrives.pass (x := .code y) rfl (fun _ _ => .inl (by simp)) ha)⟩
  | ret => exact ⟨.ret, a1, w1, hq, .of_steps h1 (Arrives.pass (x := .code y) rfl (fun _ _ => .inl (by simp)) ha)⟩
  | panic ch => exact ⟨.panic ch, a1, w1, hq, .of_steps h1 (Arrives.pass (x := .code y) rfl (fun _ _ => .inl (by simp)) ha)⟩
  | outgrown => exact ⟨.outgrown, a1, w1, hq, .of_steps h1 (Arrives.pass (x := .code y) rfl (fun _ _ => .inl (by simp)) ha)⟩
/-- The first half by the kit's walk. -/
theorem wpN_seq' {x y : Code} (h : ∀ K : Act → World → Prop, (∀ a w, wpN P y Q a w → K a w) → x.wp P (Exit.then K Q) a w) : wpN P (.seq x y) Q a w := wpN_seq (wpN_of_wp (h _ fun _ _ h => h))
theorem wpN_cond {c : Operand} {x y : Code} (t : Bool) (hc : a.eval c = .bool t) (h : wpN P (if t then x else y) Q a w) : wpN P (.cond c x y) Q a w := fun b k cs hb => by
  obtain ⟨e, a', w', q, r⟩ := h b k cs hb
  exact ⟨e, a', w', q, .of_steps (.one (step_cond hc)) r⟩
theorem wpN_block {id : Nat} {c : Code} (h : wpN P c (Exit.inBlock id Q) a w) : wpN P (.block id c) Q a w := fun b k cs hb => by
  obtain ⟨e, a1, w1, hq, ha⟩ := h b (.inBlock id :: k) cs hb
  have h1 : Steps P (lone (b.at a (.code (.block id c) :: k)) cs w) (lone (b.at a (.code c :: .inBlock id :: k)) cs w) := .one step_block
  cases e with
  | normal => exact ⟨.normal, a1, w1, hq, h1.trans (Steps.trans ha (.one step_inBlock))⟩
  | exit id' =>
    by_cases hid : id' = id
    · subst hid
      simp only [Exit.inBlock, if_true] at hq
      exact ⟨.normal, a1, w1, hq, h1.trans (ha k (by simp [exitTo]))⟩
    · simp only [Exit.inBlock, hid, if_false] at hq
      refine ⟨.exit id', a1, w1, hq, fun k' hk => h1.trans (ha k' ?_)⟩
      have : (id == id') = false := by simpa using fun e : id = id' => hid e.symm
      simp [exitTo, this, hk]
  | goto l => exact ⟨.goto l, a1, w1, hq, fun k' hk => h1.trans (ha k' (by simp [gotoIn, hk]))⟩
  | ret => exact ⟨.ret, a1, w1, hq, .of_steps h1 ha⟩
  | panic ch => exact ⟨.panic ch, a1, w1, hq, .of_steps h1 ha⟩
  | outgrown => exact ⟨.outgrown, a1, w1, hq, .of_steps (b := b) (k := k) (cs := cs) (e := .outgrown) h1 ha⟩
/-- A loop, by a number that goes down and that the frame and the world need not tell. -/
theorem wpN_loop_n {c : Code} (I : Nat → Act → World → Prop) (n0 : Nat) (h0 : I n0 a w) (round : ∀ n a w, I n a w → wpN P c (Exit.then (fun a' w' => ∃ m, m < n ∧ I m a' w') Q) a w) : wpN P (.loop c) Q a w := fun b k cs hb => by
  have key : ∀ n a w, I n a w → ∃ e a' w', Q e a' w' ∧ Arrives P (lone (b.at a (.code c :: .inLoop c :: k)) cs w) b k cs e a' w' := by
    intro n
    induction n using Nat.strongRecOn with
    | _ n ih =>
      intro a w hI
      obtain ⟨e, a1, w1, hq, ha⟩ := round n a w hI b (.inLoop c :: k) cs hb
      cases e with
      | normal =>
        obtain ⟨m, hm, hI1⟩ := hq
        obtain ⟨e2, a2, w2, hq2, ha2⟩ := ih m hm a1 w1 hI1
        exact ⟨e2, a2, w2, hq2, .of_steps (Steps.trans ha (.one step_inLoop)) ha2⟩
      | exit id => exact ⟨.exit id, a1, w1, hq, Arrives.pass (x := .inLoop c) rfl (fun _ _ => .inl (by simp)) ha⟩
      | goto l => exact ⟨.goto l, a1, w1, hq, Arrives.pass (x := .inLoop c) rfl (fun _ _ => .inl (by simp)) ha⟩
      | ret => exact ⟨.ret, a1, w1, hq, Arrives.pass (x := .inLoop c) rfl (fun _ _ => .inl (by simp)) ha⟩
      | panic ch => exact ⟨.panic ch, a1, w1, hq, Arrives.pass (x := .inLoop c) rfl (fun _ _ => .inl (by simp)) ha⟩
      | outgrown => exact ⟨.outgrown, a1, w1, hq, Arrives.pass (x := .inLoop c) rfl (fun _ _ => .inl (by simp)) ha⟩
  obtain ⟨e, a', w', hq, ha⟩ := key n0 a w h0
  exact ⟨e, a', w', hq, .of_steps (.one step_loop) ha⟩
theorem calls_of_wpN {f : FuncId} {fn : Func} {c : Code} {args : Array Value} {R : Ending → World → Prop} (hf : P.funcs[f]? = some fn) (hb : fn.body = some c)
    (h : wpN P c (bodyPost P fn R) { tmps := args ++ Array.replicate (fn.ntmps - args.size) undef, defers := [] } w) : Calls P f args w R := by
  intro cs
  let b : Frame := { (default : Frame) with fn := f, kind := .normal }
  have hen : Frame.enter P f args .normal = b.at { tmps := args ++ Array.replicate (fn.ntmps - args.size) undef, defers := [] } [.code c] := by simp [Frame.enter, Frame.at, hf, hb, b]
  obtain ⟨e, a', w', hq, ha⟩ := h b [] cs rfl
  rw [← hen] at ha
  cases e with
  | normal =>
    obtain ⟨hd, v, hr, hR⟩ := hq
    exact ⟨.returned v, w', _, hR, Steps.trans ha (.one step_end), rfl, rfl, hd, rfl, fn, hf, hr⟩
  | ret =>
    obtain ⟨hd, v, hr, hR⟩ := hq
    obtain ⟨todo, hs⟩ := ha
    exact ⟨.returned v, w', _, hR, hs, rfl, rfl, hd, rfl, fn, hf, hr⟩
  | panic chain =>
    obtain ⟨hd, hR⟩ := hq
    obtain ⟨todo, hs⟩ := ha
    exact ⟨.panicked chain, w', _, hR, hs, rfl, rfl, hd, fn, hf⟩
  | exit id => exact hq.elim
  | goto l => exact hq.elim
  | outgrown => exact ⟨.outgrown, w', b, hq, ha.resolve_left (by simp [b]), rfl, trivial⟩
end

/-- An operation that one step of the machine carries out: a communication that need not wait. -/
def Does (P : Program) (o : Oper) (a : Act) (w : World) (v : Value) (w' : World) : Prop :=
  ∀ (b : Frame) (k : List Item) (cs : List Frame) (ops : Array Oper) (i : Nat) (rest : List Nat), b.kind = .normal → ops[i]? = some o → Region.wanted o (yielded ops a.tmps) = true →
    step P (lone (b.at a (.inRegion ops (i :: rest) :: k)) cs w) = .next (lone (b.at (a.put o.dst v) (.inRegion ops rest :: k)) cs w')
section
variable {P : Program} {o : Oper} {a : Act} {w : World} {c cap s r : Nat} {buf : Array Value} {z z' v : Value} {tm closed : Bool}
theorem finish_put (b : Frame) (a : Act) (ops : Array Oper) (i : Nat) (rest : List Nat) (k : List Item) (v : Value) (ho : ops[i]? = some o) : (b.at a (.inRegion ops (i :: rest) :: k)).finish v = b.at (a.put o.dst v) (.inRegion ops rest :: k) := by
  rw [Frame.finish_at, ho]; rfl
theorem does_send (hr : (execOp a.eval o).run P w = .ok (.comm #[scase c v z'] true .send) w) (hc : w.heap[c]? = some (.chan cap buf false s r tm)) (hroom : buf.size < cap) : Does P o a w undef (w.setChan c cap (buf.push v) false (s + 1) r tm) := by
  intro b k cs ops i rest hb ho hw
  rw [← finish_put b a ops i rest k undef ho]
  exact step_lone_send_room (stepG_comm ho hw (by rw [hb]; simp) hr) hc hroom
theorem does_recv (hr : (execOp a.eval o).run P w = .ok (.comm #[rcase c z] false .select) w) (hc : w.heap[c]? = some (.chan cap buf closed s r tm)) (hsome : 0 < buf.size) : Does P o a w (.tuple #[goInt 0, .bool true, buf.getD 0 undef]) (w.setChan c cap (buf.extract 1 buf.size) closed s (r + 1) tm) := by
  intro b k cs ops i rest hb ho hw
  rw [← finish_put b a ops i rest k _ ho]
  exact step_lone_select_recv_buf (stepG_comm ho hw (by rw [hb]; simp) hr) hc hsome
theorem does_recv' {v : Value} (hv : buf.getD 0 undef = v) (hr : (execOp a.eval o).run P w = .ok (.comm #[rcase c z] false .select) w) (hc : w.heap[c]? = some (.chan cap buf closed s r tm)) (hsome : 0 < buf.size) : Does P o a w (.tuple #[goInt 0, .bool true, v]) (w.setChan c cap (buf.extract 1 buf.size) closed s (r + 1) tm) := hv ▸ does_recv hr hc hsome
theorem does_none (hr : (execOp a.eval o).run P w = .ok (.comm #[rcase c z] false .select) w) (hc : w.heap[c]? = some (.chan cap #[] false s r tm)) : Does P o a w (.tuple #[goInt (-1), .bool false, z]) w := by
  intro b k cs ops i rest hb ho hw
  rw [← finish_put b a ops i rest k _ ho]
  exact step_lone_select_default (stepG_comm ho hw (by rw [hb]; simp) hr) hc
end

/-- A stretch of a region's operations, each of which ends by a value or by nothing, or is a call that returns. -/
def onlyN (K : Act → World → Prop) : Exit → Act → World → Prop
  | .normal, a, w => K a w
  | _, _, _ => False
theorem upto {P : Program} {ops : Array Oper} {K : Act → World → Prop} (l ls : List Nat) : ∀ (a : Act) (w : World), wpOps P ops (onlyN K) l a w → ∀ (b : Frame) (k : List Item) (cs : List Frame),
    ∃ a' w', K a' w' ∧ Steps P (lone (b.at a (.inRegion ops (l ++ ls) :: k)) cs w) (lone (b.at a' (.inRegion ops ls :: k)) cs w') := by
  induction l with
  | nil => exact fun a w h b k cs => ⟨a, w, h, Steps.refl _ _⟩
  | cons i l ih =>
    intro a w h b k cs
    simp only [List.cons_append]
    simp only [wpOps] at h
    cases ho : ops[i]? with
    | none =>
      simp only [ho] at h
      obtain ⟨a', w', hk, hs⟩ := ih a w h b k cs
      have h1 := step_op_skip (P := P) (b := b) (a := a) (k := k) (cs := cs) (w := w) (ops := ops) (i := i) (rest := l ++ ls) (by simp [ho])
      simp only [ho, Option.bind_none, Act.put] at h1
      exact ⟨a', w', hk, .head h1 hs⟩
    | some o =>
      simp only [ho] at h
      by_cases hw : Region.wanted o (yielded ops a.tmps) = true
      · simp only [hw, if_true] at h
        have h0 := h.resolve_right (fun hh => by obtain ⟨_, _, _, hq⟩ := hh; exact hq)
        clear h
        unfold Oper.wp at h0
        have hg := stepG_op (P := P) (b := b) (k := k) (cs := cs) (w := w) (rest := l ++ ls) ho hw
        have hfin : ∀ (a1 : Act) v, (b.at a1 (.inRegion ops (i :: (l ++ ls)) :: k)).finish v = b.at (a1.put o.dst v) (.inRegion ops (l ++ ls) :: k) := fun a1 v => finish_put b a1 ops i (l ++ ls) k v ho
        generalize hr : (execOp a.eval o).run P w = res at h0
        unfold Oper.upon at h0
        split at h0
        · obtain ⟨a', w2, hk, hs⟩ := ih _ _ h0 b k cs
          refine ⟨a', w2, hk, .head (step_lone_go ?_) hs⟩
          rw [hg, ← hfin]; simp [stepG.apply, hr]
        · obtain ⟨a', w2, hk, hs⟩ := ih _ _ h0 b k cs
          refine ⟨a', w2, hk, .head (step_lone_go ?_) hs⟩
          rw [hg, ← hfin]; simp [stepG.apply, hr]
        · rename_i d w1
          obtain ⟨a', w2, hk, hs⟩ := ih _ _ h0 b k cs
          refine ⟨a', w2, hk, .head (step_lone_go ?_) hs⟩
          rw [hg, ← hfin]; simp [stepG.apply, hr, Frame.at]
        · rename_i f args w1
          obtain ⟨e, w2, fr, hR, hc, _, hl⟩ := h0 (b.at a (.inRegion ops (i :: (l ++ ls)) :: k) :: cs)
          have hen : step P (lone (b.at a (.inRegion ops (i :: (l ++ ls)) :: k)) cs w) = .next (lone (Frame.enter P f args .normal) (b.at a (.inRegion ops (i :: (l ++ ls)) :: k) :: cs) w1) :=
            step_lone_go (by rw [hg]; simp [stepG.apply, hr, Frame.at])
          cases e with
          | returned v =>
            obtain ⟨a', w3, hk, hs⟩ := ih _ _ hR b k cs
            refine ⟨a', w3, hk, .head hen (Steps.trans hc (.head ?_ hs))⟩
            rw [← hfin]; exact step_leave_returned hl
          | panicked ch => exact hR.elim
          | outgrown => obtain ⟨_, _, hq⟩ := hR; exact hq.elim
        · rename_i row args w1
          obtain ⟨v, w2, hR, hs1⟩ := h0 (b.at a (.inRegion ops (i :: (l ++ ls)) :: k)) cs
          have hen : step P (lone (b.at a (.inRegion ops (i :: (l ++ ls)) :: k)) cs w) = .next (lone (Frame.ofRow P row args .normal) (b.at a (.inRegion ops (i :: (l ++ ls)) :: k) :: cs) w1) :=
            step_lone_go (by rw [hg]; simp [stepG.apply, hr, Frame.at])
          obtain ⟨a', w3, hk, hs⟩ := ih _ _ hR b k cs
          refine ⟨a', w3, hk, .head hen (Steps.trans hs1 ?_)⟩
          rw [hfin]; exact hs
        · exact h0.elim
        · exact h0.elim
      · simp only [hw, if_false, Bool.false_eq_true] at h
        obtain ⟨a', w', hk, hs⟩ := ih _ _ h b k cs
        have h1 := step_op_skip (P := P) (b := b) (a := a) (k := k) (cs := cs) (w := w) (ops := ops) (i := i) (rest := l ++ ls) (by simp [ho]; simpa using hw)
        simp only [ho, Option.bind_some] at h1
        exact ⟨a', w', hk, .head h1 hs⟩

theorem pre_list {P : Program} {ops : Array Oper} {Q : Exit → Act → World → Prop} (l : List Oper) : ∀ k, (∀ j, j < l.length → l[j]? = ops[k + j]?) → wpOps P ops Q (List.range' k l.length) = wpList P ops Q l := by
  induction l with
  | nil => intro k _; funext a w; simp [wpOps, wpList]
  | cons o l ih =>
    intro k h
    have h0 : ops[k]? = some o := by simpa using (h 0 (by simp)).symm
    have ih' := ih (k + 1) (fun j hj => by have := h (j + 1) (by simpa using hj); simpa [Nat.add_assoc, Nat.add_comm 1 j] using this)
    funext a w
    simp only [List.length_cons, List.range'_succ, wpOps, h0, wpList, ih']
/-- A region of which one operation is a communication: what stands ahead of it ('lp'), it, what stands behind ('ls'). -/
theorem wpN_region {P : Program} {Q : Exit → Act → World → Prop} {a : Act} {w : World} {id : Nat} {ops : Array Oper} (lp ls : List Oper) (o : Oper) (hops : ops = (lp ++ o :: ls).toArray)
    (h : wpList P ops (onlyN fun a1 w1 => Region.wanted o (yielded ops a1.tmps) = true ∧ ∃ v w2, Does P o a1 w1 v w2 ∧ wpList P ops Q ls (a1.put o.dst v) w2) lp a w) : wpN P (.region id ops false) Q a w := by
  intro b k cs hb
  have hsz : ops.size = lp.length + (1 + ls.length) := by rw [hops]; simp; omega
  have e1 : List.range ops.size = List.range' 0 lp.length ++ lp.length :: List.range' (lp.length + 1) ls.length := by
    rw [List.range_eq_range', hsz, ← List.range'_append_1, Nat.zero_add, Nat.add_comm 1 ls.length, List.range'_succ]
  have ho : ops[lp.length]? = some o := by rw [hops]; simp
  rw [← pre_list lp 0 (fun j hj => ?_)] at h
  · obtain ⟨a1, w1, ⟨hwt, v, w2, hd, h2⟩, hs⟩ := upto (List.range' 0 lp.length) (lp.length :: List.range' (lp.length + 1) ls.length) a w h b k cs
    rw [← wpOps_eq_wpList ls (lp.length + 1) (fun j => ?_)] at h2
    · obtain ⟨e, a', w', hq, ha⟩ := wp_ops _ _ _ h2 b k cs
      refine ⟨e, a', w', hq, .of_steps (.head step_region ?_) ha⟩
      rw [e1]
      exact hs.trans (.one (hd b k cs ops _ _ hb ho hwt))
    · rw [hops]
      simp [List.getElem?_append_right, show lp.length ≤ lp.length + 1 + j by omega, show lp.length + 1 + j - lp.length = j + 1 by omega]
  · rw [hops, Nat.zero_add]
    simp [List.getElem?_append_left, hj]
end Go.Proofs.Ytdlfmobnmcamaaa.Q
