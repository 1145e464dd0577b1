/- Unroll: walks and plain laws of this seat's functions, merged out of smaller texts of this session (Ua, Ub, Uc, Ud, Ue, Uf). -/
import Derived.Test.YteilkojmefipcaaBase
import Derived.Outline
import Derived.Deep.DeepMust
import Derived.IntWalk
import Derived.Laws.BitsAllLaws
namespace Go.Proofs.Yteilkojmefipcaa.U
open Go.RowKit Go.Proofs.YteilkojmefipcaaW.PrintWords Go.Proofs.YteilkojmefipcaaW.PrintLast
set_option linter.unusedVariables false
set_option linter.unusedSimpArgs false
theorem am {p : Prop} (h : p) : Aside0 p := ⟨h⟩
section
variable {P : Program} {ops : Array Oper} {rest : List Oper} {o : Oper} {a : Act} {Q : Exit → Act → World → Prop}
theorem run_loadVar_cells (w : World) (a0 : Addr) (ty : TypeId) (cs : List Value) (d : TypeDesc) (hc : ∀ (j : Nat) v, cs[j]? = some v → w.cell? (a0.add j) = some v)
    (hu : P.underlying ty = some d) (hd : (match d with | .struct _ | .array _ _ => true | _ => false) = true) (hi : (P.info? ty).map (·.size) = some cs.length) :
    (loadVar ty a0).run P w = .ok (.agg cs.toArray) w := by
  have hl : (loadCells a0 cs.length).run P w = .ok cs.toArray w := run_loadCells_list (P := P) w a0 cs hc
  cases hq : P.info? ty with
  | none => simp [hq] at hi
  | some i =>
    have hs : i.size = cs.length := by simpa [hq] using hi
    have hagg : (isAgg ty).run P w = .ok true w := by
      unfold isAgg
      rw [Sem.run_bind, run_underlying hu w]
      cases d <;> simp_all
    simp [loadVar, Sem.run_bind, hagg, Go.sizeOf, typeInfo, hq, hs, hl]
/-- A struct is read out of its cells. -/
theorem wpList_load_cells {w : World} (hgd : o.guard = none) (ty : TypeId) (x : Operand) (ho : o.op = .load ty x)
    (a0 : Addr) (hx : a.eval x = .pointer (some a0)) (cs : List Value) (hc : ∀ (j : Nat) v, cs[j]? = some v → w.cell? (a0.add j) = some v) (d : TypeDesc)
    (hu : P.underlying ty = some d) (hd : (match d with | .struct _ | .array _ _ => true | _ => false) = true) (hi : (P.info? ty).map (·.size) = some cs.length)
    (h : wpList P ops Q rest (a.put o.dst (.agg cs.toArray)) w) : wpList P ops Q (o :: rest) a w :=
  wpList_plain hgd fun _ hK => by
    unfold Oper.wp execOp
    simp only [ho, hx, Instr.loadAt, Instr.sureAddr, Sem.run_bind, Sem.run_pure, Result.andThen_ok, run_loadVar_cells w a0 ty cs d hc hu hd hi]
    exact hK _ _ h
/-- A store, from cell i of a known block on. -/
theorem wpList_store_at {W : World} (hN : o.dst = none) (hgd : o.guard = none) (t : TypeId) (p x : Operand) (ho : o.op = .store t p x) {g i : Nat} {e : TypeId} {cur : Array Value} (u : Value) (cs : List Value) (hu : u.cells.toList = cs) (hp : a.eval p = .pointer (some ⟨g, i, none⟩)) (hx : a.eval x = u)
    (hg : W.heap[g]? = some (.cells cur e (0, 0))) (hsz : i + cs.length ≤ cur.size) (ht : (P.info? t).map (·.size) = some cs.length) (h1 : ∀ q ∈ cs, q.oneCell' = true)
    (h : ∀ w1 cur', cur'.toList = cur.toList.take i ++ cs ++ cur.toList.drop (i + cs.length) → w1.heap[g]? = some (.cells cur' e (0, 0)) → (∀ k, k ≠ g → w1.heap[k]? = W.heap[k]?) → w1.heap.size = W.heap.size → (∀ B, B ≤ g → ∀ w0, Below B w0 W → Below B w0 w1) → wpList P ops Q rest a w1) : wpList P ops Q (o :: rest) a W := by
  have hrun := run_store_run (P := P) (w := W) (o := i) t u cs hg hu ht (by omega) h1
  obtain ⟨cur', h3, h4, h5⟩ := setCells_row cs i W cur hg (by omega)
  obtain ⟨s1, s2, s3, s4⟩ := setCells_same g cs i W
  have hfar := fun k hk => setCells_far (g := g) cs i (w := W) k hk
  refine wpList_plain hgd fun K hK => ?_
  unfold Oper.wp execOp
  simp only [ho, hp, hx, Sem.run_bind, Sem.run_pure, Result.andThen_ok, hrun]
  show K (a.put o.dst undef) _
  rw [hN]
  refine hK a _ (h _ cur' h5 h3 hfar s4 (fun B hB w0 hb => ⟨s1.trans hb.os, s2.trans hb.tape, s3.trans hb.output, by rw [s4]; exact hb.size, fun k hk => (hfar k (by omega)).trans (hb.block k hk)⟩))
theorem lit_event {W : World} (hgd : o.guard = none) {N : Tmp} (_hd : o.dst = some N) {cs : Array Value} {t : TypeId} {n : Nat}
    (hrun : (execOp a.eval o).run P W = .ok (.value (.slice (some ⟨W.heap.size, 0, none⟩) n n)) (W.alloc (.cells cs t (0, 0))))
    (h : ∀ g, g = W.heap.size → ∀ w1, w1.heap[g]? = some (.cells cs t (0, 0)) → Below W.heap.size W w1 → wpList P ops Q rest (a.put o.dst (.slice (some ⟨g, 0, none⟩) n n)) w1) : wpList P ops Q (o :: rest) a W :=
  Kd.event_run hgd hrun (h _ rfl _ (blk_new W _) (below_alloc (Below.refl _ _) _))
end
theorem store_in {W : World} {g i : Nat} {e : TypeId} {cur : Array Value} (cs : List Value) (hg : W.heap[g]? = some (.cells cur e (0, 0))) (hsz : i + cs.length ≤ cur.size) :
    ∃ cur', cur'.toList = cur.toList.take i ++ cs ++ cur.toList.drop (i + cs.length) ∧ (W.setCells g i cs).heap[g]? = some (.cells cur' e (0, 0)) ∧ (∀ k, k ≠ g → (W.setCells g i cs).heap[k]? = W.heap[k]?) ∧ ∀ B, B ≤ g → ∀ w0, Below B w0 W → Below B w0 (W.setCells g i cs) := by
  obtain ⟨cur', h3, h4, h5⟩ := setCells_row cs i W cur hg hsz
  obtain ⟨s1, s2, s3, s4⟩ := setCells_same g cs i W
  have hfar := fun k hk => setCells_far (g := g) cs i (w := W) k hk
  exact ⟨cur', h5, h3, hfar, fun B hB w0 hb => ⟨s1.trans hb.os, s2.trans hb.tape, s3.trans hb.output, by rw [s4]; exact hb.size, fun k hk => (hfar k (by omega)).trans (hb.block k hk)⟩⟩
theorem el_get {α : Type} {d : Kd α} {w : World} {A : Option Addr} {l : List α} (h : d.C w A l.length l) (i : Nat) (hi : i < l.length) :
    ∃ ad c, A = some ad ∧ d.K w l[i] c ∧ ∀ w', Below w.heap.size w w' → ∀ (j : Nat) v, c[j]? = some v → w'.cell? ((ad.add (i * d.sz)).add j) = some v := by
  obtain ⟨ad, e, hc⟩ := h.2.2 (by omega)
  obtain ⟨c, hs, hK, hcc⟩ := hc i l[i] (List.getElem?_eq_getElem hi)
  exact ⟨ad, c, e, hK, fun w' hb j v hj => by rw [Addr.add_add]; exact pw_cell_below hb (hcc j v hj)⟩
theorem bcell {W w1 : World} (hb : Below W.heap.size W w1) : (∀ p : Addr, p.block < W.heap.size → w1.cell? p = W.cell? p) ∧ (∀ p : Addr, p.block < W.heap.size → w1.frozen? p = W.frozen? p) :=
  ⟨fun p h => hb.cell h, fun p h => hb.frozen h⟩
theorem R_store {α : Type} {d : Kd α} {e base g t : Nat} {w w1 : World} {ok : Nat → Prop} {v : Value} {xs : List α} {cs : Array Value} (hE : d.E = []) (h : d.R e w base ok v xs) (hg : w.heap[g]? = some (.cells cs t (0, 0))) (ht : e ≠ t) (hfar : ∀ k, k ≠ g → w1.heap[k]? = w.heap[k]?) : d.R e w1 base ok v xs :=
  Kd.R_mono (Kd.R_move (Kd.R_bound h) (fun k hk => hfar k (fun he => by
    obtain ⟨_, _, _, q, hq, cells, hc⟩ := hk
    rw [hE, List.mem_singleton] at hq
    subst he hq
    rw [hg] at hc
    injection hc with hc
    injection hc with _ hc
    exact ht hc.symm))) (fun _ hk => hk.1)
/-! ### the boxes of a call's own -/
abbrev Bx := Nat × List Value × Nat
def Bx.at_ (b : Bx) (w0 w : World) : Prop := w.heap[b.1]? = some (.cells b.2.1.toArray b.2.2 (0, 0)) ∧ w0.heap.size ≤ b.1
/-- What was there when the call began is as it was; the boxes stand; they are apart. -/
structure Led (L : List Bx) (w0 w : World) : Prop where
  below : Below w0.heap.size w0 w
  boxes : ∀ b, b ∈ L → Bx.at_ b w0 w
  apart : L.Pairwise (fun a b => a.1 ≠ b.1)
namespace Led
variable {L : List Bx} {w0 w w1 : World} {b b' c d : Bx} {g t : Nat} {cs cs' : List Value}
theorem nil (w : World) : Led [] w w := ⟨Below.refl _ _, fun b h => by simp at h, List.Pairwise.nil⟩
theorem step (h : Led L w0 w) (hb : Below w.heap.size w w1) : Led L w0 w1 :=
  ⟨below_step h.below hb, fun b hm => ⟨blk_below (h.boxes b hm).1 hb, (h.boxes b hm).2⟩, h.apart⟩
theorem drew (h : Led L w0 w) : Led L w0 w.drew := h.step (below_drew (Below.refl _ _))
theorem alloc (h : Led L w0 w) (o : Obj) : Led L w0 (w.alloc o) := h.step (below_alloc (Below.refl _ _) o)
theorem box (h : Led L w0 w) (hg : g = w.heap.size) (hx : w1.heap[g]? = some (.cells cs.toArray t (0, 0))) (hb : Below w.heap.size w w1) : Led ((g, cs, t) :: L) w0 w1 :=
  ⟨below_step h.below hb, fun b hm => by
    rcases List.mem_cons.1 hm with rfl | hm
    · exact ⟨hx, by rw [hg]; exact h.below.size⟩
    · exact ⟨blk_below (h.boxes b hm).1 hb, (h.boxes b hm).2⟩,
   List.Pairwise.cons (fun b hm => by have := blk_lt (h.boxes b hm).1; simp only []; omega) h.apart⟩
theorem g0 (h : Led (b :: L) w0 w) : w.heap[b.1]? = some (.cells b.2.1.toArray b.2.2 (0, 0)) := (h.boxes b (by simp)).1
theorem g1 (h : Led (c :: b :: L) w0 w) : w.heap[b.1]? = some (.cells b.2.1.toArray b.2.2 (0, 0)) := (h.boxes b (by simp)).1
theorem g2 (h : Led (d :: c :: b :: L) w0 w) : w.heap[b.1]? = some (.cells b.2.1.toArray b.2.2 (0, 0)) := (h.boxes b (by simp)).1
theorem g3 (h : Led (b' :: d :: c :: b :: L) w0 w) : w.heap[b.1]? = some (.cells b.2.1.toArray b.2.2 (0, 0)) := (h.boxes b (by simp)).1
theorem get (h : Led L w0 w) (i : Nat) (hi : L[i]? = some b) : w.heap[b.1]? = some (.cells b.2.1.toArray b.2.2 (0, 0)) := (h.boxes b (List.mem_of_getElem? hi)).1
theorem base (h : Led L w0 w) (i : Nat) (hi : L[i]? = some b) : w0.heap.size ≤ b.1 := (h.boxes b (List.mem_of_getElem? hi)).2
theorem ne (h : Led L w0 w) (i j : Nat) {b c : Bx} (hi : L[i]? = some b) (hj : L[j]? = some c) (hij : i < j) : b.1 ≠ c.1 ∧ c.1 ≠ b.1 := by
  obtain ⟨h1, e1⟩ := List.getElem?_eq_some_iff.1 hi
  obtain ⟨h2, e2⟩ := List.getElem?_eq_some_iff.1 hj
  have := List.pairwise_iff_getElem.1 h.apart i j h1 h2 hij
  rw [e1, e2] at this
  exact ⟨this, this.symm⟩
theorem drop (h : Led (b :: L) w0 w) : Led L w0 w := ⟨h.below, fun b hm => h.boxes b (List.mem_cons_of_mem _ hm), (List.pairwise_cons.1 h.apart).2⟩
theorem sub {L' : List Bx} (h : Led L w0 w) (hs : L'.Sublist L) : Led L' w0 w := ⟨h.below, fun b hm => h.boxes b (hs.subset hm), h.apart.sublist hs⟩
/-- A store into box i. -/
theorem put (h : Led L w0 w) (i : Nat) (hi : L[i]? = some (g, cs, t)) (hx : w1.heap[g]? = some (.cells cs'.toArray t (0, 0))) (hfar : ∀ k, k ≠ g → w1.heap[k]? = w.heap[k]?) (hbel : ∀ B, B ≤ g → ∀ w0, Below B w0 w → Below B w0 w1) : Led (L.set i (g, cs', t)) w0 w1 := by
  have hm := List.mem_of_getElem? hi
  obtain ⟨hl, he⟩ := List.getElem?_eq_some_iff.1 hi
  refine ⟨hbel _ (h.boxes _ hm).2 _ h.below, fun b hb => ?_, ?_⟩
  · obtain ⟨j, hj, hje⟩ := List.mem_iff_getElem.1 hb
    rw [List.length_set] at hj
    by_cases e : j = i
    · subst e
      rw [List.getElem_set_self] at hje
      subst hje
      exact ⟨hx, (h.boxes _ hm).2⟩
    · rw [List.getElem_set_ne (fun h => e h.symm)] at hje
      have hbm : b ∈ L := hje ▸ List.getElem_mem hj
      have hne : b.1 ≠ g := by
        have hp := List.pairwise_iff_getElem.1 h.apart
        rcases Nat.lt_or_gt_of_ne e with h1 | h1
        · have := hp j i hj hl h1
          rw [he, hje] at this; exact this
        · have := hp i j hl hj h1
          rw [he, hje] at this; exact fun h => this h.symm
      exact ⟨(hfar _ hne).trans (h.boxes b hbm).1, (h.boxes b hbm).2⟩
  · rw [List.pairwise_iff_getElem]
    intro a b ha hb hab
    rw [List.length_set] at ha hb
    have hp := List.pairwise_iff_getElem.1 h.apart a b ha hb hab
    have e1 : ∀ (j : Nat) (hj : j < L.length), ((L.set i (g, cs', t))[j]'(by rw [List.length_set]; exact hj)).1 = L[j].1 := by
      intro j hj
      by_cases e : j = i
      · subst e; rw [List.getElem_set_self, he]
      · rw [List.getElem_set_ne (fun h => e h.symm)]
    rw [e1 a ha, e1 b hb]
    exact hp
/-- Box i is written whole, behind which a draw is told. -/
theorem putAll (h : Led L w0 w) (i : Nat) (hi : L[i]? = some (g, cs, t)) (seg : List Value) (hs : seg.length = cs.length) : Led (L.set i (g, seg, t)) w0 (w.setCells g 0 seg).drew ∧ ∀ k, k ≠ g → (w.setCells g 0 seg).drew.heap[k]? = w.heap[k]? := by
  obtain ⟨cur', hl, hx, hfar, hbel⟩ := store_in (i := 0) seg (h.get i hi) (by simp; omega)
  have e : cur' = seg.toArray := Array.toList_inj.1 (by rw [hl]; simp; rw [hs]; simp)
  rw [e] at hx
  exact ⟨(h.put i hi hx hfar hbel).drew, hfar⟩
theorem putC (h : Led L w0 w) (i : Nat) (hi : L[i]? = some (g, cs, t)) (seg : List Value) (hs : seg.length = cs.length) : Led (L.set i (g, seg, t)) w0 (w.setCells g 0 seg) ∧ ∀ k, k ≠ g → (w.setCells g 0 seg).heap[k]? = w.heap[k]? := by
  obtain ⟨cur', hl, hx, hfar, hbel⟩ := store_in (i := 0) seg (h.get i hi) (by simp; omega)
  have e : cur' = seg.toArray := Array.toList_inj.1 (by rw [hl]; simp; rw [hs]; simp)
  rw [e] at hx
  exact ⟨h.put i hi hx hfar hbel, hfar⟩
/-- A row of another type has been written, or a new one. -/
theorem grown {α : Type} {k : Kd α} {e bs : Nat} {ok : Nat → Prop} {v : Value} {xs : List α} (h : Led L w0 w) (hO : k.R e w bs ok v xs) (hg : w.grownBy w1 v.ownBlock) (hb : Below w0.heap.size w0 w1) (ht : ∀ b, b ∈ L → e ≠ b.2.2) : Led L w0 w1 :=
  ⟨hb, fun b hm => ⟨blk_grown (h.boxes b hm).1 hg (Kd.R_ne hO (h.boxes b hm).1 (ht b hm)), (h.boxes b hm).2⟩, h.apart⟩
end Led
section
variable {P : Program} {ops : Array Oper} {rest : List Oper} {o : Oper} {a : Act} {Q : Exit → Act → World → Prop}
theorem zg (N : Tmp) (_hN : o.dst = some N) {W : World} (h : wpList P ops Q (o :: rest) a W) : wpList P ops Q (o :: rest) a W := h
theorem zst (t : TypeId) (p x : Operand) (_ho : o.op = .store t p x) {W : World} (h : wpList P ops Q (o :: rest) a W) : wpList P ops Q (o :: rest) a W := h
/-- A new box: a parameter's, a variable's. -/
theorem zx {W w0 : World} {L : List Bx} (N : Tmp) (cs : List Value) (t : TypeId) (HL : Aside0 (Led L w0 W))
    (h : ∀ g w1, Aside0 (Led ((g, cs, t) :: L) w0 w1) → Below W.heap.size W w1 → wpList P ops Q rest (a.put o.dst (.pointer (some ⟨g, 0, none⟩))) w1)
    (_hd : o.dst = some N := by rfl) (hgd : o.guard = none := by rfl)
    (hrun : (execOp a.eval o).run P W = .ok (.value (.pointer (some ⟨W.heap.size, 0, none⟩))) (W.alloc (.cells cs.toArray t (0, 0))) := by first | (go_simp; done) | (go_simp; rfl)) : wpList P ops Q (o :: rest) a W :=
  box_event hgd _hd hrun (fun g hg w1 hx hb => h g w1 ⟨HL.out.box hg hx hb⟩ hb)
/-- A literal's block. -/
theorem zlit {W w0 : World} {L : List Bx} (N : Tmp) (n : Nat) (cs : List Value) (t : TypeId) (HL : Aside0 (Led L w0 W))
    (h : ∀ g w1, Aside0 (Led ((g, cs, t) :: L) w0 w1) → Below W.heap.size W w1 → wpList P ops Q rest (a.put o.dst (.slice (some ⟨g, 0, none⟩) n n)) w1)
    (_hd : o.dst = some N := by rfl) (hgd : o.guard = none := by rfl)
    (hrun : (execOp a.eval o).run P W = .ok (.value (.slice (some ⟨W.heap.size, 0, none⟩) n n)) (W.alloc (.cells cs.toArray t (0, 0))) := by first | (go_simp; done) | (go_simp; rfl)) : wpList P ops Q (o :: rest) a W :=
  lit_event hgd _hd hrun (fun g hg w1 hx hb => h g w1 ⟨HL.out.box hg hx hb⟩ hb)
/-- Box i is read whole. -/
theorem zl {W w0 : World} {L : List Bx} (i : Nat) (t : TypeId) (x : Operand) {g : Nat} {cs : List Value} {d : TypeDesc} (HL : Aside0 (Led L w0 W)) (hu : P.underlying t = some d)
    (h : wpList P ops Q rest (a.put o.dst (.agg cs.toArray)) W) (hi : L[i]? = some (g, cs, t) := by rfl) (ho : o.op = .load t x := by rfl) (hx : a.eval x = .pointer (some ⟨g, 0, none⟩) := by rfl) (hgd : o.guard = none := by rfl)
    (hd : (match d with | .struct _ | .array _ _ => true | _ => false) = true := by rfl) (hq : (P.info? t).map (·.size) = some cs.length := by kernel_rfl) : wpList P ops Q (o :: rest) a W :=
  wpList_load_row hgd t x ho g hx t cs.toArray (0, 0) d (HL.out.get i hi) hu hd (by rw [hq]; rfl) h
/-- A store into box i, from its cell j on. -/
theorem zs {W w0 : World} {L : List Bx} (i j : Nat) (t : TypeId) (p x : Operand) (seg : List Value) {g e : Nat} {cs : List Value} (HL : Aside0 (Led L w0 W))
    (h : ∀ w1, Aside0 (Led (L.set i (g, cs.take j ++ seg ++ cs.drop (j + seg.length), e)) w0 w1) → (∀ k, k ≠ g → w1.heap[k]? = W.heap[k]?) → wpList P ops Q rest a w1)
    (hi : L[i]? = some (g, cs, e) := by rfl) (ho : o.op = .store t p x := by rfl) (hN : o.dst = none := by rfl) (hgd : o.guard = none := by rfl)
    (hp : a.eval p = .pointer (some ⟨g, j, none⟩) := by rfl) {u : Value} (hx : a.eval x = u := by rfl) (hu : u.cells.toList = seg := by rfl) (hsz : j + seg.length ≤ cs.length := by exact Nat.le_of_ble_eq_true rfl)
    (ht : (P.info? t).map (·.size) = some seg.length := by kernel_rfl) (h1 : ∀ q ∈ seg, q.oneCell' = true := by simp [Value.oneCell']) : wpList P ops Q (o :: rest) a W :=
  wpList_store_at hN hgd t p x ho u seg hu hp hx (HL.out.get i hi) (by simpa using hsz) ht h1 (fun w1 cur' hl hx1 hfar hs hbel => h w1 ⟨HL.out.put i hi (by rw [show cur' = (cs.take j ++ seg ++ cs.drop (j + seg.length)).toArray from Array.toList_inj.1 (by rw [hl])] at hx1; exact hx1) hfar hbel⟩ hfar)
end
/-! ### a region that writes a box which is there -/
def KB (g : Nat) (w w' : World) : Prop := ∀ k, k < w.heap.size → k ≠ g → w'.heap[k]? = w.heap[k]?
namespace KB
variable {g : Nat} {w w1 w2 : World}
theorem refl (g : Nat) (w : World) : KB g w w := fun _ _ _ => rfl
theorem drew (h : KB g w w1) : KB g w w1.drew := h
theorem step (h : KB g w w1) (hb : Below w1.heap.size w1 w2) : KB g w w2 := fun k hk hg => by
  have e := h k hk hg
  rw [Array.getElem?_eq_getElem hk] at e
  exact (hb.block k (blk_lt e)).trans (h k hk hg)
theorem set (h : KB g w w1) (j : Nat) (u : Value) : KB g w (w1.setCell ⟨g, j, none⟩ u) := fun k hk hg => (Below.heap_setCell w1 ⟨g, j, none⟩ u k hg).trans (h k hk hg)
theorem cell (h : KB g w w1) {a : Addr} {v : Value} (hc : w.cell? a = some v) (hg : a.block ≠ g) : w1.cell? a = some v := by
  have hl := World.block_lt_of_cell? w a hc
  unfold World.cell? at hc ⊢
  rw [h _ hl hg]
  exact hc
end KB
theorem at117 {w : World} {A : Option Addr} {l : List S117} (h : Kd.C k117 w A l.length l) (i : Nat) (hi : i < l.length) : ∃ ad , A = some ad ∧ w.cell? (ad.add (i * 2)) = some (.int .i64 l[i].f0) ∧ w.cell? ⟨(ad.add (i * 2)).block, (ad.add (i * 2)).off + 1, none⟩ = some (.int .i64 l[i].f1) := by
  have e : rd_T117 l (i : Int) = l[i] := by simp [rd_T117, List.getD_eq_getElem?_getD, hi]
  have h2 := at_T117 h (i : Int) (by omega) (by omega)
  rw [e, Int.toNat_natCast] at h2
  exact h2
/-- A number is handed back. -/
def RetI (p : Int → Prop) (w : World) (e : Ending) (w' : World) : Prop := ∃ r : Int, e = .returned (.int .i64 r) ∧ p r ∧ Below w.heap.size w w'
def FindS (n : Nat) (r : Int) : Prop := -1 ≤ r ∧ r < n
set_option maxHeartbeats 4000000 in
theorem find_any (ins a b : Int) (A : Option Addr) (c : Nat) (l : List S117) (n : Nat) (hn : n ≤ l.length) (w : World) (h : k117.C w A l.length l) :
    Calls Try.prog 78 #[.agg #[.int .i64 ins, .slice A l.length c], .int .i64 a, .int .i64 b, .int .i64 (n : Int)] w (RetI (FindS n) w) := by
  have HC := am h
  have hm : l.length ≤ 9223372036854775807 := h.2.1
  have HL : Aside0 (Led [] w w) := ⟨Led.nil w⟩
  clear h
  go_enter Try.func78, Try.ntmps78
  go_wp2_with ((with_reducible refine zg 4 rfl ?_); refine zx 4 [.int .i64 ins, .slice A l.length c] 30 HL ?_; intro g w1 HL1 _; clear HL)
  go_loopw [9] (fun v wr => ∃ i : Nat, v = .int .i64 (i : Int) ∧ i ≤ n ∧ Aside0 (Led [(g, [.int .i64 ins, .slice A l.length c], 30)] w wr)) (fun v _ => n - (intOf v).toNat)
  case atStart => exact ⟨0, rfl, Nat.zero_le _, HL1⟩
  case round =>
    obtain ⟨i, rfl, hi, HL⟩ := hrel
    have hk1 : wr.cell? ⟨g, 1, none⟩ = some (.slice A l.length c) := blk_cell HL.out.g0 1
    by_cases hlt : i < n
    · have hl1 : i < l.length := by omega
      obtain ⟨ad, rfl, hx0, hx1⟩ := at117 (Kd.C_below HC.out HL.out.below) i hl1
      cases h0 : (l[i].f0 == a) <;> cases h1 : (l[i].f1 == b)
      all_goals go_wp2
      all_goals first
        | (go_ret; exact ⟨_, rfl, ⟨by omega, by omega⟩, HL.out.below⟩)
        | (go_roundw
           case rel => exact ⟨i + 1, by go_num, by omega, HL⟩
           case measure => simp [intOf]; omega)
    · go_wp2
      go_ret
      exact ⟨_, rfl, ⟨by omega, by omega⟩, HL.out.below⟩
/-- A row of another type has grown. -/
theorem R_other {α β : Type} {d : Kd α} {d' : Kd β} {e e' b b' : Nat} {w w1 : World} {ok ok' : Nat → Prop} {v v' : Value} {xs : List α} {ys : List β} (h : d.R e w b ok v xs) (h' : d'.R e' w b' ok' v' ys) (hg : w.grownBy w1 v'.ownBlock) (ht : ∀ q, q ∈ e :: d.E → q ≠ e') : d.R e w1 b ok v xs :=
  Kd.R_mono (Kd.R_grown (Kd.R_bound h) hg (fun k hk he => by
    obtain ⟨_, _, _, q, hq, cells, hc⟩ := hk
    obtain ⟨_, inner, ho, _⟩ := h'
    obtain ⟨cells', hc'⟩ := own_typed ho k he.symm
    rw [hc] at hc'
    injection hc' with hc'
    injection hc' with _ hc'
    exact ht q hq hc')) (fun _ hk => hk.1)
abbrev Any : Nat → Prop := fun _ => True
theorem l0_ {α : Type} (d : Kd α) (w : World) (e : TypeId) : d.R e (w.alloc (.cells #[] e)) w.heap.size Any (.slice (some ⟨w.heap.size, 0, none⟩) 0 0) [] :=
  ⟨fun _ _ => trivial, [], by simpa using World.ownsRow_lit (base := w.heap.size) (e := e) (size := d.sz) w #[] 0 (Nat.le_refl _) (by decide) (by simp), Reps.none _ _⟩
section
variable {α : Type} {P : Program} {ops : Array Oper} {rest : List Oper} {o : Oper} {a : Act} {Q : Exit → Act → World → Prop}
/-- append(s, x), one element. -/
theorem zap (d : Kd α) {w0 W : World} {L : List Bx} (s x : Operand) (t e : TypeId) {z : Value} {bytes : Nat} {v : Value} {xs : List α} (p : α) (cs : List Value)
    (HL : Aside0 (Led L w0 W)) (HO : Aside0 (d.R e W w0.heap.size Any v xs)) (ht : P.underlying t = some (.slice e)) (hinfo : (P.info? e).map (fun i => (i.zero, i.size, i.bytes)) = some (some z, d.sz, bytes))
    (hp : d.M W w0.heap.size (fun _ => False) p cs) (hl : (xs.length + 1) * bytes ≤ 140737488355328)
    (h : ∀ v1 w1, Aside0 (d.R e w1 w0.heap.size Any v1 (xs ++ [p])) → Aside0 (Led L w0 w1) → W.grownBy w1 v.ownBlock → wpList P ops Q rest (a.put o.dst v1) w1)
    (hne : ∀ b, b ∈ L → e ≠ b.2.2 := by simp) (ho : o.op = .call { callee := .builtin .append, args := #[s, x], argTypes := #[t, t] } := by rfl) (hgd : o.guard = none := by rfl)
    (hz : z.cells.size = d.sz := by rfl) (hs0 : 0 < d.sz := by decide) (hb0 : 0 < bytes := by decide) (hs : a.eval s = v := by rfl) (hx : a.eval x = .slice (some ⟨W.heap.size, 0, none⟩) 1 1 := by rfl) :
    wpList P ops Q (o :: rest) a (W.alloc (.cells cs.toArray e)) :=
  Kd.R_append d (w0 := w0) w0.heap.size hgd s x t e z bytes ho ht hinfo hz hs0 hb0 v xs p cs Any (fun _ => False) hs hx hp (fun _ h => h.elim) (fun _ _ => trivial) HO.out HL.out.below HL.out.below.size hl
    (fun v1 w1 h1 hb hg _ => h v1 w1 ⟨h1⟩ ⟨HL.out.grown HO.out hg hb hne⟩ hg)
/-- append(s, y...). -/
theorem zaps (d : Kd α) {w0 W : World} {L : List Bx} (s x : Operand) (t e : TypeId) {z : Value} {bytes : Nat} {v : Value} {xs ys : List α} {A : Option Addr} {c : Nat}
    (HL : Aside0 (Led L w0 W)) (HO : Aside0 (d.R e W w0.heap.size Any v xs)) (HC : d.C W A ys.length ys) (ht : P.underlying t = some (.slice e)) (hinfo : (P.info? e).map (fun i => (i.zero, i.size, i.bytes)) = some (some z, d.sz, bytes))
    (hKM : ∀ x cs, d.K W x cs → d.M W w0.heap.size (fun _ => False) x cs) (hl : (xs.length + ys.length) * bytes ≤ 140737488355328)
    (h : ∀ v1 w1, Aside0 (d.R e w1 w0.heap.size Any v1 (xs ++ ys)) → Aside0 (Led L w0 w1) → W.grownBy w1 v.ownBlock → wpList P ops Q rest (a.put o.dst v1) w1)
    (hne : ∀ b, b ∈ L → e ≠ b.2.2 := by simp) (ho : o.op = .call { callee := .builtin .append, args := #[s, x], argTypes := #[t, t] } := by rfl) (hgd : o.guard = none := by rfl)
    (hz : z.cells.size = d.sz := by rfl) (hs0 : 0 < d.sz := by decide) (hb0 : 0 < bytes := by decide) (hs : a.eval s = v := by rfl) (hx : a.eval x = .slice A ys.length c := by rfl) :
    wpList P ops Q (o :: rest) a W :=
  Kd.R_append_rows d (w0 := w0) w0.heap.size hgd s x t e z bytes ho ht hinfo hz hs0 hb0 v xs ys A ys.length c Any (fun _ => False) hs hx HO.out HC hKM (fun _ h => h.elim) (fun _ _ => trivial) HL.out.below HL.out.below.size hl
    (fun v1 w1 h1 hb hg _ => h v1 w1 ⟨h1⟩ ⟨HL.out.grown HO.out hg hb hne⟩ hg)
/-- An empty literal. -/
theorem zl0 (d : Kd α) {w0 W : World} {L : List Bx} (N : Tmp) (e : TypeId) (HL : Aside0 (Led L w0 W))
    (h : ∀ v1 w1, Aside0 (d.R e w1 w0.heap.size Any v1 []) → Aside0 (Led L w0 w1) → Below W.heap.size W w1 → wpList P ops Q rest (a.put o.dst v1) w1)
    (_hd : o.dst = some N := by rfl) (hgd : o.guard = none := by rfl)
    (hrun : (execOp a.eval o).run P W = .ok (.value (.slice (some ⟨W.heap.size, 0, none⟩) 0 0)) (W.alloc (.cells #[] e)) := by first | (go_simp; done) | (go_simp; rfl)) : wpList P ops Q (o :: rest) a W :=
  Kd.event_run hgd hrun (h _ _ ⟨Kd.R_lower (l0_ d W e) HL.out.below.size⟩ ⟨HL.out.alloc _⟩ (below_alloc (Below.refl _ _) _))
end
/-- A row while a box of another type is written. -/
theorem Rfar {α : Type} {d : Kd α} {e b : Nat} {ok : Nat → Prop} {v : Value} {xs : List α} {w w1 w0 : World} {L : List Bx} (h : d.R e w b ok v xs) (HL : Led L w0 w) (i : Nat) {g t : Nat} {cs : List Value} (hi : L[i]? = some (g, cs, t)) (hfar : ∀ k, k ≠ g → w1.heap[k]? = w.heap[k]?) (hE : d.E = [] := by rfl) (ht : e ≠ t := by decide) : d.R e w1 b ok v xs :=
  R_store hE h (HL.get i hi) ht hfar
theorem R_storeG {α : Type} {d : Kd α} {e base g t : Nat} {w w1 : World} {ok : Nat → Prop} {v : Value} {xs : List α} {cs : Array Value} (h : d.R e w base ok v xs) (hg : w.heap[g]? = some (.cells cs t (0, 0))) (ht : ∀ q, q ∈ e :: d.E → q ≠ t) (hfar : ∀ k, k ≠ g → w1.heap[k]? = w.heap[k]?) : d.R e w1 base ok v xs :=
  Kd.R_mono (Kd.R_move (Kd.R_bound h) (fun k hk => hfar k (fun he => by
    obtain ⟨_, _, _, q, hq, cells, hc⟩ := hk
    subst he
    rw [hg] at hc
    injection hc with hc
    injection hc with _ hc
    exact ht q hq hc.symm))) (fun _ hk => hk.1)
theorem RfarG {α : Type} {d : Kd α} {e b : Nat} {ok : Nat → Prop} {v : Value} {xs : List α} {w w1 w0 : World} {L : List Bx} (h : d.R e w b ok v xs) (HL : Led L w0 w) (i : Nat) {g t : Nat} {cs : List Value} (hi : L[i]? = some (g, cs, t)) (hfar : ∀ k, k ≠ g → w1.heap[k]? = w.heap[k]?) (ht : ∀ q, q ∈ e :: d.E → q ≠ t := by decide) : d.R e w1 b ok v xs :=
  R_storeG h (HL.get i hi) ht hfar
/-- A literal that may be, of so many inputs and ands. -/
def Vld (ins : Int) (n : Nat) (x : Int) : Prop := 0 ≤ x ∧ x < 2 * (1 + ins + n)
def OkA (ins : Int) (l : List S117) : Prop := ∀ (i : Nat) (h : i < l.length), Vld ins i l[i].f0 ∧ Vld ins i l[i].f1
structure Ext (ins : Int) (l l' : List S117) (k : Nat) : Prop where
  pre : l <+: l'
  len : l'.length ≤ l.length + k
  ok : OkA ins l'
abbrev Gr (w : World) (v : Value) (l : List S117) : Prop := k117.R 117 w 0 Any v l
structure GOk (ins : Int) (v : Value) (l : List S117) (k : Nat) (w : World) : Prop where
  row : Gr w v l
  ok : OkA ins l
  i0 : 0 ≤ ins
  i1 : ins ≤ 1000000000
  len : l.length + k ≤ 1000000000
def RetG (ins : Int) (l : List S117) (k : Nat) (w : World) (e : Ending) (w' : World) : Prop := ∃ v' l' x, e = .returned (.tuple #[.agg #[.int .i64 ins, v'], .int .i64 x]) ∧ GOk ins v' l' 0 w' ∧ Ext ins l l' k ∧ Vld ins l'.length x ∧ Below w.heap.size w w'
theorem Vld.up {ins : Int} {n m : Nat} {x : Int} (h : Vld ins n x) (hm : n ≤ m) : Vld ins m x := ⟨h.1, by have := h.2; omega⟩
theorem Ext.refl {ins : Int} {l : List S117} (h : OkA ins l) (k : Nat) : Ext ins l l k := ⟨List.prefix_rfl, by omega, h⟩
theorem Ext.le {ins : Int} {l l' : List S117} {k : Nat} (h : Ext ins l l' k) : l.length ≤ l'.length := h.pre.length_le
theorem Ext.trans {ins : Int} {l l' l'' : List S117} {k m : Nat} (h : Ext ins l l' k) (h' : Ext ins l' l'' m) : Ext ins l l'' (k + m) := ⟨h.pre.trans h'.pre, by have := h.len; have := h'.len; omega, h'.ok⟩
theorem Ext.mono {ins : Int} {l l' : List S117} {k m : Nat} (h : Ext ins l l' k) (hk : k ≤ m) : Ext ins l l' m := ⟨h.pre, by have := h.len; omega, h.ok⟩
theorem OkA.snoc {ins : Int} {l : List S117} {a b : Int} (h : OkA ins l) (ha : Vld ins l.length a) (hb : Vld ins l.length b) : OkA ins (l ++ [⟨a, b⟩]) := by
  intro i hi
  rcases Nat.lt_or_ge i l.length with h1 | h1
  · rw [List.getElem_append_left h1]; exact h i h1
  · have : i = l.length := by rw [List.length_append, List.length_singleton] at hi; omega
    subst this
    simp [ha, hb]
theorem GOk.step {ins : Int} {v : Value} {l : List S117} {k : Nat} {w w1 : World} (h : GOk ins v l k w) (hb : Below w.heap.size w w1) : GOk ins v l k w1 := ⟨Kd.R_below h.row hb, h.ok, h.i0, h.i1, h.len⟩
theorem GOk.drew {ins : Int} {v : Value} {l : List S117} {k : Nat} {w : World} (h : GOk ins v l k w) : GOk ins v l k w.drew := h.step (below_drew (Below.refl _ _))
theorem GOk.alloc {ins : Int} {v : Value} {l : List S117} {k : Nat} {w : World} (h : GOk ins v l k w) (o : Obj) : GOk ins v l k (w.alloc o) := h.step (below_alloc (Below.refl _ _) o)
theorem GOk.less {ins : Int} {v : Value} {l : List S117} {k m : Nat} {w : World} (h : GOk ins v l k w) (hk : m ≤ k) : GOk ins v l m w := ⟨h.row, h.ok, h.i0, h.i1, by have := h.len; omega⟩
theorem GOk.more {ins : Int} {v : Value} {l : List S117} {k m : Nat} {w : World} (h : GOk ins v l k w) (hk : l.length + m ≤ 1000000000) : GOk ins v l m w := ⟨h.row, h.ok, h.i0, h.i1, hk⟩
/-- A store into a box of another type. -/
theorem GOk.far {ins : Int} {v : Value} {l : List S117} {k : Nat} {w w1 w0 : World} {L : List Bx} {g t : Nat} {cs : List Value} (h : GOk ins v l k w) (HL : Led L w0 w) (i : Nat) (hi : L[i]? = some (g, cs, t)) (hfar : ∀ k, k ≠ g → w1.heap[k]? = w.heap[k]?) (ht : 117 ≠ t := by decide) : GOk ins v l k w1 := ⟨R_store rfl h.row (HL.get i hi) ht hfar, h.ok, h.i0, h.i1, h.len⟩
theorem GOk.slice {ins : Int} {v : Value} {l : List S117} {k : Nat} {w : World} (h : GOk ins v l k w) : ∃ A c, v = .slice A l.length c ∧ l.length ≤ c ∧ k117.C w A l.length l := Kd.R_reads h.row
/-- A struct result, box i, and a number. -/
theorem zret {P : Program} {fn : Func} {R : Ending → World → Prop} {a : Act} {W w0 : World} {L : List Bx} (i : Nat) (p u : Tmp) (ty : TypeId) {g : Nat} {cs : List Value} {d : TypeDesc} {v : Value} (HL : Aside0 (Led L w0 W)) (hu : P.underlying ty = some d)
    (hR : R (.returned (.tuple #[.agg cs.toArray, v])) W) (hi : L[i]? = some (g, cs, ty) := by rfl) (h : fn.results = #[.cell p ty, .tmp u] := by rfl) (hp : a.tmps.getD p undef = .pointer (some ⟨g, 0, none⟩) := by rfl) (hv : a.tmps.getD u undef = v := by rfl) (hd0 : a.defers = [] := by rfl)
    (hd : (match d with | .struct _ | .array _ _ => true | _ => false) = true := by rfl) (hq : (P.info? ty).map (·.size) = some cs.length := by kernel_rfl) : bodyPost P fn R .ret a W :=
  bodyPost_ret (results_ct h _ _ g ty cs.toArray (0, 0) d hp (HL.out.get i hi) hu hd (by rw [hq]; rfl)) hd0 (hv ▸ hR)
set_option maxHeartbeats 16000000 in
set_option maxRecDepth 100000 in
theorem and_any (ins a b : Int) (v : Value) (l : List S117) (w : World) (h : GOk ins v l 1 w) (ha : Vld ins l.length a) (hb : Vld ins l.length b) :
    Calls Try.prog 104 #[.agg #[.int .i64 ins, v], .int .i64 a, .int .i64 b] w (RetG ins l 1 w) := by
  obtain ⟨A, c, rfl, hlc, hC⟩ := h.slice
  have HG := am h
  have HC := am hC
  have hm : l.length ≤ 1000000000 := by have := h.len; omega
  have hi0 := h.i0
  have hi1 := h.i1
  have HL : Aside0 (Led [] w w) := ⟨Led.nil w⟩
  have HA := am ha
  have HB := am hb
  have ha0 := ha.1
  have hb0 := hb.1
  have hu := Try.underlying30
  clear h hC ha hb hlc
  go_enter Try.func104, Try.ntmps104
  go_upto_if 11 with (first
    | ((with_reducible refine zg 3 rfl ?_); refine zx 3 [.int .i64 ins, .slice A l.length c] 30 HL ?_; intro g3 w1 HL1 hb1; replace HG := am (HG.out.step hb1); clear HL hb1)
    | ((with_reducible refine zg 6 rfl ?_); refine zx 6 [.int .i64 0, .slice none 0 0] 30 HL1 ?_; intro g6 w2 HL2 hb2; replace HG := am (HG.out.step hb2); clear HL1 hb2))
  go_cut [1, 2] (fun s1 s2 wx => ∃ p q : Int, s1 = .int .i64 p ∧ s2 = .int .i64 q ∧ 0 ≤ p ∧ 0 ≤ q ∧ Aside0 (Vld ins l.length p) ∧ Aside0 (Vld ins l.length q) ∧ wx = w2)
  case first =>
    go_wp2_with fail
    all_goals (go_meet; first | exact ⟨b, a, rfl, rfl, hb0, ha0, HB, HA, rfl⟩ | exact ⟨a, b, rfl, rfl, ha0, hb0, HA, HB, rfl⟩)
  case rest =>
    clear HA HB ha0 hb0
    obtain ⟨p, q, rfl, rfl, hp0, hq0, HP, HQ, rfl⟩ := hcut
    have hp1 : p ≤ 8000000000 := by have := HP.out.2; omega
    have hq1 : q ≤ 8000000000 := by have := HQ.out.2; omega
    by_cases c1 : p = 0 ∨ (p / 2 = q / 2 ∧ p ≠ q)
    · cases e1 : (p == 0) <;> cases e2 : (p / 2 == q / 2) <;> cases e3 : (p != q)
      all_goals first
        | (exfalso; simp at e1 e2 e3; omega)
        | (clear c1
           go_wp2_with (first
            | ((with_reducible refine zg 28 rfl ?_); refine zl 1 30 (.tmp 3) HL2 hu ?_)
            | ((with_reducible refine zst 30 (.tmp 6) (.tmp 28) rfl ?_); refine zs 0 0 30 (.tmp 6) (.tmp 28) [.int .i64 ins, .slice A l.length c] HL2 ?_; intro w3 HL3 hfar; replace HG := am (HG.out.far HL2.out 0 rfl hfar); clear HL2 hfar))
           refine zret 0 6 7 30 HL3 hu ?_
           exact ⟨_, l, 0, rfl, HG.out.less (by omega), Ext.refl HG.out.ok 1, ⟨by omega, by omega⟩, HL3.out.below⟩)
    · by_cases c2 : p = 1 ∨ p = q
      · cases e1 : (p == 1) <;> cases e2 : (p / 2 == q / 2) <;> cases e3 : (p == q)
        all_goals first
          | (exfalso; simp at e1 e2 e3; omega)
          | (have e4 : (p == 0) = false := by simp at e1 e2 e3 ⊢; omega
             have e5 : (p != q) = !(p == q) := rfl
             rw [e3] at e5
             clear c1 c2
             go_wp2_with (first
              | ((with_reducible refine zg 36 rfl ?_); refine zl 1 30 (.tmp 3) HL2 hu ?_)
              | ((with_reducible refine zst 30 (.tmp 6) (.tmp 36) rfl ?_); refine zs 0 0 30 (.tmp 6) (.tmp 36) [.int .i64 ins, .slice A l.length c] HL2 ?_; intro w3 HL3 hfar; replace HG := am (HG.out.far HL2.out 0 rfl hfar); clear HL2 hfar))
             refine zret 0 6 7 30 HL3 hu ?_
             exact ⟨_, l, q, rfl, HG.out.less (by omega), Ext.refl HG.out.ok 1, HQ.out, HL3.out.below⟩)
      · have e1 : (p == 0) = false := by simp; omega
        have e2 : (p / 2 == q / 2) = false := by simp; omega
        have e4 : (p == 1) = false := by simp; omega
        have e5 : (p == q) = false := by simp; omega
        have hpq : Aside0 (p / 2 ≠ q / 2) := ⟨by omega⟩
        have hk31 : wc.cell? ⟨g3, 1, none⟩ = some (.slice A l.length c) := blk_cell HL2.out.g1 1
        clear c1 c2
        go_wp2_with ((with_reducible refine zg 38 rfl ?_); refine zl 1 30 (.tmp 3) HL2 hu ?_)
        refine (find_any ins p q A c l l.length (Nat.le_refl _) _ (Kd.C_below HC.out HL2.out.below)).mono ?_
        rintro e w3 ⟨r, rfl, hr, hb⟩
        replace HL2 := am (HL2.out.step hb)
        replace HG := am (HG.out.step hb)
        have hr0 := hr.1
        have hr1 := hr.2
        clear hr hk31 hb
        go_upto_if 46 with (fail)
        go_cut [8] (fun s8 wx => ∃ v' l' x, s8 = .int .i64 x ∧ 0 ≤ x ∧ x < l'.length ∧ Aside0 (Led [(g6, [.int .i64 0, .slice none 0 0], 30), (g3, [.int .i64 ins, v'], 30)] w wx) ∧ Aside0 (GOk ins v' l' 0 wx) ∧ Aside0 (Ext ins l l' 1))
        case first =>
          by_cases h0 : r < 0
          · have hd : decide (r < 0) = true := by simpa using h0
            have hk31 : w3.cell? ⟨g3, 1, none⟩ = some (.slice A l.length c) := blk_cell HL2.out.g1 1
            go_wp2_with (first
              | ((with_reducible refine zg 50 rfl ?_); refine zl0 k117 50 117 HL2 ?_; intro v4 w4 HO HL4 hb; obtain ⟨A4, c4, rfl⟩ := Kd.R_slice HO.out; replace HG := am (HG.out.step hb); have hk41 : w4.cell? ⟨g3, 1, none⟩ = some (.slice A l.length c) := blk_cell HL4.out.g1 1; clear HL2 hb)
              | ((with_reducible refine zg 53 rfl ?_); refine zaps k117 (.tmp 50) (.tmp 52) 28 117 HL4 HO (Kd.C_below HC.out HL4.out.below) Try.underlying28 info117 (fun x cs hk => by rw [k117_open hk]; exact k117_mkM _ _ _ x) (by simp only [List.length_nil]; omega) ?_; intro v5 w5 HO5 HL5 hg; rw [List.nil_append] at HO5; obtain ⟨A5, c5, rfl⟩ := Kd.R_slice HO5.out; clear HO HL4 hg hk41)
              | ((with_reducible refine zg 58 rfl ?_); refine zap k117 (.tmp 53) (.tmp 57) 28 117 ⟨p, q⟩ [.int .i64 p, .int .i64 q] HL5 HO5 Try.underlying28 info117 (k117_mkM _ _ _ ⟨p, q⟩) (by omega) ?_; intro v6 w6 HO6 HL6 hg; obtain ⟨l2, hl2⟩ : ∃ l2, l ++ [(⟨p, q⟩ : S117)] = l2 := ⟨_, rfl⟩; rw [hl2] at HO6; have HL2' := am hl2; obtain ⟨A6, c6, rfl⟩ := Kd.R_slice HO6.out; clear HO5 HL5 hg hl2)
              | ((with_reducible refine zst 28 (.tmp 59) (.tmp 58) rfl ?_); refine zs 1 1 28 (.tmp 59) (.tmp 58) [.slice A6 l2.length c6] HL6 ?_; intro w7 HL7 hfar; have HO7 := am (Rfar HO6.out HL6.out 1 rfl hfar); clear HL6 HO6 hfar))
            go_meet
            obtain rfl := HL2'.out
            refine ⟨_, l ++ [⟨p, q⟩], (l.length : Int), rfl, by omega, by simp; omega, HL7, ⟨⟨Kd.R_lower HO7.out (Nat.zero_le _), HG.out.ok.snoc HP.out HQ.out, hi0, hi1, by have := HG.out.len; simp; omega⟩⟩, ⟨⟨List.prefix_append _ _, by simp, HG.out.ok.snoc HP.out HQ.out⟩⟩⟩
          · have hd : decide (r < 0) = false := by simpa using h0
            go_wp2_with (fail)
            go_meet
            exact ⟨_, l, r, rfl, by omega, hr1, HL2, ⟨HG.out.less (by omega)⟩, ⟨Ext.refl HG.out.ok 1⟩⟩
        case rest =>
          clear HL2 HG hr0 hr1
          obtain ⟨v', l', x, rfl, hx0, hx1, HL, HG, HE⟩ := hcut
          obtain ⟨A', c', rfl, _⟩ := HG.out.slice
          have hl2 : l'.length ≤ 1000000000 := by have := HG.out.len; omega
          have k0 : wc.cell? ⟨g3, 0, none⟩ = some (.int .i64 ins) := blk_cell HL.out.g1 0
          have k1 : wc.cell? ⟨g3, 1, none⟩ = some (.slice A' l'.length c') := blk_cell HL.out.g1 1
          have k2 : wc.cell? ⟨g6, 0, none⟩ = some (.int .i64 0) := blk_cell HL.out.g0 0
          have k3 : wc.cell? ⟨g6, 1, none⟩ = some (.slice none 0 0) := blk_cell HL.out.g0 1
          have f2 : wc.frozen? ⟨g6, 0, none⟩ = false := blk_frozen HL.out.g0 0
          have f3 : wc.frozen? ⟨g6, 1, none⟩ = false := blk_frozen HL.out.g0 1
          obtain ⟨n1, n2⟩ : g6 ≠ g3 ∧ g3 ≠ g6 := HL.out.ne 0 1 rfl rfl (by decide)
          have w1 : IntKind.i64.wrap (ins + 1) = ins + 1 := IntWalk.i64_in _ (by omega)
          have w2 : IntKind.i64.wrap (ins + 1 + x) = ins + 1 + x := IntWalk.i64_in _ (by omega)
          have w3 : IntKind.i64.wrap (2 * (ins + 1 + x)) = 2 * (ins + 1 + x) := IntWalk.i64_in _ (by omega)
          go_wp2_with (fail)
          go_region_held3 (fun w' => w'.cell? ⟨g3, 0, none⟩ = some (.int .i64 ins) ∧ w'.cell? ⟨g3, 1, none⟩ = some (.slice A' l'.length c')) (go_keep) (fail)
          clear w1 w2 w3 k0 k1 k2 k3 f2 f3 n1 n2
          obtain ⟨HF, hfar⟩ := HL.out.putAll 0 rfl [.int .i64 ins, .slice A' l'.length c'] rfl
          go_wp2_with (fail)
          refine zret 0 6 7 30 (am HF) hu ?_
          exact ⟨_, l', _, rfl, HG.out.far HL.out 0 rfl hfar, HE.out, ⟨by omega, by omega⟩, HF.below⟩
/-- Behind a region: a struct's box that was made behind the call .. -/
theorem finA {L : List Bx} {w0 we : World} {ins : Int} {v : Value} {l : List S117} {k : Nat} (HL : Led L w0 we) (HG : GOk ins v l k we) :
    Led ((we.heap.size, [.int .i64 ins, v], 30) :: L) w0 (we.alloc (.cells #[.int .i64 ins, v] 30)) ∧ GOk ins v l k (we.alloc (.cells #[.int .i64 ins, v] 30)) :=
  ⟨HL.box rfl (blk_new _ _) (below_alloc (Below.refl _ _) _), HG.alloc _⟩
/-- .. or ahead of it. -/
theorem finC {L : List Bx} {w0 W we : World} {ins : Int} {v : Value} {l : List S117} {k : Nat} (HL : Led L w0 W) (hb : Below (W.alloc (.cells #[.int .i64 0, .slice none 0 0] 30)).heap.size (W.alloc (.cells #[.int .i64 0, .slice none 0 0] 30)) we) (HG : GOk ins v l k we) :
    Led ((W.heap.size, [.int .i64 ins, v], 30) :: L) w0 ((we.setCell ⟨W.heap.size, 0, none⟩ (.int .i64 ins)).setCell ⟨W.heap.size, 1, none⟩ v) ∧ GOk ins v l k ((we.setCell ⟨W.heap.size, 0, none⟩ (.int .i64 ins)).setCell ⟨W.heap.size, 1, none⟩ v) := by
  have h1 : Led ((W.heap.size, [.int .i64 0, .slice none 0 0], 30) :: L) w0 we := (HL.box rfl (blk_new _ _) (below_alloc (Below.refl _ _) _)).step hb
  obtain ⟨cur', hl, hx, hfar, hbel⟩ := store_in (i := 0) [.int .i64 ins, v] (h1.get 0 rfl) (Nat.le_of_ble_eq_true rfl)
  have e : cur' = #[.int .i64 ins, v] := Array.toList_inj.1 (by rw [hl]; simp)
  rw [e] at hx
  exact ⟨h1.put 0 rfl hx hfar hbel, HG.far h1 0 rfl hfar⟩
theorem finCR {α : Type} {d : Kd α} {e b : Nat} {ok : Nat → Prop} {v y z : Value} {xs : List α} {L : List Bx} {w0 W we : World} (HL : Led L w0 W) (hb : Below (W.alloc (.cells #[.int .i64 0, .slice none 0 0] 30)).heap.size (W.alloc (.cells #[.int .i64 0, .slice none 0 0] 30)) we) (h : d.R e we b ok v xs) (ht : ∀ q, q ∈ e :: d.E → q ≠ 30) :
    d.R e ((we.setCell ⟨W.heap.size, 0, none⟩ y).setCell ⟨W.heap.size, 1, none⟩ z) b ok v xs := by
  have h1 : Led ((W.heap.size, [.int .i64 0, .slice none 0 0], 30) :: L) w0 we := (HL.box rfl (blk_new _ _) (below_alloc (Below.refl _ _) _)).step hb
  obtain ⟨cur', hl, hx, hfar, hbel⟩ := store_in (i := 0) [y, z] (h1.get 0 rfl) (Nat.le_of_ble_eq_true rfl)
  exact R_storeG h (h1.get 0 rfl) ht hfar
theorem slice_one {α : Type} {d : Kd α} {e b : Nat} {ok : Nat → Prop} {w : World} {v : Value} {xs : List α} {n : Int} (h : d.R e w b ok v xs) : ∀ q ∈ [Value.int .i64 n, v], q.oneCell' = true := by
  obtain ⟨A, c, rfl⟩ := Kd.R_slice h
  simp [Value.oneCell']
/-- Literals that may be. -/
def Vlds (ins : Int) (n : Nat) (xs : List Int) : Prop := ∀ x ∈ xs, Vld ins n x
theorem Vlds.up {ins : Int} {n m : Nat} {xs : List Int} (h : Vlds ins n xs) (hm : n ≤ m) : Vlds ins m xs := fun x hx => (h x hx).up hm
theorem atI {w : World} {A : Option Addr} {l : List Int} (h : (Kd.int .i64).C w A l.length l) (i : Nat) (hi : i < l.length) : ∃ ad, A = some ad ∧ w.cell? (ad.add i) = some (.int .i64 l[i]) := by
  obtain ⟨ad, e, hc⟩ := Kd.at_int h (i : Int) (by omega) (by omega)
  have e2 : rd l (i : Int) = l[i] := by simp [rd, List.getD_eq_getElem?_getD, hi]
  rw [e2, Int.toNat_natCast] at hc
  exact ⟨ad, e, hc⟩
set_option maxHeartbeats 16000000 in
set_option maxRecDepth 100000 in
theorem all_any (ins : Int) (v : Value) (l : List S117) (A : Option Addr) (c : Nat) (xs : List Int) (w : World) (h : GOk ins v l xs.length w) (hC : (Kd.int .i64).C w A xs.length xs) (hx : Vlds ins l.length xs) :
    Calls Try.prog 108 #[.agg #[.int .i64 ins, v], .slice A xs.length c] w (RetG ins l xs.length w) := by
  obtain ⟨A0, c0, rfl, hlc, _⟩ := h.slice
  have HG := am h
  have HC := am hC
  have HX := am hx
  have hm : xs.length ≤ 9223372036854775807 := hC.2.1
  have HL : Aside0 (Led [] w w) := ⟨Led.nil w⟩
  have hu := Try.underlying30
  clear h hC hx hlc
  go_enter Try.func108, Try.ntmps108
  go_wp2_with (first
    | ((with_reducible refine zg 2 rfl ?_); refine zx 2 [.int .i64 ins, .slice A0 l.length c0] 30 HL ?_; intro g2 w1 HL1 hb1; replace HG := am (HG.out.step hb1); clear HL hb1)
    | ((with_reducible refine zg 4 rfl ?_); refine zx 4 [.int .i64 0, .slice none 0 0] 30 HL1 ?_; intro g4 w2 HL2 hb2; replace HG := am (HG.out.step hb2); clear HL1 hb2))
  go_loopw [6, 7] (fun v6 v7 wr => ∃ (i : Nat) (x : Int) (v' : Value) (l' : List S117), v6 = .int .i64 x ∧ v7 = .int .i64 (i : Int) ∧ i ≤ xs.length ∧ Aside0 (Led [(g4, [.int .i64 0, .slice none 0 0], 30), (g2, [.int .i64 ins, v'], 30)] w wr) ∧ Aside0 (GOk ins v' l' (xs.length - i) wr) ∧ Aside0 (Ext ins l l' i) ∧ Aside0 (Vld ins l'.length x)) (fun _ v _ => xs.length - (intOf v).toNat)
  case atStart => exact ⟨0, 1, _, l, rfl, rfl, Nat.zero_le _, HL2, ⟨HG.out⟩, ⟨Ext.refl HG.out.ok 0⟩, ⟨by omega, by have := HG.out.i0; omega⟩⟩
  case round =>
    clear HL2 HG
    obtain ⟨i, x, v', l', rfl, rfl, hi, HL, HG, HE, HV⟩ := hrel
    obtain ⟨A', c', rfl, _⟩ := HG.out.slice
    by_cases hlt : i < xs.length
    · have hi0 : (0 : Int) ≤ (i : Int) := by omega
      have hi1 : (i : Int) < (xs.length : Int) := by omega
      obtain ⟨ad, rfl, hx0⟩ := atI (Kd.C_below HC.out HL.out.below) i hlt
      have k0 : wr.cell? ⟨g2, 0, none⟩ = some (.int .i64 ins) := blk_cell HL.out.g1 0
      have k1 : wr.cell? ⟨g2, 1, none⟩ = some (.slice A' l'.length c') := blk_cell HL.out.g1 1
      have ks : ∀ W, Below wr.heap.size wr W → (W.cell? ⟨g2, 0, none⟩ = some (.int .i64 ins) ∧ W.cell? ⟨g2, 1, none⟩ = some (.slice A' l'.length c') ∧ W.cell? (ad.add i) = some (.int .i64 xs[i])) ∧ Aside0 (Below wr.heap.size wr W) := fun W hb => ⟨⟨pw_cell_below hb k0, pw_cell_below hb k1, pw_cell_below hb hx0⟩, ⟨hb⟩⟩
      have KS := am ks
      obtain ⟨y, hy⟩ : ∃ y, xs[i] = y := ⟨_, rfl⟩
      have HY : Aside0 (Vld ins l'.length y) := ⟨hy ▸ (HX.out _ (List.getElem_mem hlt)).up HE.out.le⟩
      rw [hy] at hx0 KS
      clear ks hy
      go_upto_region 5 with (fail)
      go_cut [8, 9] (fun s8 s9 wx => ∃ gh v2 l2 x2, s8 = .pointer (some ⟨gh, 0, none⟩) ∧ s9 = .int .i64 x2 ∧ Aside0 (Led [(gh, [.int .i64 ins, v2], 30), (g4, [.int .i64 0, .slice none 0 0], 30), (g2, [.int .i64 ins, .slice A' l'.length c'], 30)] w wx) ∧ Aside0 (GOk ins v2 l2 (xs.length - (i + 1)) wx) ∧ Aside0 (Ext ins l l2 (i + 1)) ∧ Aside0 (Vld ins l2.length x2))
      case first =>
        go_region_held3 (fun w' => (w'.cell? ⟨g2, 0, none⟩ = some (.int .i64 ins) ∧ w'.cell? ⟨g2, 1, none⟩ = some (.slice A' l'.length c') ∧ w'.cell? (ad.add i) = some (.int .i64 y)) ∧ Aside0 (Below wr.heap.size wr w'))
          ((refine KS.out _ ?_; repeat (first | exact Aside0.out (And.right (by assumption)) | refine below_alloc ?_ _ | refine below_step ?_ (by assumption) | (refine below_set ?_ ?_; rotate_left; first | exact Nat.le_refl _ | exact (Aside0.out (p := Below wr.heap.size wr _) (And.right (by assumption))).size) | refine below_drew ?_ | exact Below.refl _ _)))
          (first | (go_at_call 104; refine (and_any ins x y _ l' _ ((HG.out.step (by repeat (first | refine below_alloc ?_ _ | refine below_drew ?_ | exact Below.refl _ _))).more (by have := HG.out.len; omega)) HV.out HY.out).mono ?_; rintro e we ⟨v2, l2, x2, rfl, hg, he, hv, hb⟩; obtain ⟨A2, c2, rfl, _⟩ := hg.slice; obtain ⟨hc, hf⟩ := bcell hb))
        all_goals
          have hg2 := hg.more (m := xs.length - (i + 1)) (by have := HG.out.len; have := he.len; omega)
          go_wp2_with (fail)
          go_meet
          first
            | exact ⟨_, _, l2, x2, rfl, rfl, ⟨(finA (HL.out.drew.step hb) hg2).1⟩, ⟨(finA (HL.out.drew.step hb) hg2).2⟩, ⟨HE.out.trans he⟩, ⟨hv⟩⟩
            | exact ⟨_, _, l2, x2, rfl, rfl, ⟨(finC HL.out (below_step (below_drew (Below.refl _ _)) hb) hg2).1⟩, ⟨(finC HL.out (below_step (below_drew (Below.refl _ _)) hb) hg2).2⟩, ⟨HE.out.trans he⟩, ⟨hv⟩⟩
      case rest =>
        clear k0 k1 hx0 KS HL HG HE HV HY
        obtain ⟨gh, v2, l2, x2, rfl, rfl, HL, HG, HE, HV⟩ := hcut
        go_wp2_with (first
          | ((with_reducible refine zg 26 rfl ?_); refine zl 0 30 (.tmp 8) HL hu ?_)
          | ((with_reducible refine zst 30 (.tmp 2) (.tmp 26) rfl ?_); refine zs 2 0 30 (.tmp 2) (.tmp 26) [.int .i64 ins, v2] HL ?_ (h1 := slice_one HG.out.row); intro w3 HL3 hfar; replace HG := am (HG.out.far HL.out 2 rfl hfar); clear HL hfar))
        go_roundw
        case rel => exact ⟨i + 1, x2, v2, l2, rfl, by go_num, by omega, ⟨HL3.out.drop⟩, HG, HE, HV⟩
        case measure => simp [intOf]; omega
    · obtain rfl : i = xs.length := by omega
      go_wp2_with (first
        | ((with_reducible refine zg 28 rfl ?_); refine zl 1 30 (.tmp 2) HL hu ?_)
        | ((with_reducible refine zst 30 (.tmp 4) (.tmp 28) rfl ?_); refine zs 0 0 30 (.tmp 4) (.tmp 28) [.int .i64 ins, .slice A' l'.length c'] HL ?_; intro w3 HL3 hfar; replace HG := am (HG.out.far HL.out 0 rfl hfar); clear HL hfar))
      refine zret 0 4 5 30 HL3 hu ?_
      exact ⟨_, l', x, rfl, HG.out.less (by omega), HE.out, HV.out, HL3.out.below⟩
def turnI (a : Int) : Int := bits .xor .i64 a 1
theorem turn_nat (a : Nat) (h : a < 9223372036854775807) : turnI (a : Int) = ((a ^^^ 1 : Nat) : Int) := by
  have hx : a ^^^ 1 < 2 ^ 63 := Nat.xor_lt_two_pow (by omega) (by omega)
  show IntKind.i64.wrap ((BitVec.ofInt 64 (a : Int) ^^^ BitVec.ofInt 64 1).toNat : Int) = _
  rw [BitVec.toNat_xor, ofInt_u64 a (by omega), show (BitVec.ofInt 64 1).toNat = 1 from rfl, IntKind.wrap_i64]
  omega
theorem Vld.turn {ins : Int} {n : Nat} {x : Int} (h : Vld ins n x) (hb : 2 * (1 + ins + n) < 9223372036854775807) : Vld ins n (turnI x) := by
  obtain ⟨a, rfl⟩ := Int.eq_ofNat_of_zero_le h.1
  have h2 := h.2
  have e := turn_nat a (by omega)
  have hd : (a ^^^ 1) / 2 = a / 2 := by rw [Nat.xor_div_two]; simp
  rw [Vld, e]
  exact ⟨by omega, by omega⟩
theorem turn_any (a : Int) (w : World) : Calls Try.prog 107 #[.int .i64 a] w fun e w' => e = .returned (.int .i64 (turnI a)) ∧ w = w' := by
  go_enter Try.func107, Try.ntmps107
  go_wp2
  go_ret
  exact ⟨rfl, rfl⟩
theorem GOk.bnd {ins : Int} {v : Value} {l : List S117} {k : Nat} {w : World} (h : GOk ins v l k w) : 2 * (1 + ins + l.length) < 9223372036854775807 := by
  have := h.i1
  have := h.len
  omega
set_option maxHeartbeats 16000000 in
set_option maxRecDepth 100000 in
theorem or_any (ins : Int) (v : Value) (l : List S117) (a b : Int) (w : World) (h : GOk ins v l 1 w) (ha : Vld ins l.length a) (hb : Vld ins l.length b) :
    Calls Try.prog 105 #[.agg #[.int .i64 ins, v], .int .i64 a, .int .i64 b] w (RetG ins l 1 w) := by
  obtain ⟨A0, c0, rfl, hlc, _⟩ := h.slice
  have HG := am (h.less (Nat.zero_le _))
  have HM : Aside0 (l.length + 1 ≤ 1000000000) := ⟨h.len⟩
  have HE := am (Ext.refl (k := 0) h.ok)
  have Ha := am ha
  have Hb := am hb
  have HL : Aside0 (Led [] w w) := ⟨Led.nil w⟩
  have hu30 := Try.underlying30
  clear h ha hb hlc
  go_enter Try.func105, Try.ntmps105
  go_upto_region 1 with (first
    | ((with_reducible refine zg 3 rfl ?_); refine zx 3 [.int .i64 ins, .slice A0 l.length c0] 30 HL ?_; clear HL; intro g3 w1_ HL hb_; replace HG := am (HG.out.step hb_); clear hb_)
    | ((with_reducible refine zg 6 rfl ?_); refine zx 6 [.int .i64 0, .slice none 0 0] 30 HL ?_; clear HL; intro g6 w2_ HL hb_; replace HG := am (HG.out.step hb_); clear hb_))
  have k0 : w2_.cell? ⟨g3, 0, none⟩ = some (.int .i64 ins) := blk_cell (HL.out.get 1 rfl) 0
  have k1 : w2_.cell? ⟨g3, 1, none⟩ = some (.slice A0 l.length c0) := blk_cell (HL.out.get 1 rfl) 1
  have KS : Aside0 (∀ W, Below w2_.heap.size w2_ W → (W.cell? ⟨g3, 0, none⟩ = some (.int .i64 ins) ∧ W.cell? ⟨g3, 1, none⟩ = some (.slice A0 l.length c0)) ∧ Aside0 (Below w2_.heap.size w2_ W)) := ⟨fun W hb => ⟨⟨pw_cell_below hb k0, pw_cell_below hb k1⟩, ⟨hb⟩⟩⟩
  go_cut [8, 9] (fun sh sx wx => ∃ g8 v2 l2 x2, sh = .pointer (some ⟨g8, 0, none⟩) ∧ sx = .int .i64 x2 ∧ Aside0 (Led [(g8, [.int .i64 ins, v2], 30), (g6, [.int .i64 0, .slice none 0 0], 30), (g3, [.int .i64 ins, .slice A0 l.length c0], 30)] w wx) ∧ Aside0 (GOk ins v2 l2 0 wx) ∧ Aside0 (Ext ins l l2 (0 + 1)) ∧ Aside0 (Vld ins l2.length x2) ∧ Aside0 (l.length ≤ l2.length))
  case first =>
    go_region_held3 (fun w' => (w'.cell? ⟨g3, 0, none⟩ = some (.int .i64 ins) ∧ w'.cell? ⟨g3, 1, none⟩ = some (.slice A0 l.length c0)) ∧ Aside0 (Below w2_.heap.size w2_ w'))
      ((refine KS.out _ ?_; repeat (first | exact Aside0.out (And.right (by assumption)) | refine below_alloc ?_ _ | refine below_step ?_ (by assumption) | (refine below_set ?_ ?_; rotate_left; first | exact Nat.le_refl _ | exact (Aside0.out (p := Below w2_.heap.size w2_ _) (And.right (by assumption))).size) | refine below_drew ?_ | exact Below.refl _ _)))
      (first | (go_at_call 104; refine (and_any ins (turnI a) (turnI b) _ l _ ((HG.out.step (by repeat (first | (with_reducible exact Below.refl _ _) | refine below_alloc ?_ _ | refine below_drew ?_ | refine below_step ?_ (by assumption)))).more (m := 1) (by have := HM.out; have := HE.out.len; omega)) (Ha.out.turn HG.out.bnd) (Hb.out.turn HG.out.bnd)).mono ?_; rintro e we ⟨v2, l2, x2, rfl, hg, he, hv, hb⟩; obtain ⟨A2, c2, rfl, _⟩ := hg.slice; obtain ⟨hc, hf⟩ := bcell hb) | (go_at_call 107; refine (turn_any _ _).mono ?_; rintro e w' ⟨rfl, rfl⟩))
    all_goals
      go_wp2_with (fail)
      go_meet
      first
        | exact ⟨_, _, l2, x2, rfl, rfl, ⟨(finA (HL.out.step (by repeat (first | (with_reducible exact Below.refl _ _) | refine below_alloc ?_ _ | refine below_drew ?_ | refine below_step ?_ (by assumption)))) hg).1⟩, ⟨(finA (HL.out.step (by repeat (first | (with_reducible exact Below.refl _ _) | refine below_alloc ?_ _ | refine below_drew ?_ | refine below_step ?_ (by assumption)))) hg).2.less (Nat.zero_le _)⟩, ⟨HE.out.trans he⟩, ⟨hv⟩, ⟨he.le⟩⟩
        | exact ⟨_, _, l2, x2, rfl, rfl, ⟨(finC (HL.out.step (by repeat (first | (with_reducible exact Below.refl _ _) | refine below_alloc ?_ _ | refine below_drew ?_ | refine below_step ?_ (by assumption)))) (by repeat (first | (with_reducible exact Below.refl _ _) | refine below_alloc ?_ _ | refine below_drew ?_ | refine below_step ?_ (by assumption))) hg).1⟩, ⟨(finC (HL.out.step (by repeat (first | (with_reducible exact Below.refl _ _) | refine below_alloc ?_ _ | refine below_drew ?_ | refine below_step ?_ (by assumption)))) (by repeat (first | (with_reducible exact Below.refl _ _) | refine below_alloc ?_ _ | refine below_drew ?_ | refine below_step ?_ (by assumption))) hg).2.less (Nat.zero_le _)⟩, ⟨HE.out.trans he⟩, ⟨hv⟩, ⟨he.le⟩⟩
  case rest =>
    clear k0 k1 KS HL HG HE  
    obtain ⟨g8, v2, l2, x2, rfl, rfl, HL, HG, HE, HV2, HLE2⟩ := hcut
    obtain ⟨A2, c2, rfl, _⟩ := HG.out.slice
    replace Ha := am (Ha.out.up HLE2.out)
    replace Hb := am (Hb.out.up HLE2.out)
    have k0 : wc.cell? ⟨g8, 0, none⟩ = some (.int .i64 ins) := blk_cell HL.out.g0 0
    have k1 : wc.cell? ⟨g8, 1, none⟩ = some (.slice A2 l2.length c2) := blk_cell HL.out.g0 1
    have k2 : wc.cell? ⟨g6, 0, none⟩ = some (.int .i64 0) := blk_cell HL.out.g1 0
    have k3 : wc.cell? ⟨g6, 1, none⟩ = some (.slice none 0 0) := blk_cell HL.out.g1 1
    have f2 : wc.frozen? ⟨g6, 0, none⟩ = false := blk_frozen HL.out.g1 0
    have f3 : wc.frozen? ⟨g6, 1, none⟩ = false := blk_frozen HL.out.g1 1
    obtain ⟨n1, n2⟩ : g8 ≠ g6 ∧ g6 ≠ g8 := HL.out.ne 0 1 rfl rfl (by decide)
    go_wp2_with (fail)
    go_region_held3 (fun w' => w'.cell? ⟨g8, 0, none⟩ = some (.int .i64 ins) ∧ w'.cell? ⟨g8, 1, none⟩ = some (.slice A2 l2.length c2)) (go_keep) (first | (go_at_call 107; refine (turn_any _ _).mono ?_; rintro e w' ⟨rfl, rfl⟩))
    clear k0 k1 k2 k3 f2 f3 n1 n2
    obtain ⟨HF, hfar⟩ := HL.out.putAll 1 rfl [.int .i64 ins, .slice A2 l2.length c2] rfl
    go_wp2_with (fail)
    refine zret 1 6 7 30 (am HF) hu30 ?_
    exact ⟨_, l2, _, rfl, HG.out.far HL.out 1 rfl hfar, HE.out, HV2.out.turn HG.out.bnd, HF.below⟩
set_option maxHeartbeats 16000000 in
set_option maxRecDepth 100000 in
theorem mux_any (ins : Int) (v : Value) (l : List S117) (i a b : Int) (w : World) (h : GOk ins v l 3 w) (hi : Vld ins l.length i) (ha : Vld ins l.length a) (hb : Vld ins l.length b) :
    Calls Try.prog 98 #[.agg #[.int .i64 ins, v], .int .i64 i, .int .i64 a, .int .i64 b] w (RetG ins l 3 w) := by
  obtain ⟨A0, c0, rfl, hlc, _⟩ := h.slice
  have HG := am (h.less (Nat.zero_le _))
  have HM : Aside0 (l.length + 3 ≤ 1000000000) := ⟨h.len⟩
  have HE := am (Ext.refl (k := 0) h.ok)
  have Hi := am hi
  have Ha := am ha
  have Hb := am hb
  have HL : Aside0 (Led [] w w) := ⟨Led.nil w⟩
  have hu30 := Try.underlying30
  clear h hi ha hb hlc
  go_enter Try.func98, Try.ntmps98
  go_upto_region 2 with (first
    | ((with_reducible refine zg 4 rfl ?_); refine zx 4 [.int .i64 ins, .slice A0 l.length c0] 30 HL ?_; clear HL; intro g4 w1_ HL hb_; replace HG := am (HG.out.step hb_); clear hb_)
    | ((with_reducible refine zg 8 rfl ?_); refine zx 8 [.int .i64 0, .slice none 0 0] 30 HL ?_; clear HL; intro g8 w2_ HL hb_; replace HG := am (HG.out.step hb_); clear hb_)
    | ((with_reducible refine zg 17 rfl ?_); refine zl 1 30 (.tmp 4) HL hu30 ?_)
    | (go_at_call 104; refine (and_any ins i a _ l _ (HG.out.more (m := 1) (by have := HM.out; have := HE.out.len; omega)) Hi.out Ha.out).mono ?_; rintro e we1 ⟨v1, l1, x1, rfl, hg, he, HV1, hb⟩; obtain ⟨A1, c1, rfl, _⟩ := hg.slice; replace HL := am (HL.out.step hb); replace Hi := am (Hi.out.up he.le); replace Ha := am (Ha.out.up he.le); replace Hb := am (Hb.out.up he.le); replace HG := am hg; replace HE := am (HE.out.trans he); replace HV1 := am HV1; clear hg he hb)
    | ((with_reducible refine zg 10 rfl ?_); refine zx 10 [.int .i64 0, .slice none 0 0] 30 HL ?_; clear HL; intro g10 w3_ HL hb_; replace HG := am (HG.out.step hb_); clear hb_)
    | ((with_reducible refine zst 30 (.tmp 10) (.tmp 21) rfl ?_); refine zs 0 0 30 (.tmp 10) (.tmp 21) [.int .i64 ins, .slice A1 l1.length c1] HL ?_; intro w4_ HLn hfar; replace HG := am (HG.out.far HL.out 0 rfl hfar); replace HL := HLn; clear HLn hfar))
  have k0 : w4_.cell? ⟨g10, 0, none⟩ = some (.int .i64 ins) := blk_cell (HL.out.get 0 rfl) 0
  have k1 : w4_.cell? ⟨g10, 1, none⟩ = some (.slice A1 l1.length c1) := blk_cell (HL.out.get 0 rfl) 1
  have KS : Aside0 (∀ W, Below w4_.heap.size w4_ W → (W.cell? ⟨g10, 0, none⟩ = some (.int .i64 ins) ∧ W.cell? ⟨g10, 1, none⟩ = some (.slice A1 l1.length c1)) ∧ Aside0 (Below w4_.heap.size w4_ W)) := ⟨fun W hb => ⟨⟨pw_cell_below hb k0, pw_cell_below hb k1⟩, ⟨hb⟩⟩⟩
  go_cut [12, 13] (fun sh sx wx => ∃ g12 v2 l2 x2, sh = .pointer (some ⟨g12, 0, none⟩) ∧ sx = .int .i64 x2 ∧ Aside0 (Led [(g12, [.int .i64 ins, v2], 30), (g10, [.int .i64 ins, .slice A1 l1.length c1], 30), (g8, [.int .i64 0, .slice none 0 0], 30), (g4, [.int .i64 ins, .slice A0 l.length c0], 30)] w wx) ∧ Aside0 (GOk ins v2 l2 0 wx) ∧ Aside0 (Ext ins l l2 ((0 + 1) + 1)) ∧ Aside0 (Vld ins l2.length x2) ∧ Aside0 (l1.length ≤ l2.length))
  case first =>
    go_region_held3 (fun w' => (w'.cell? ⟨g10, 0, none⟩ = some (.int .i64 ins) ∧ w'.cell? ⟨g10, 1, none⟩ = some (.slice A1 l1.length c1)) ∧ Aside0 (Below w4_.heap.size w4_ w'))
      ((refine KS.out _ ?_; repeat (first | exact Aside0.out (And.right (by assumption)) | refine below_alloc ?_ _ | refine below_step ?_ (by assumption) | (refine below_set ?_ ?_; rotate_left; first | exact Nat.le_refl _ | exact (Aside0.out (p := Below w4_.heap.size w4_ _) (And.right (by assumption))).size) | refine below_drew ?_ | exact Below.refl _ _)))
      (first | (go_at_call 104; refine (and_any ins (turnI i) b _ l1 _ ((HG.out.step (by repeat (first | (with_reducible exact Below.refl _ _) | refine below_alloc ?_ _ | refine below_drew ?_ | refine below_step ?_ (by assumption)))).more (m := 1) (by have := HM.out; have := HE.out.len; omega)) (Hi.out.turn HG.out.bnd) Hb.out).mono ?_; rintro e we ⟨v2, l2, x2, rfl, hg, he, hv, hb⟩; obtain ⟨A2, c2, rfl, _⟩ := hg.slice; obtain ⟨hc, hf⟩ := bcell hb) | (go_at_call 107; refine (turn_any _ _).mono ?_; rintro e w' ⟨rfl, rfl⟩))
    all_goals
      go_wp2_with (fail)
      go_meet
      first
        | exact ⟨_, _, l2, x2, rfl, rfl, ⟨(finA (HL.out.step (by repeat (first | (with_reducible exact Below.refl _ _) | refine below_alloc ?_ _ | refine below_drew ?_ | refine below_step ?_ (by assumption)))) hg).1⟩, ⟨(finA (HL.out.step (by repeat (first | (with_reducible exact Below.refl _ _) | refine below_alloc ?_ _ | refine below_drew ?_ | refine below_step ?_ (by assumption)))) hg).2.less (Nat.zero_le _)⟩, ⟨HE.out.trans he⟩, ⟨hv⟩, ⟨he.le⟩⟩
        | exact ⟨_, _, l2, x2, rfl, rfl, ⟨(finC (HL.out.step (by repeat (first | (with_reducible exact Below.refl _ _) | refine below_alloc ?_ _ | refine below_drew ?_ | refine below_step ?_ (by assumption)))) (by repeat (first | (with_reducible exact Below.refl _ _) | refine below_alloc ?_ _ | refine below_drew ?_ | refine below_step ?_ (by assumption))) hg).1⟩, ⟨(finC (HL.out.step (by repeat (first | (with_reducible exact Below.refl _ _) | refine below_alloc ?_ _ | refine below_drew ?_ | refine below_step ?_ (by assumption)))) (by repeat (first | (with_reducible exact Below.refl _ _) | refine below_alloc ?_ _ | refine below_drew ?_ | refine below_step ?_ (by assumption))) hg).2.less (Nat.zero_le _)⟩, ⟨HE.out.trans he⟩, ⟨hv⟩, ⟨he.le⟩⟩
  case rest =>
    clear k0 k1 KS HL HG HE  
    obtain ⟨g12, v2, l2, x2, rfl, rfl, HL, HG, HE, HV2, HLE2⟩ := hcut
    obtain ⟨A2, c2, rfl, _⟩ := HG.out.slice
    replace Hi := am (Hi.out.up HLE2.out)
    replace Ha := am (Ha.out.up HLE2.out)
    replace Hb := am (Hb.out.up HLE2.out)
    replace HV1 := am (HV1.out.up HLE2.out)
    go_wp2_with (first
      | ((with_reducible refine zg 32 rfl ?_); refine zl 0 30 (.tmp 12) HL hu30 ?_)
      | (go_at_call 105; refine (or_any ins _ l2 x1 x2 _ (HG.out.more (m := 1) (by have := HM.out; have := HE.out.len; omega)) HV1.out HV2.out).mono ?_; rintro e we3 ⟨v3, l3, x3, rfl, hg, he, HV3, hb⟩; obtain ⟨A3, c3, rfl, _⟩ := hg.slice; replace HL := am (HL.out.step hb); replace Hi := am (Hi.out.up he.le); replace Ha := am (Ha.out.up he.le); replace Hb := am (Hb.out.up he.le); replace HV1 := am (HV1.out.up he.le); replace HV2 := am (HV2.out.up he.le); replace HG := am hg; replace HE := am (HE.out.trans he); replace HV3 := am HV3; clear hg he hb)
      | ((with_reducible refine zg 14 rfl ?_); refine zx 14 [.int .i64 0, .slice none 0 0] 30 HL ?_; clear HL; intro g14 w5_ HL hb_; replace HG := am (HG.out.step hb_); clear hb_)
      | ((with_reducible refine zst 30 (.tmp 14) (.tmp 36) rfl ?_); refine zs 0 0 30 (.tmp 14) (.tmp 36) [.int .i64 ins, .slice A3 l3.length c3] HL ?_; intro w6_ HLn hfar; replace HG := am (HG.out.far HL.out 0 rfl hfar); replace HL := HLn; clear HLn hfar)
      | ((with_reducible refine zg 38 rfl ?_); refine zl 0 30 (.tmp 14) HL hu30 ?_)
      | ((with_reducible refine zst 30 (.tmp 8) (.tmp 38) rfl ?_); refine zs 3 0 30 (.tmp 8) (.tmp 38) [.int .i64 ins, .slice A3 l3.length c3] HL ?_; intro w7_ HLn hfar; replace HG := am (HG.out.far HL.out 3 rfl hfar); replace HL := HLn; clear HLn hfar))
    refine zret 3 8 9 30 HL hu30 ?_
    exact ⟨_, l3, x3, rfl, HG.out, HE.out.mono (by omega), HV3.out, HL.out.below⟩
set_option maxHeartbeats 16000000 in
set_option maxRecDepth 100000 in
theorem xor_any (ins : Int) (v : Value) (l : List S117) (a b : Int) (w : World) (h : GOk ins v l 3 w) (ha : Vld ins l.length a) (hb : Vld ins l.length b) :
    Calls Try.prog 106 #[.agg #[.int .i64 ins, v], .int .i64 a, .int .i64 b] w (RetG ins l 3 w) := by
  obtain ⟨A0, c0, rfl, hlc, _⟩ := h.slice
  have HG := am (h.less (Nat.zero_le _))
  have HM : Aside0 (l.length + 3 ≤ 1000000000) := ⟨h.len⟩
  have HE := am (Ext.refl (k := 0) h.ok)
  have Ha := am ha
  have Hb := am hb
  have HL : Aside0 (Led [] w w) := ⟨Led.nil w⟩
  have hu30 := Try.underlying30
  clear h ha hb hlc
  go_enter Try.func106, Try.ntmps106
  go_upto_region 1 with (first
    | ((with_reducible refine zg 3 rfl ?_); refine zx 3 [.int .i64 ins, .slice A0 l.length c0] 30 HL ?_; clear HL; intro g3 w1_ HL hb_; replace HG := am (HG.out.step hb_); clear hb_)
    | ((with_reducible refine zg 6 rfl ?_); refine zx 6 [.int .i64 0, .slice none 0 0] 30 HL ?_; clear HL; intro g6 w2_ HL hb_; replace HG := am (HG.out.step hb_); clear hb_))
  have k0 : w2_.cell? ⟨g3, 0, none⟩ = some (.int .i64 ins) := blk_cell (HL.out.get 1 rfl) 0
  have k1 : w2_.cell? ⟨g3, 1, none⟩ = some (.slice A0 l.length c0) := blk_cell (HL.out.get 1 rfl) 1
  have KS : Aside0 (∀ W, Below w2_.heap.size w2_ W → (W.cell? ⟨g3, 0, none⟩ = some (.int .i64 ins) ∧ W.cell? ⟨g3, 1, none⟩ = some (.slice A0 l.length c0)) ∧ Aside0 (Below w2_.heap.size w2_ W)) := ⟨fun W hb => ⟨⟨pw_cell_below hb k0, pw_cell_below hb k1⟩, ⟨hb⟩⟩⟩
  go_cut [8, 9] (fun sh sx wx => ∃ g8 v2 l2 x2, sh = .pointer (some ⟨g8, 0, none⟩) ∧ sx = .int .i64 x2 ∧ Aside0 (Led [(g8, [.int .i64 ins, v2], 30), (g6, [.int .i64 0, .slice none 0 0], 30), (g3, [.int .i64 ins, .slice A0 l.length c0], 30)] w wx) ∧ Aside0 (GOk ins v2 l2 0 wx) ∧ Aside0 (Ext ins l l2 (0 + 3)) ∧ Aside0 (Vld ins l2.length x2) ∧ Aside0 (l.length ≤ l2.length))
  case first =>
    go_region_held3 (fun w' => (w'.cell? ⟨g3, 0, none⟩ = some (.int .i64 ins) ∧ w'.cell? ⟨g3, 1, none⟩ = some (.slice A0 l.length c0)) ∧ Aside0 (Below w2_.heap.size w2_ w'))
      ((refine KS.out _ ?_; repeat (first | exact Aside0.out (And.right (by assumption)) | refine below_alloc ?_ _ | refine below_step ?_ (by assumption) | (refine below_set ?_ ?_; rotate_left; first | exact Nat.le_refl _ | exact (Aside0.out (p := Below w2_.heap.size w2_ _) (And.right (by assumption))).size) | refine below_drew ?_ | exact Below.refl _ _)))
      (first | (go_at_call 98; refine (mux_any ins _ l a (turnI b) b _ ((HG.out.step (by repeat (first | (with_reducible exact Below.refl _ _) | refine below_alloc ?_ _ | refine below_drew ?_ | refine below_step ?_ (by assumption)))).more (m := 3) (by have := HM.out; have := HE.out.len; omega)) Ha.out (Hb.out.turn HG.out.bnd) Hb.out).mono ?_; rintro e we ⟨v2, l2, x2, rfl, hg, he, hv, hb⟩; obtain ⟨A2, c2, rfl, _⟩ := hg.slice; obtain ⟨hc, hf⟩ := bcell hb) | (go_at_call 107; refine (turn_any _ _).mono ?_; rintro e w' ⟨rfl, rfl⟩))
    all_goals
      go_wp2_with (fail)
      go_meet
      first
        | exact ⟨_, _, l2, x2, rfl, rfl, ⟨(finA (HL.out.step (by repeat (first | (with_reducible exact Below.refl _ _) | refine below_alloc ?_ _ | refine below_drew ?_ | refine below_step ?_ (by assumption)))) hg).1⟩, ⟨(finA (HL.out.step (by repeat (first | (with_reducible exact Below.refl _ _) | refine below_alloc ?_ _ | refine below_drew ?_ | refine below_step ?_ (by assumption)))) hg).2.less (Nat.zero_le _)⟩, ⟨HE.out.trans he⟩, ⟨hv⟩, ⟨he.le⟩⟩
        | exact ⟨_, _, l2, x2, rfl, rfl, ⟨(finC (HL.out.step (by repeat (first | (with_reducible exact Below.refl _ _) | refine below_alloc ?_ _ | refine below_drew ?_ | refine below_step ?_ (by assumption)))) (by repeat (first | (with_reducible exact Below.refl _ _) | refine below_alloc ?_ _ | refine below_drew ?_ | refine below_step ?_ (by assumption))) hg).1⟩, ⟨(finC (HL.out.step (by repeat (first | (with_reducible exact Below.refl _ _) | refine below_alloc ?_ _ | refine below_drew ?_ | refine below_step ?_ (by assumption)))) (by repeat (first | (with_reducible exact Below.refl _ _) | refine below_alloc ?_ _ | refine below_drew ?_ | refine below_step ?_ (by assumption))) hg).2.less (Nat.zero_le _)⟩, ⟨HE.out.trans he⟩, ⟨hv⟩, ⟨he.le⟩⟩
  case rest =>
    clear k0 k1 KS HL HG HE  
    obtain ⟨g8, v2, l2, x2, rfl, rfl, HL, HG, HE, HV2, HLE2⟩ := hcut
    obtain ⟨A2, c2, rfl, _⟩ := HG.out.slice
    replace Ha := am (Ha.out.up HLE2.out)
    replace Hb := am (Hb.out.up HLE2.out)
    go_wp2_with (first
      | ((with_reducible refine zg 19 rfl ?_); refine zl 0 30 (.tmp 8) HL hu30 ?_)
      | ((with_reducible refine zst 30 (.tmp 6) (.tmp 19) rfl ?_); refine zs 1 0 30 (.tmp 6) (.tmp 19) [.int .i64 ins, .slice A2 l2.length c2] HL ?_; intro w3_ HLn hfar; replace HG := am (HG.out.far HL.out 1 rfl hfar); replace HL := HLn; clear HLn hfar))
    refine zret 1 6 7 30 HL hu30 ?_
    exact ⟨_, l2, x2, rfl, HG.out, HE.out.mono (by omega), HV2.out, HL.out.below⟩
end Go.Proofs.Yteilkojmefipcaa.U
