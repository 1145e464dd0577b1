/- The state's literals that are taken: its map, its channel; what (*state).take does. Written for this claim. -/
import Derived.Test.YtdlfmobnmcamaaaUnitChan
import Derived.MapKept
import Derived.ChangeMaps4
import Derived.Outline
namespace Go.Proofs.Ytdlfmobnmcamaaa.Q
open Go.RowKit Go.Conc Go.MapKept Go.ChangeMaps Go.Proofs.YtdlfmobnmcamaaaW.PrintWords Go.Proofs.YtdlfmobnmcamaaaW.PrintLast Go.Proofs.YtdlfmobnmcamaaaW.PrintMore
set_option linter.unusedVariables false
set_option linter.unusedSimpArgs false

/-- The entries of a map of literals, each true, in the order in which they were laid. -/
def tentsFrom (ks : List Int) (j : Nat) : List MapEntry := (ks.zipIdx j).map fun p => { key := .int .i64 p.1, val := .bool true, born := p.2 }
def tents (ks : List Int) : Array MapEntry := (tentsFrom ks 0).toArray
theorem tents_push (ks : List Int) (x : Int) : (tents ks).push { key := .int .i64 x, val := .bool true, born := ks.length } = tents (ks ++ [x]) := by
  simp [tents, tentsFrom, List.zipIdx_append]
theorem find_tents (y : Int) : ∀ (ks : List Int) (j i : Nat), ∃ r, Instr.findNow (.int .i64) (.int .i64 y) (tentsFrom ks j) i = some r ∧ (y ∈ ks → ∃ n, r = some (n, .bool true)) ∧ (y ∉ ks → r = none)
  | [], j, i => ⟨none, rfl, by simp, by simp⟩
  | x :: ks, j, i => by
    obtain ⟨r, h1, h2, h3⟩ := find_tents y ks (j + 1) (i + 1)
    by_cases e : y = x
    · subst e
      exact ⟨some (i, .bool true), by simp [tentsFrom, Instr.findNow, Instr.sameNow], fun _ => ⟨i, rfl⟩, fun h => absurd List.mem_cons_self h⟩
    · refine ⟨r, ?_, fun h => h2 ((List.mem_cons.1 h).resolve_left e), fun h => h3 (fun h' => h (List.mem_cons_of_mem _ h'))⟩
      simp only [tentsFrom] at h1
      simp [tentsFrom, Instr.findNow, Instr.sameNow, h1, (by simpa using e : (y == x) = false)]
theorem run_taken {w : World} {m : Nat} {ks : List Int} (h : w.heap[m]? = some (.map (tents ks) ks.length)) (y : Int) :
    (Instr.lookup 61 (.map (some m)) (.int .i64 y) false).run Try.prog w = .ok (.bool (decide (y ∈ ks))) w := by
  obtain ⟨r, h1, h2, h3⟩ := find_tents y ks 0 0
  have hk := run_findKey (P := Try.prog) (w := w) (kt := 3) (k := .int .i64 y) (l := (tents ks).toList) Try.underlying3 h1
  have hc : ∀ e, (Instr.checkKey e 10000 3 (.int .i64 y)).run Try.prog w = .ok () w := fun e => run_checkKey (P := Try.prog) (w := w) (kt := 3) (k := .int .i64 y) Try.underlying3 rfl e 9999
  unfold Instr.lookup
  simp only [Sem.run_bind, run_underlying Try.underlying61, Result.andThen, Go.MapKept.run_getObj_map (P := Try.prog) h, Sem.run_pure, hc, hk]
  by_cases hy : y ∈ ks
  · obtain ⟨n, rfl⟩ := h2 hy
    simp [hy]
  · rw [h3 hy]
    simp [hy, Result.andThen, Try.zeroValue4]
theorem run_take {w : World} {m : Nat} {ks : List Int} (h : w.heap[m]? = some (.map (tents ks) ks.length)) (y : Int) (hy : y ∉ ks) :
    (Instr.mapUpdate 61 (.map (some m)) (.int .i64 y) (.bool true)).run Try.prog w = .ok () (setBlock w m (.map (tents (ks ++ [y])) (ks ++ [y]).length)) := by
  obtain ⟨r, h1, h2, h3⟩ := find_tents y ks 0 0
  rw [h3 hy] at h1
  have hk := run_findKey (P := Try.prog) (w := w) (kt := 3) (k := .int .i64 y) (l := (tents ks).toList) Try.underlying3 h1
  have hc : ∀ e, (Instr.checkKey e 10000 3 (.int .i64 y)).run Try.prog w = .ok () w := fun e => run_checkKey (P := Try.prog) (w := w) (kt := 3) (k := .int .i64 y) Try.underlying3 rfl e 9999
  unfold Instr.mapUpdate
  simp only [Sem.run_bind, run_underlying Try.underlying61, Result.andThen, Go.MapKept.run_getObj_map (P := Try.prog) h, Sem.run_pure, hc, hk, Go.MapKept.run_setObj_map (P := Try.prog) _ h, tents_push]
  simp [setBlock]

/-- The state: its block, the map of what is taken, the channel. -/
structure Held (w : World) (S mT ch cap : Nat) (lv av : Value) (ks q : List Int) : Prop where
  st : w.heap[S]? = some (.cells #[lv, av, .map (some mT), .chan (some ch)] 64 (0, 0))
  tk : w.heap[mT]? = some (.map (tents ks) ks.length)
  qu : ∃ s r, w.heap[ch]? = some (.chan cap (nums .i64 q).toArray false s r false)
  st_tk : S ≠ mT
  st_qu : S ≠ ch
  tk_qu : mT ≠ ch
/-- Nothing has turned but two blocks. -/
structure But2 (b c : Nat) (w w' : World) : Prop where
  os : w'.os = w.os
  tape : w'.tape = w.tape
  output : w'.output = w.output
  size : w.heap.size ≤ w'.heap.size
  block : ∀ k, k < w.heap.size → k ≠ b → k ≠ c → w'.heap[k]? = w.heap[k]?
theorem But2.refl (b c : Nat) (w : World) : But2 b c w w := ⟨rfl, rfl, rfl, Nat.le_refl _, fun _ _ _ _ => rfl⟩
theorem But2.trans {b c : Nat} {w w1 w2 : World} (h : But2 b c w w1) (k : But2 b c w1 w2) : But2 b c w w2 :=
  ⟨k.os.trans h.os, k.tape.trans h.tape, k.output.trans h.output, Nat.le_trans h.size k.size, fun i hi h1 h2 => (k.block i (Nat.lt_of_lt_of_le hi h.size) h1 h2).trans (h.block i hi h1 h2)⟩
theorem But2.drewN {b c : Nat} {w w1 : World} (h : But2 b c w w1) (n : Nat) : But2 b c w (w1.drewN n) := ⟨h.os, h.tape, h.output, h.size, h.block⟩
theorem But2.below {B b c : Nat} {w0 w w1 : World} (h : Below B w0 w) (hs : B ≤ w.heap.size) (hb : B ≤ b) (hc : B ≤ c) (k : But2 b c w w1) : Below B w0 w1 :=
  ⟨k.os.trans h.os, k.tape.trans h.tape, k.output.trans h.output, Nat.le_trans h.size k.size, fun i hi => (k.block i (by omega) (by omega) (by omega)).trans (h.block i hi)⟩
theorem Held.drewN {w : World} {S mT ch cap : Nat} {lv av : Value} {ks q : List Int} (h : Held w S mT ch cap lv av ks q) (n : Nat) : Held (w.drewN n) S mT ch cap lv av ks q := ⟨h.st, h.tk, h.qu, h.st_tk, h.st_qu, h.tk_qu⟩

/-- What taking a literal does. -/
def takeOf (ks q : List Int) (x : Int) : Bool × List Int × List Int := if wrap64 (-x) ∈ ks then (false, ks, q) else if x ∈ ks then (true, ks, q) else (true, ks ++ [x], q ++ [x])

section
variable {w : World} {S mT ch cap : Nat} {lv av : Value} {ks q : List Int}
theorem Held.cells (h : Held w S mT ch cap lv av ks q) : w.cell? ⟨S, 0, none⟩ = some lv ∧ w.cell? ⟨S, 1, none⟩ = some av ∧ w.cell? ⟨S, 2, none⟩ = some (.map (some mT)) ∧ w.cell? ⟨S, 3, none⟩ = some (.chan (some ch)) :=
  ⟨by rw [blk_cell h.st]; rfl, by rw [blk_cell h.st]; rfl, by rw [blk_cell h.st]; rfl, by rw [blk_cell h.st]; rfl⟩
set_option maxHeartbeats 4000000 in
set_option maxRecDepth 100000 in
theorem take_any (x : Int) (h : Held w S mT ch cap lv av ks q) (hq : q.length < cap) :
    Calls Try.prog 49 #[.pointer (some ⟨S, 0, none⟩), .int .i64 x] w fun e w' => e = .returned (.bool (takeOf ks q x).1) ∧ Held w' S mT ch cap lv av (takeOf ks q x).2.1 (takeOf ks q x).2.2 ∧ But2 mT ch w w' := by
  have H := Aside0.mk h
  obtain ⟨_, _, h2, h3⟩ := h.cells
  have hl := run_taken h.tk
  have HQ := Aside0.mk hq
  clear h hq
  by_cases e1 : wrap64 (-x) ∈ ks
  · have HE : Aside0 (takeOf ks q x = (false, ks, q)) := ⟨by rw [takeOf, if_pos e1]⟩
    go_enter Try.func49, Try.ntmps49
    go_wp2_with fail
    go_ret
    exact ⟨by rw [HE.out]; rfl, by rw [HE.out]; exact H.out, But2.refl _ _ _⟩
  · by_cases e2 : x ∈ ks
    · have HE : Aside0 (takeOf ks q x = (true, ks, q)) := ⟨by rw [takeOf, if_neg e1, if_pos e2]⟩
      go_enter Try.func49, Try.ntmps49
      go_wp2_with fail
      go_ret
      exact ⟨by rw [HE.out]; rfl, by rw [HE.out]; exact H.out, But2.refl _ _ _⟩
    · have HE : Aside0 (takeOf ks q x = (true, ks ++ [x], q ++ [x])) := ⟨by rw [takeOf, if_neg e1, if_neg e2]⟩
      have hu := run_take H.out.tk x e2
      obtain ⟨w1, hw1⟩ : ∃ w1, setBlock w mT (.map (tents (ks ++ [x])) (ks ++ [x]).length) = w1 := ⟨_, rfl⟩
      rw [hw1] at hu
      obtain ⟨cs, cr, hc⟩ := H.out.qu
      have g1 : w1.heap[S]? = w.heap[S]? := by rw [← hw1]; exact (heap_set H.out.tk).2 S H.out.st_tk
      have g2 : w1.heap[mT]? = some (.map (tents (ks ++ [x])) (ks ++ [x]).length) := by rw [← hw1]; exact (heap_set H.out.tk).1
      have g3 : w1.heap[ch]? = w.heap[ch]? := by rw [← hw1]; exact (heap_set H.out.tk).2 ch (fun e => H.out.tk_qu e.symm)
      have k3 : w1.cell? ⟨S, 3, none⟩ = some (.chan (some ch)) := by rw [blk_cell (g1.trans H.out.st)]; rfl
      have HC : Aside0 (w1.heap[ch]? = some (.chan cap (nums .i64 q).toArray false cs cr false)) := ⟨g3.trans hc⟩
      have HD : Aside0 (Held (w1.setChan ch cap ((nums .i64 q).toArray.push (.int .i64 x)) false (cs + 1) cr false) S mT ch cap lv av (ks ++ [x]) (q ++ [x])) := ⟨{
        st := by rw [World.setChan, Array.getElem?_setIfInBounds_ne (fun e => H.out.st_qu e.symm)]; exact g1.trans H.out.st
        tk := by rw [World.setChan, Array.getElem?_setIfInBounds_ne (fun e => H.out.tk_qu e.symm)]; exact g2
        qu := ⟨cs + 1, cr, by rw [Go.Conc.heap_setChan _ _ _ _ _ _ _ _ (blk_lt HC.out)]; simp [nums]⟩
        st_tk := H.out.st_tk
        st_qu := H.out.st_qu
        tk_qu := H.out.tk_qu }⟩
      have HB : Aside0 (But2 mT ch w (w1.setChan ch cap ((nums .i64 q).toArray.push (.int .i64 x)) false (cs + 1) cr false)) := ⟨{
        os := by rw [← hw1]; rfl
        tape := by rw [← hw1]; rfl
        output := by rw [← hw1]; rfl
        size := by rw [← hw1]; simp [World.setChan, setBlock]
        block := fun k hk h1 h2 => by
          rw [World.setChan, Array.getElem?_setIfInBounds_ne (fun e => h2 e.symm), ← hw1]
          exact (heap_set H.out.tk).2 k h1 }⟩
      have HR : Aside0 ((nums .i64 q).toArray.size < cap) := ⟨by simpa [nums] using HQ.out⟩
      clear g1 g2 g3 hw1 hc
      refine calls_of_wpN Try.func49 rfl ?_
      simp only [Try.ntmps49, List.size_toArray, List.length_cons, List.length_nil, Nat.reduceAdd, Nat.reduceSub, Array.replicate_succ, Array.replicate_zero, List.push_toArray, List.append_toArray, List.nil_append, List.cons_append]
      refine wpN_seq' fun K1 hK1 => ?_
      go_wp2_with fail
      refine wpN_seq' fun K2 hK2 => ?_
      go_wp2_with fail
      refine wpN_seq ?_
      refine wpN_seq' fun K3 hK3 => ?_
      go_wp2_with fail
      refine wpN_cond true rfl ?_
      rw [if_pos rfl]
      refine wpN_seq' fun K4 hK4 => ?_
      go_wp2_with fail
      refine wpN_region [_, _, _, _, _] [] _ rfl ?_
      go_wp2_with fail
      refine ⟨_, _, does_send (z' := .tuple #[]) (by rfl) HC.out HR.out, ?_⟩
      refine wpN_of_wp ?_
      go_wp2_with fail
      go_ret
      exact ⟨by rw [HE.out]; rfl, by rw [HE.out]; exact HD.out, HB.out⟩
end
end Go.Proofs.Ytdlfmobnmcamaaa.Q
