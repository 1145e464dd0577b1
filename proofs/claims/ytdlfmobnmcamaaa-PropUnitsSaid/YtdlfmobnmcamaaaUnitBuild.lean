/- The state as it is made, and the map while it is built: what the walk of prop.Unit leans on. Written for this claim. -/
import Derived.Test.YtdlfmobnmcamaaaUnitSpec
namespace Go.Proofs.Ytdlfmobnmcamaaa.Q
open Go.RowKit Go.Conc Go.MapKept Go.ChangeMaps Go.Proofs.YtdlfmobnmcamaaaW.PrintWords Go.Proofs.YtdlfmobnmcamaaaW.PrintLast Go.Proofs.YtdlfmobnmcamaaaW.PrintMore
set_option linter.unusedVariables false
set_option linter.unusedSimpArgs false
/-- The world in which the state has been made. -/
def madeW (w : World) (lv : Value) (cp : Nat) : World :=
  (((w.alloc (.map #[] 0)).alloc (.map #[] 0)).alloc (.chan cp #[] false 0 0 false)).alloc (.cells #[lv, .map (some w.heap.size), .map (some (w.heap.size + 1)), .chan (some (w.heap.size + 1 + 1))] 64)
theorem alloc_new (w : World) (o : Obj) : (w.alloc o).heap[w.heap.size]? = some o := (Go.MapKept.heap_alloc w o).1
theorem alloc_old (w : World) (o : Obj) (k : Nat) (h : k < w.heap.size) : (w.alloc o).heap[k]? = w.heap[k]? := (Go.MapKept.heap_alloc w o).2 k h
theorem alloc_size (w : World) (o : Obj) : (w.alloc o).heap.size = w.heap.size + 1 := by simp
theorem made_facts (w : World) (lv : Value) (cp : Nat) : Held (madeW w lv cp) (w.heap.size + 1 + 1 + 1) (w.heap.size + 1) (w.heap.size + 1 + 1) cp lv (.map (some w.heap.size)) [] [] ∧ Groups (madeW w lv cp) w.heap.size (w.heap.size + 1 + 1 + 1 + 1) [] ∧ (madeW w lv cp).heap.size = w.heap.size + 1 + 1 + 1 + 1 ∧ ∀ B w0, B ≤ w.heap.size → Below B w0 w → Below B w0 (madeW w lv cp) := by
  have s1 := alloc_size w (.map #[] 0)
  have s2 := alloc_size (w.alloc (.map #[] 0)) (.map #[] 0)
  have s3 := alloc_size ((w.alloc (.map #[] 0)).alloc (.map #[] 0)) (.chan cp #[] false 0 0 false)
  have s4 := alloc_size (((w.alloc (.map #[] 0)).alloc (.map #[] 0)).alloc (.chan cp #[] false 0 0 false)) (.cells #[lv, .map (some w.heap.size), .map (some (w.heap.size + 1)), .chan (some (w.heap.size + 1 + 1))] 64)
  have h4 := alloc_new (((w.alloc (.map #[] 0)).alloc (.map #[] 0)).alloc (.chan cp #[] false 0 0 false)) (.cells #[lv, .map (some w.heap.size), .map (some (w.heap.size + 1)), .chan (some (w.heap.size + 1 + 1))] 64)
  have h3 := alloc_new ((w.alloc (.map #[] 0)).alloc (.map #[] 0)) (.chan cp #[] false 0 0 false)
  have h2 := alloc_new (w.alloc (.map #[] 0)) (.map #[] 0)
  have h1 := alloc_new w (.map #[] 0)
  rw [s3, s2, s1] at h4
  rw [s2, s1] at h3
  rw [s1] at h2
  have o4 := fun k hk => alloc_old (((w.alloc (.map #[] 0)).alloc (.map #[] 0)).alloc (.chan cp #[] false 0 0 false)) (.cells #[lv, .map (some w.heap.size), .map (some (w.heap.size + 1)), .chan (some (w.heap.size + 1 + 1))] 64) k hk
  have o3 := fun k hk => alloc_old ((w.alloc (.map #[] 0)).alloc (.map #[] 0)) (.chan cp #[] false 0 0 false) k hk
  have o2 := fun k hk => alloc_old (w.alloc (.map #[] 0)) (.map #[] 0) k hk
  have b2 : (madeW w lv cp).heap[w.heap.size + 1]? = some (.map #[] 0) := (o4 _ (by omega)).trans ((o3 _ (by omega)).trans h2)
  have b1 : (madeW w lv cp).heap[w.heap.size]? = some (.map #[] 0) := (o4 _ (by omega)).trans ((o3 _ (by omega)).trans ((o2 _ (by omega)).trans h1))
  have b3 : (madeW w lv cp).heap[w.heap.size + 1 + 1]? = some (.chan cp #[] false 0 0 false) := (o4 _ (by omega)).trans h3
  refine ⟨⟨h4, b2, ⟨0, 0, b3⟩, by omega, by omega, by omega⟩, ⟨⟨#[], 0, b1, rfl⟩, by simp, by simp, by omega⟩, by unfold madeW; omega, fun B w0 hB h => ?_⟩
  exact ((((h.alloc hB _).alloc (by rw [s1]; omega) _).alloc (by rw [s2, s1]; omega) _).alloc (by rw [s3, s2, s1]; omega) _)

/-- What the groups hold: of each literal the numbers that have come with it. -/
def zsOf (done : List (Int × Int)) (y : Int) : List Int := (done.filter fun p => p.1 == y).map (·.2)
def Sem (gs : List Gr) (done : List (Int × Int)) : Prop := ∀ y v zs, GAt gs y v zs → zs = zsOf done y
theorem Sem.none : Sem [] [] := fun y v zs h => by
  rcases h with ⟨i, hi⟩ | ⟨_, _, rfl⟩
  · simp at hi
  · rfl
theorem zsOf_push_same (done : List (Int × Int)) (y x : Int) : zsOf (done ++ [(y, x)]) y = zsOf done y ++ [x] := by simp [zsOf]
theorem zsOf_push_other (done : List (Int × Int)) (y x z : Int) (h : z ≠ y) : zsOf (done ++ [(y, x)]) z = zsOf done z := by
  simp [zsOf, show ¬ y = z from fun e => h e.symm]
theorem GAt.total {w : World} {m base : Nat} {gs : List Gr} (h : Groups w m base gs) (y : Int) : ∃ v zs, GAt gs y v zs := by
  obtain ⟨v, zs, h1, _⟩ := run_group h.ents y
  exact ⟨v, zs, h1⟩
theorem Sem.push {w : World} {m base : Nat} {gs gs' : List Gr} {done : List (Int × Int)} {y x : Int} {v v' : Value} {zs : List Int} (hG : Groups w m base gs') (hG0 : Groups w m base gs ∨ ∃ w0, Groups w0 m base gs) (h : Sem gs done) (e : GAt gs y v zs) (h1 : GAt gs' y v' (zs ++ [x])) (h2 : ∀ z u us, z ≠ y → GAt gs z u us → GAt gs' z u us) : Sem gs' (done ++ [(y, x)]) := by
  intro z u us hz
  by_cases c : z = y
  · subst c
    rw [zsOf_push_same, ← h z v zs e]
    exact (hG.unique hz h1).2
  · rw [zsOf_push_other _ _ _ _ c]
    obtain ⟨u0, us0, h0⟩ : ∃ u0 us0, GAt gs z u0 us0 := by
      rcases hG0 with hg | ⟨_, hg⟩
      · exact GAt.total hg z
      · exact GAt.total hg z
    rw [(hG.unique hz (h2 z u0 us0 c h0)).2]
    exact h z u0 us0 h0
theorem GAt.own {w : World} {m base : Nat} {gs : List Gr} (h : Groups w m base gs) {y : Int} {v : Value} {zs : List Int} (e : GAt gs y v zs) : w.ownsRow base 3 1 v zs.length (nums .i64 zs) := by
  rcases e with ⟨i, hi⟩ | ⟨_, rfl, rfl⟩
  · exact h.own _ (List.mem_of_getElem? hi)
  · exact own_nil _ _ _ _
theorem zsOf_le (done : List (Int × Int)) (y : Int) : (zsOf done y).length ≤ done.length := by
  simp only [zsOf, List.length_map]; exact List.length_filter_le _ _
theorem grown_from {w w5 : World} {o : Obj} {row : Option Nat} (h : ((w.drew).alloc o).grownBy w5 row) : w.grownBy w5 row :=
  ⟨h.os, h.tape, h.output, by have := h.size; simp at this; omega, fun i hi hne => (h.block i (by simp; omega) hne).trans (alloc_old w.drew o i hi)⟩
/-- The statement 'at[x] = append(at[x], i)', behind its append. -/
theorem round_step {W w5 : World} {m base : Nat} {gs : List Gr} {x i : Int} {A : Option Addr} {c cap g : Nat} {zs : List Int} {o : Obj} (h : Groups W m base gs) (e : GAt gs x (.slice A zs.length c) zs) (hs : base ≤ W.heap.size)
    (hgrow : ((W.alloc o).drew).grownBy w5 (Value.slice A zs.length c).ownBlock) (hown : w5.ownsRow base 3 1 (.slice (some ⟨g, 0, none⟩) (zs.length + 1) cap) (zs.length + 1) (nums .i64 zs ++ [.int .i64 i])) (hat : (Value.slice A zs.length c).ownBlock = some g ∨ g = W.heap.size + 1) :
    ∃ w6 gs', (Instr.mapUpdate 60 (.map (some m)) (.int .i64 x) (.slice (some ⟨g, 0, none⟩) (zs.length + 1) cap)).run Try.prog w5 = .ok () w6 ∧ Groups w6 m base gs' ∧ GAt gs' x (.slice (some ⟨g, 0, none⟩) (zs.length + 1) cap) (zs ++ [i]) ∧ (∀ z u us, z ≠ x → GAt gs z u us → GAt gs' z u us) ∧ W.heap.size ≤ w6.heap.size ∧
      ∀ (B : Nat) (w0 : World), B ≤ m → Below B w0 W → Below B w0 w6 ∧ ∀ k, m < k → k < base → w6.heap[k]? = W.heap[k]? := by
  have hg : W.grownBy w5 (Value.slice A zs.length c).ownBlock :=
    ⟨hgrow.os, hgrow.tape, hgrow.output, by have := hgrow.size; simp at this; omega, fun k hk hne => (hgrow.block k (by simp; omega) hne).trans (alloc_old W o k hk)⟩
  have hb : ∀ b, (Value.slice A zs.length c).ownBlock = some b → base ≤ b := fun b hb => own_base (GAt.own h e) b hb
  obtain ⟨w6, gs', h1, h2, h3, h4, h5, h6⟩ := h.round (x := i) e (w3 := w5) (v' := .slice (some ⟨g, 0, none⟩) (zs.length + 1) cap) hg (by simpa [nums] using hown) (by
    rcases hat with hat | hat
    · exact .inl (by rw [hat]; rfl)
    · exact .inr ⟨g, rfl, by omega⟩) (by simp [Value.ownBlock])
  refine ⟨w6, gs', h1, h2, h5, h6, by rw [h4]; exact hg.size, fun B w0 hB hw => ⟨?_, fun k hk1 hk2 => ?_⟩⟩
  · have hl := h.low
    exact pw_below_grown (pw_below_grown hw _ (by omega) hg (fun k hk => by have := hb k hk; omega)) _ (by have := hg.size; omega) h3 (fun k hk => by cases hk; omega)
  · exact (h3.block k (by have := hg.size; omega) (fun e' => by cases e'; omega)).trans (hg.block k (by omega) (fun e' => by have := hb k e'.symm; omega))
theorem same_cell {w w' : World} {k i : Nat} {v : Value} (h : w'.heap[k]? = w.heap[k]?) (hc : w.cell? ⟨k, i, none⟩ = some v) : w'.cell? ⟨k, i, none⟩ = some v := by
  rw [← hc]; simp only [World.cell?, h]
theorem Held.same {w w' : World} {S mT ch cap : Nat} {lv av : Value} {ks q : List Int} (h : Held w S mT ch cap lv av ks q) (h1 : w'.heap[S]? = w.heap[S]?) (h2 : w'.heap[mT]? = w.heap[mT]?) (h3 : w'.heap[ch]? = w.heap[ch]?) : Held w' S mT ch cap lv av ks q :=
  ⟨h1.trans h.st, h2.trans h.tk, by obtain ⟨s, r, hc⟩ := h.qu; exact ⟨s, r, h3.trans hc⟩, h.st_tk, h.st_qu, h.tk_qu⟩
/-- Which pairs have come: of clauses ahead of i all, of clause i those ahead of j. -/
def Came (l : List (List Int)) (i j : Nat) (done : List (Int × Int)) : Prop :=
  done.length = (l.take i).flatten.length + j ∧ ∀ p ∈ done, ∃ m : Nat, p.2 = (m : Int) ∧ m < l.length ∧ True
def CameAll (l : List (List Int)) (i j : Nat) (done : List (Int × Int)) : Prop :=
  ∀ (m k : Nat) c, l[m]? = some c → (h : k < c.length) → (m < i ∨ m = i ∧ k < j) → (c[k], (m : Int)) ∈ done
theorem came_start (l : List (List Int)) : Came l 0 0 [] ∧ CameAll l 0 0 [] := ⟨⟨by simp, by simp⟩, fun m k c _ _ h => by omega⟩
theorem came_step {l : List (List Int)} {i j : Nat} {done : List (Int × Int)} (hi : i < l.length) (hj : j < l[i].length) (h1 : Came l i j done) (h2 : CameAll l i j done) : Came l i (j + 1) (done ++ [(l[i][j], (i : Int))]) ∧ CameAll l i (j + 1) (done ++ [(l[i][j], (i : Int))]) := by
  refine ⟨⟨by have := h1.1; simp only [List.length_append, List.length_cons, List.length_nil]; omega, fun p hp => ?_⟩, fun m k c hc hk h => ?_⟩
  · rcases List.mem_append.1 hp with h | h
    · exact h1.2 p h
    · simp at h
      subst h
      exact ⟨i, rfl, hi, trivial⟩
  · by_cases c1 : m = i ∧ k = j
    · obtain ⟨rfl, rfl⟩ := c1
      rw [List.getElem?_eq_getElem hi] at hc
      cases hc
      simp
    · exact List.mem_append_left _ (h2 m k c hc hk (by omega))
theorem came_next {l : List (List Int)} {i j : Nat} {done : List (Int × Int)} (hi : i < l.length) (hj : j = l[i].length) (h1 : Came l i j done) (h2 : CameAll l i j done) : Came l (i + 1) 0 done ∧ CameAll l (i + 1) 0 done := by
  refine ⟨⟨?_, h1.2⟩, fun m k c hc hk h => ?_⟩
  · rw [List.take_succ_eq_append_getElem hi, List.flatten_append]
    have := h1.1
    simp only [List.length_append, List.flatten_cons, List.flatten_nil, List.append_nil]
    omega
  · refine h2 m k c hc hk ?_
    by_cases c1 : m = i
    · subst c1
      rw [List.getElem?_eq_getElem hi] at hc
      cases hc
      omega
    · omega
theorem occ_of {l : List (List Int)} {done : List (Int × Int)} {j : Nat} (h1 : Came l l.length j done) (h2 : CameAll l l.length j done) (y : Int) : Occ l y (zsOf done y) := by
  refine ⟨fun z hz => ?_, fun i c hc hy => ?_⟩
  · simp only [zsOf, List.mem_map, List.mem_filter] at hz
    obtain ⟨p, ⟨hp, _⟩, rfl⟩ := hz
    obtain ⟨m, hm, hml, _⟩ := h1.2 p hp
    exact ⟨m, hm, hml⟩
  · obtain ⟨k, hk, rfl⟩ := List.getElem_of_mem hy
    have := h2 i k c hc hk (.inl (List.getElem?_eq_some_iff.1 hc).1)
    simp only [zsOf, List.mem_map, List.mem_filter]
    exact ⟨_, ⟨this, by simp⟩, rfl⟩
/-- What the work leans on, once the map is built. -/
theorem laid_of {w W : World} {B j : Nat} {A0 : Option Addr} {l : List (List Int)} {gs : List Gr} {done : List (Int × Int)} (hr : Kd.C (Kd.slice 3 (Kd.int .i64)) w A0 l.length l) (hB : Below w.heap.size w W) (hw : w.heap.size ≤ B) (hz : B + 1 + 1 + 1 + 1 ≤ W.heap.size) (hG : Groups W B (B + 1 + 1 + 1 + 1) gs) (hS : Sem gs done) (h1 : Came l l.length j done) (h2 : CameAll l l.length j done) : Laid W (B + 1) (B + 1 + 1) A0 B l where
  row w' h := Kd.C_below hr (But2.below hB hB.size (by omega) (by omega) h)
  occ y _ := by
    obtain ⟨v, zs, hg, hl⟩ := run_group hG.ents y
    have ho := GAt.own hG hg
    obtain ⟨A, c, rfl⟩ := own_slice ho
    refine ⟨A, c, zs, ?_, fun w' h => ⟨hl w' (h.block B (by omega) (by omega) (by omega)), ?_⟩⟩
    · rw [hS y _ zs hg]; exact occ_of h1 h2 y
    · have ho' := own_move ho (w1 := w') (fun k hk => h.block k (own_lt ho k hk) (by have := own_base ho k hk; omega) (by have := own_base ho k hk; omega))
      exact Kd.C_of_reads (d := 0) (own_reads_of' (d := 0) ho')
theorem inv_start (l : List (List Int)) (known : List Int) : Inv l known (fun _ => True) [] 0 := ⟨by simp, by simp, by simp, by simp, by simp, by simp, fun _ _ _ => .inl trivial⟩
theorem run_range (w : World) (m : Nat) (ks : List Int) (h : w.heap[m]? = some (.map (tents ks) ks.length)) : (Instr.range 61 (.map (some m))).run Try.prog w = .ok (.pointer (some ⟨w.heap.size, 0, none⟩)) (w.alloc (.mapIter (some m) ks.length #[] ks.length)) := by
  unfold Instr.range
  simp [Sem.run_bind, run_underlying Try.underlying61, Result.andThen, Go.MapKept.run_getObj_map (P := Try.prog) h]
theorem step_world {W w1 : World} {r : Nat} {o : Obj} (hw : w1 = W ∨ w1 = W.drew) (hr : W.heap[r]? = some o) (o' : Obj) : (setBlock w1 r o').heap[r]? = some o' ∧ (∀ k, k ≠ r → (setBlock w1 r o').heap[k]? = W.heap[k]?) ∧ (setBlock w1 r o').heap.size = W.heap.size ∧ ∀ B w0, B ≤ r → Below B w0 W → Below B w0 (setBlock w1 r o') := by
  have e : (setBlock w1 r o').heap = W.heap.setIfInBounds r o' := by rcases hw with rfl | rfl <;> rfl
  have h := heap_set (o' := o') hr
  refine ⟨by rw [e]; exact h.1, fun k hk => by rw [e]; exact h.2 k hk, by rw [e]; simp, fun B w0 hB hb => ⟨?_, ?_, ?_, by rw [e]; simpa using hb.size, fun k hk => by rw [e, h.2 k (by omega)]; exact hb.block k hk⟩⟩
  · rcases hw with rfl | rfl <;> exact hb.os
  · rcases hw with rfl | rfl <;> exact hb.tape
  · rcases hw with rfl | rfl <;> exact hb.output
def seenN : Option Obj → Nat
  | some (.mapIter _ _ s _) => s.size
  | _ => 0
/-- What has come out of the range so far. -/
def outOf (ks : List Int) (js : List Nat) : List Int := js.map fun j => ks.getD j 0
theorem outOf_push (ks : List Int) (js : List Nat) (j : Nat) (h : j < ks.length) : outOf ks (js ++ [j]) = outOf ks js ++ [ks[j]] := by
  simp [outOf, List.getD_eq_getElem?_getD, h]
theorem outOf_all (ks : List Int) (js : List Nat) (hn : js.Nodup) (h1 : ∀ j ∈ js, j < ks.length) (h2 : ∀ j, j < ks.length → j ∈ js) : (outOf ks js).Perm ks := by
  have hp : js.Perm (List.range ks.length) := (List.perm_ext_iff_of_nodup hn List.nodup_range).2 fun j => by rw [List.mem_range]; exact ⟨h1 j, h2 j⟩
  have e : (List.range ks.length).map (fun j => ks.getD j 0) = ks := by
    apply List.ext_getElem (by simp)
    intro i h3 h4
    simp [List.getD_eq_getElem?_getD, h4]
  have := hp.map (fun j => ks.getD j 0)
  rw [e] at this
  exact this
theorem js_room {n : Nat} {js : List Nat} (hn : js.Nodup) (h1 : ∀ j ∈ js, j < n) : js.length ≤ n := by
  have := List.Nodup.length_le_of_subset hn (l₂ := List.range n) (fun j hj => List.mem_range.2 (h1 j hj))
  simpa using this
end Go.Proofs.Ytdlfmobnmcamaaa.Q
