/- The map of where literals stand, while it is built: a group by, over its entries. Written for this claim. -/
import Derived.Test.YtdlfmobnmcamaaaUnitRun
namespace Go.Proofs.Ytdlfmobnmcamaaa.Q
open Go.RowKit Go.Conc Go.MapKept Go.ChangeMaps Go.Proofs.YtdlfmobnmcamaaaW.PrintWords Go.Proofs.YtdlfmobnmcamaaaW.PrintLast Go.Proofs.YtdlfmobnmcamaaaW.PrintMore
set_option linter.unusedVariables false
set_option linter.unusedSimpArgs false

abbrev Gr := Int × Value × List Int
/-- Two groups: two keys, two rows. -/
def Apart (g h : Gr) : Prop := g.1 ≠ h.1 ∧ (g.2.1.ownBlock = none ∨ g.2.1.ownBlock ≠ h.2.1.ownBlock)
theorem Apart.symm {g h : Gr} (k : Apart g h) : Apart h g := ⟨fun e => k.1 e.symm, by
  rcases k.2 with a | a
  · cases e : h.2.1.ownBlock with
    | none => exact .inl rfl
    | some b => exact .inr (by rw [a]; simp)
  · exact .inr (fun e => a e.symm)⟩
/-- The map in memory. -/
def Ments (w : World) (m : Nat) (gs : List Gr) : Prop := ∃ es clock, w.heap[m]? = some (.map es clock) ∧ es.toList.map (fun e => (e.key, e.val)) = gs.map fun g => (Value.int .i64 g.1, g.2.1)
structure Groups (w : World) (m base : Nat) (gs : List Gr) : Prop where
  ents : Ments w m gs
  own : ∀ g ∈ gs, w.ownsRow base 3 1 g.2.1 g.2.2.length (nums .i64 g.2.2)
  far : ∀ (i j : Nat) (g h : Gr), gs[i]? = some g → gs[j]? = some h → i ≠ j → Apart g h
  low : m < base
/-- What stands at a key. -/
def GAt (gs : List Gr) (y : Int) (v : Value) (zs : List Int) : Prop := (∃ i : Nat, gs[i]? = some (y, v, zs)) ∨ ((∀ g ∈ gs, g.1 ≠ y) ∧ v = .slice none 0 0 ∧ zs = [])
theorem Groups.unique {w : World} {m base : Nat} {gs : List Gr} (h : Groups w m base gs) {y : Int} {v v' : Value} {zs zs' : List Int} (a : GAt gs y v zs) (b : GAt gs y v' zs') : v = v' ∧ zs = zs' := by
  rcases a with ⟨i, hi⟩ | ⟨h1, rfl, rfl⟩
  · rcases b with ⟨j, hj⟩ | ⟨h2, _, _⟩
    · by_cases e : i = j
      · subst e
        rw [hi] at hj
        cases hj
        exact ⟨rfl, rfl⟩
      · exact absurd rfl (h.far i j _ _ hi hj e).1
    · exact absurd rfl (h2 _ (List.mem_of_getElem? hi))
  · rcases b with ⟨j, hj⟩ | ⟨_, rfl, rfl⟩
    · exact absurd rfl (h1 _ (List.mem_of_getElem? hj))
    · exact ⟨rfl, rfl⟩
theorem find_group (y : Int) : ∀ (gs : List Gr) (es : List MapEntry) (k : Nat), es.map (fun e => (e.key, e.val)) = gs.map (fun g => (Value.int .i64 g.1, g.2.1)) →
    (Instr.findNow (.int .i64) (.int .i64 y) es k = some none ∧ ∀ g ∈ gs, g.1 ≠ y) ∨ ∃ i v zs, gs[i]? = some (y, v, zs) ∧ Instr.findNow (.int .i64) (.int .i64 y) es k = some (some (k + i, v))
  | [], [], k, _ => .inl ⟨rfl, by simp⟩
  | [], _ :: _, _, h => by simp at h
  | _ :: _, [], _, h => by simp at h
  | (x, v, zs) :: gs, e :: es, k, h => by
    simp only [List.map_cons, List.cons.injEq, Prod.mk.injEq] at h
    obtain ⟨⟨h1, h2⟩, h3⟩ := h
    by_cases c : y = x
    · subst c
      exact .inr ⟨0, v, zs, rfl, by simp [Instr.findNow, Instr.sameNow, h1, h2]⟩
    · have cb : (y == x) = false := by simpa using c
      rcases find_group y gs es (k + 1) h3 with ⟨h4, h5⟩ | ⟨i, v', zs', h4, h5⟩
      · refine .inl ⟨by simp [Instr.findNow, Instr.sameNow, h1, cb, h4], fun g hg => ?_⟩
        rcases List.mem_cons.1 hg with rfl | hg
        · exact fun e => c e.symm
        · exact h5 g hg
      · exact .inr ⟨i + 1, v', zs', by simpa using h4, by simp only [Instr.findNow, Instr.sameNow, h1, cb, h5, if_true]; congr 3; omega⟩
section
variable {w : World} {m base : Nat} {gs : List Gr}
theorem run_group (h : Ments w m gs) (y : Int) : ∃ v zs, GAt gs y v zs ∧ ∀ w', w'.heap[m]? = w.heap[m]? → (Instr.lookup 60 (.map (some m)) (.int .i64 y) false).run Try.prog w' = .ok v w' := by
  obtain ⟨es, clock, hb, he⟩ := h
  have hf := find_group y gs es.toList 0 he
  have key : ∀ r, Instr.findNow (.int .i64) (.int .i64 y) es.toList 0 = some r → ∀ w' : World, w'.heap[m]? = some (.map es clock) → (Instr.lookup 60 (.map (some m)) (.int .i64 y) false).run Try.prog w' = .ok (match r with | some (_, v) => v | none => .slice none 0 0) w' := by
    intro r h1 w' hb'
    have hk := run_findKey (P := Try.prog) (w := w') (kt := 3) (k := .int .i64 y) (l := es.toList) Try.underlying3 h1
    have hc : ∀ e, (Instr.checkKey e 10000 3 (.int .i64 y)).run Try.prog w' = .ok () w' := fun e => run_checkKey (P := Try.prog) (w := w') (kt := 3) (k := .int .i64 y) Try.underlying3 rfl e 9999
    unfold Instr.lookup
    simp only [Sem.run_bind, run_underlying Try.underlying60, Result.andThen, Go.MapKept.run_getObj_map (P := Try.prog) hb', Sem.run_pure, hc, hk]
    cases r with
    | none => simp [Result.andThen, Try.zeroValue23]
    | some p => simp
  rcases hf with ⟨h1, h2⟩ | ⟨i, v, zs, h1, h2⟩
  · exact ⟨.slice none 0 0, [], .inr ⟨h2, rfl, rfl⟩, fun w' hw => key none h1 w' (hw.trans hb)⟩
  · exact ⟨v, zs, .inl ⟨i, h1⟩, fun w' hw => key _ h2 w' (hw.trans hb)⟩
theorem run_put (h : Ments w m gs) (y : Int) (v' : Value) (zs' : List Int) : ∃ w' gs', (Instr.mapUpdate 60 (.map (some m)) (.int .i64 y) v').run Try.prog w = .ok () w' ∧ Ments w' m gs' ∧ w.grownBy w' (some m) ∧ w'.heap.size = w.heap.size ∧
    ((∃ i v zs, gs[i]? = some (y, v, zs) ∧ gs' = gs.set i (y, v', zs')) ∨ ((∀ g ∈ gs, g.1 ≠ y) ∧ gs' = gs ++ [(y, v', zs')])) := by
  obtain ⟨es, clock, hb, he⟩ := h
  have hf := find_group y gs es.toList 0 he
  have hgr : ∀ o, w.grownBy (setBlock w m o) (some m) ∧ (setBlock w m o).heap.size = w.heap.size := fun o => ⟨⟨rfl, rfl, rfl, by simp [setBlock], fun i _ hi => (heap_set hb).2 i (fun e => hi (by rw [e]))⟩, by simp [setBlock]⟩
  have hc : ∀ e, (Instr.checkKey e 10000 3 (.int .i64 y)).run Try.prog w = .ok () w := fun e => run_checkKey (P := Try.prog) (w := w) (kt := 3) (k := .int .i64 y) Try.underlying3 rfl e 9999
  rcases hf with ⟨h1, h2⟩ | ⟨i, v, zs, h1, h2⟩
  · have hk := run_findKey (P := Try.prog) (w := w) (kt := 3) (k := .int .i64 y) (l := es.toList) Try.underlying3 h1
    refine ⟨setBlock w m (.map (es.push { key := .int .i64 y, val := v', born := clock }) (clock + 1)), gs ++ [(y, v', zs')], ?_, ⟨_, _, (heap_set hb).1, by simp [he]⟩, (hgr _).1, (hgr _).2, .inr ⟨h2, rfl⟩⟩
    unfold Instr.mapUpdate
    simp only [Sem.run_bind, run_underlying Try.underlying60, Result.andThen, Go.MapKept.run_getObj_map (P := Try.prog) hb, Sem.run_pure, hc, hk, Go.MapKept.run_setObj_map (P := Try.prog) _ hb]
    rfl
  · have hk := run_findKey (P := Try.prog) (w := w) (kt := 3) (k := .int .i64 y) (l := es.toList) Try.underlying3 h2
    rw [Nat.zero_add] at hk
    have hget := congrArg (fun l => l[i]?) he
    simp only [List.getElem?_map, h1, Option.map_some] at hget
    obtain ⟨e, hes, hee⟩ := Option.map_eq_some_iff.1 hget
    simp only [Prod.mk.injEq] at hee
    rw [Array.getElem?_toList] at hes
    refine ⟨setBlock w m (.map (es.modify i fun e => { e with key := .int .i64 y, val := v' }) clock), gs.set i (y, v', zs'), ?_, ⟨_, _, (heap_set hb).1, ?_⟩, (hgr _).1, (hgr _).2, .inl ⟨i, v, zs, h1, rfl⟩⟩
    · unfold Instr.mapUpdate
      simp only [Sem.run_bind, run_underlying Try.underlying60, Result.andThen, Go.MapKept.run_getObj_map (P := Try.prog) hb, Sem.run_pure, hc, hk, Instr.keyThatStays, hes, Option.map_some, Option.getD_some, hee.1, Instr.sameBits, Go.MapKept.run_setObj_map (P := Try.prog) _ hb]
      simp [Go.MapKept.run_setObj_map (P := Try.prog) _ hb, setBlock]
    · apply List.ext_getElem?
      intro j
      have hj := congrArg (fun l => l[j]?) he
      simp only [List.getElem?_map] at hj
      by_cases c : i = j
      · subst c
        have hi : i < gs.length := (List.getElem?_eq_some_iff.1 h1).1
        simp [Array.getElem?_modify, hes, hi]
      · simp only [List.getElem?_map, Array.getElem?_toList, Array.getElem?_modify, c, if_false, List.getElem?_set_ne c]
        rw [Array.getElem?_toList] at hj
        exact hj
/-- A round of the group by: what was appended to the row at a key is laid at that key. -/
theorem Groups.round (h : Groups w m base gs) {y x : Int} {v : Value} {zs : List Int} (e : GAt gs y v zs) {w3 : World} {v' : Value} (hg : w.grownBy w3 v.ownBlock) (ho : w3.ownsRow base 3 1 v' (zs ++ [x]).length (nums .i64 (zs ++ [x])))
    (hloc : v'.ownBlock = v.ownBlock ∨ ∃ b, v'.ownBlock = some b ∧ w.heap.size ≤ b) (hnil : v'.ownBlock ≠ none) :
    ∃ w4 gs', (Instr.mapUpdate 60 (.map (some m)) (.int .i64 y) v').run Try.prog w3 = .ok () w4 ∧ Groups w4 m base gs' ∧ w3.grownBy w4 (some m) ∧ w4.heap.size = w3.heap.size ∧ GAt gs' y v' (zs ++ [x]) ∧ ∀ z u us, z ≠ y → GAt gs z u us → GAt gs' z u us := by
  have hlow : ∀ g ∈ gs, ∀ b, g.2.1.ownBlock = some b → base ≤ b ∧ b < w.heap.size := fun g hg b hb => ⟨own_base (h.own g hg) b hb, own_lt (h.own g hg) b hb⟩
  have hvm : some m ≠ v.ownBlock := by
    rcases e with ⟨i, hi⟩ | ⟨_, rfl, _⟩
    · intro e
      have := (hlow _ (List.mem_of_getElem? hi) m e.symm).1
      have := h.low
      omega
    · simp [Value.ownBlock]
  have hm3 : Ments w3 m gs := by
    obtain ⟨es, clock, hb, he⟩ := h.ents
    exact ⟨es, clock, blk_grown hb hg hvm, he⟩
  obtain ⟨w4, gs', hrun, hm4, hg4, hsz, hgs⟩ := run_put hm3 y v' (zs ++ [x])
  -- a group of another key: its row stands, and is not the new one
  have hother : ∀ g ∈ gs, g.1 ≠ y → (g.2.1.ownBlock = none ∨ g.2.1.ownBlock ≠ v.ownBlock) ∧ (g.2.1.ownBlock = none ∨ g.2.1.ownBlock ≠ v'.ownBlock) := by
    intro g hgm hne
    have h1 : g.2.1.ownBlock = none ∨ g.2.1.ownBlock ≠ v.ownBlock := by
      rcases e with ⟨i, hi⟩ | ⟨_, rfl, _⟩
      · obtain ⟨j, hj⟩ := List.getElem?_of_mem hgm
        by_cases c : j = i
        · subst c
          rw [hi] at hj
          cases hj
          exact absurd rfl hne
        · exact (h.far j i _ _ hj hi c).2
      · cases hb : g.2.1.ownBlock with
        | none => exact .inl rfl
        | some b => exact .inr (by simp [Value.ownBlock])
    refine ⟨h1, ?_⟩
    rcases hloc with hl | ⟨b, hl, hb⟩
    · rw [hl]; exact h1
    · cases hc : g.2.1.ownBlock with
      | none => exact .inl rfl
      | some b' => exact .inr (by rw [hl]; intro e'; cases e'; have := (hlow g hgm b hc).2; omega)
  have hv'm : v'.ownBlock = none ∨ v'.ownBlock ≠ some m := by
    cases hc : v'.ownBlock with
    | none => exact .inl rfl
    | some b => exact .inr (fun e' => by cases e'; have := own_base ho m hc; have := h.low; omega)
  have hown' : w4.ownsRow base 3 1 v' (zs ++ [x]).length (nums .i64 (zs ++ [x])) := own_other ho hg4 hv'm
  have hkeep : ∀ g ∈ gs, g.1 ≠ y → w4.ownsRow base 3 1 g.2.1 g.2.2.length (nums .i64 g.2.2) := fun g hgm hne => by
    refine own_other (own_other (h.own g hgm) hg (hother g hgm hne).1) hg4 ?_
    cases hc : g.2.1.ownBlock with
    | none => exact .inl rfl
    | some b => exact .inr (fun e' => by cases e'; have := (hlow g hgm m hc).1; have := h.low; omega)
  rcases hgs with ⟨i, v0, zs0, hi, rfl⟩ | ⟨hno, rfl⟩
  · have hil : i < gs.length := (List.getElem?_eq_some_iff.1 hi).1
    have hidx : ∀ j g, gs[j]? = some g → j ≠ i → g.1 ≠ y := fun j g hj hne e' => absurd e' (h.far j i _ _ hj hi hne).1
    refine ⟨w4, _, hrun, ⟨hm4, ?_, ?_, h.low⟩, hg4, hsz, .inl ⟨i, by simp [hil]⟩, ?_⟩
    · intro g hgm
      obtain ⟨j, hj⟩ := List.getElem?_of_mem hgm
      by_cases c : j = i
      · subst c
        simp [hil] at hj
        subst hj
        exact hown'
      · rw [List.getElem?_set_ne (fun e' => c e'.symm)] at hj
        exact hkeep g (List.mem_of_getElem? hj) (hidx j g hj c)
    · intro j k g k' hj hk hne
      by_cases c : j = i
      · subst c
        simp [hil] at hj
        subst hj
        rw [List.getElem?_set_ne hne] at hk
        have hy := hidx k k' hk (fun e' => hne e'.symm)
        exact Apart.symm ⟨hy, (hother k' (List.mem_of_getElem? hk) hy).2⟩
      · rw [List.getElem?_set_ne (fun e' => c e'.symm)] at hj
        by_cases d : k = i
        · subst d
          simp [hil] at hk
          subst hk
          have hy := hidx j g hj c
          exact ⟨hy, (hother g (List.mem_of_getElem? hj) hy).2⟩
        · rw [List.getElem?_set_ne (fun e' => d e'.symm)] at hk
          exact h.far j k g k' hj hk hne
    · rintro z u us hz (⟨j, hj⟩ | ⟨hn, rfl, rfl⟩)
      · have c : j ≠ i := fun c => by subst c; rw [hi] at hj; cases hj; exact hz rfl
        exact .inl ⟨j, by rw [List.getElem?_set_ne (fun e' => c e'.symm)]; exact hj⟩
      · refine .inr ⟨fun g hgm => ?_, rfl, rfl⟩
        obtain ⟨j, hj⟩ := List.getElem?_of_mem hgm
        by_cases c : j = i
        · subst c
          simp [hil] at hj
          subst hj
          exact fun e' => hz e'.symm
        · rw [List.getElem?_set_ne (fun e' => c e'.symm)] at hj
          exact hn g (List.mem_of_getElem? hj)
  · refine ⟨w4, _, hrun, ⟨hm4, ?_, ?_, h.low⟩, hg4, hsz, .inl ⟨gs.length, by simp⟩, ?_⟩
    · intro g hgm
      rcases List.mem_append.1 hgm with hgm | hgm
      · exact hkeep g hgm (hno g hgm)
      · simp at hgm
        subst hgm
        exact hown'
    · intro j k g k' hj hk hne
      rcases Nat.lt_or_ge j gs.length with a | a
      · rw [List.getElem?_append_left a] at hj
        have hjy := hno g (List.mem_of_getElem? hj)
        rcases Nat.lt_or_ge k gs.length with b | b
        · rw [List.getElem?_append_left b] at hk
          exact h.far j k g k' hj hk hne
        · rw [List.getElem?_append_right b] at hk
          obtain rfl : k' = (y, v', zs ++ [x]) := by have := List.mem_of_getElem? hk; simpa using this
          exact ⟨hjy, (hother g (List.mem_of_getElem? hj) hjy).2⟩
      · rw [List.getElem?_append_right a] at hj
        obtain rfl : g = (y, v', zs ++ [x]) := by have := List.mem_of_getElem? hj; simpa using this
        rcases Nat.lt_or_ge k gs.length with b | b
        · rw [List.getElem?_append_left b] at hk
          have hky := hno k' (List.mem_of_getElem? hk)
          exact Apart.symm ⟨hky, (hother k' (List.mem_of_getElem? hk) hky).2⟩
        · have h1 : j - gs.length < 1 := by have := (List.getElem?_eq_some_iff.1 hj).1; simpa using this
          rw [List.getElem?_append_right b] at hk
          have h2 : k - gs.length < 1 := by have := (List.getElem?_eq_some_iff.1 hk).1; simpa using this
          omega
    · rintro z u us hz (⟨j, hj⟩ | ⟨hn, rfl, rfl⟩)
      · exact .inl ⟨j, by rw [List.getElem?_append_left (List.getElem?_eq_some_iff.1 hj).1]; exact hj⟩
      · refine .inr ⟨fun g hgm => ?_, rfl, rfl⟩
        rcases List.mem_append.1 hgm with hgm | hgm
        · exact hn g hgm
        · simp at hgm
          subst hgm
          exact fun e' => hz e'.symm
end
end Go.Proofs.Ytdlfmobnmcamaaa.Q
