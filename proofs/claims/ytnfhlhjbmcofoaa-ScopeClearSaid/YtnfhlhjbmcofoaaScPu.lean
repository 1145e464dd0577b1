/- Scope: plain laws of what is wrong with a design's names. -/
import Derived.Test.YtnfhlhjbmcofoaaM06
import Derived.Test.YtnfhlhjbmcofoaaM06
namespace Go.Proofs.Ytnfhlhjbmcofoaa.S
open Go.RowKit Go.Proofs.YtnfhlhjbmcofoaaW.PrintWords Go.Proofs.YtnfhlhjbmcofoaaW.PrintLast
set_option linter.unusedVariables false
set_option linter.unusedSimpArgs false
/- general facts on the searches -/
theorem fst_some_mem {α β : Type} {g : α → Nat → Option β} : ∀ {l : List α} {i : Nat} {b : β}, fst g l i = some b → ∃ j x, l[j]? = some x ∧ g x (i + j) = some b ∧ ∀ k y, k < j → l[k]? = some y → g y (i + k) = none
  | [], _, _, h => by cases h
  | x :: r, i, b, h => by
    rw [fst] at h
    cases hg : g x i with
    | some c => rw [hg] at h; exact ⟨0, x, rfl, by rw [Nat.add_zero, hg]; exact h, fun k y hk => by omega⟩
    | none =>
      rw [hg] at h
      obtain ⟨j, y, h1, h2, h3⟩ := fst_some_mem h
      refine ⟨j + 1, y, by simpa using h1, by rw [← h2]; congr 1; omega, fun k z hk hz => ?_⟩
      cases k with
      | zero => simp at hz; subst hz; exact hg
      | succ k => have := h3 k z (by omega) (by simpa using hz); rw [← this]; congr 1; omega
theorem fst_none_iff {α β : Type} {g : α → Nat → Option β} : ∀ {l : List α} {i : Nat}, fst g l i = none ↔ ∀ j x, l[j]? = some x → g x (i + j) = none
  | [], _ => ⟨fun _ j x h => by simp at h, fun _ => rfl⟩
  | x :: r, i => by
    rw [fst]
    cases hg : g x i with
    | some c => simp only [reduceCtorEq, false_iff]; intro h; have := h 0 x rfl; rw [Nat.add_zero, hg] at this; cases this
    | none =>
      simp only
      rw [fst_none_iff]
      constructor
      · intro h j y hj
        cases j with
        | zero => simp at hj; subst hj; exact hg
        | succ j => have := h j y (by simpa using hj); rw [← this]; congr 1; omega
      · intro h j y hj
        have := h (j + 1) y (by simpa using hj); rw [← this]; congr 1; omega
theorem eqS_iff {a b : ByteArray} : eqS a b = true ↔ a.toList = b.toList := by unfold eqS; simp
theorem eqS_refl (a : ByteArray) : eqS a a = true := by rw [eqS_iff]
theorem eqS_symm {a b : ByteArray} (h : eqS a b = true) : eqS b a = true := by rw [eqS_iff] at *; exact h.symm
theorem eqS_trans {a b c : ByteArray} (h : eqS a b = true) (h2 : eqS b c = true) : eqS a c = true := by rw [eqS_iff] at *; exact h.trans h2
theorem eqS_comm (a b : ByteArray) : eqS a b = eqS b a := by
  cases h : eqS a b <;> cases h2 : eqS b a <;> first | rfl | (rw [eqS_symm h] at h2; cases h2) | (rw [eqS_symm h2] at h; cases h)
theorem eqS_left {a b : ByteArray} (h : eqS a b = true) (c : ByteArray) : eqS a c = eqS b c := by
  unfold eqS; rw [eqS_iff.1 h]
/-- Is a name one of some? -/
theorem param_pos {ps : List ByteArray} {nm : ByteArray} : 0 ≤ paramS ps nm ↔ ∃ x ∈ ps, eqS x nm = true := by
  unfold paramS
  cases h : fst (gName nm) ps 0 with
  | none =>
    rw [fst_none_iff] at h
    simp only [Option.getD_none]
    constructor
    · intro h; omega
    · rintro ⟨x, hx, e⟩
      obtain ⟨j, hj⟩ := List.mem_iff_getElem?.1 hx
      have := h j x hj; unfold gName at this; rw [if_pos e] at this; cases this
  | some b =>
    obtain ⟨j, x, h1, h2, _⟩ := fst_some_mem h
    unfold gName at h2
    split at h2
    · rename_i he
      cases h2
      simp only [Option.getD_some]
      exact ⟨fun _ => ⟨x, List.mem_of_getElem? h1, he⟩, fun _ => by omega⟩
    · cases h2
theorem pn_some {ps : List S59} {nm : ByteArray} : (fst (gPn nm) ps 0).isSome = true ↔ ∃ x ∈ ps, eqS x.f1 nm = true := by
  cases h : fst (gPn nm) ps 0 with
  | none =>
    rw [fst_none_iff] at h
    simp only [Option.isSome_none, Bool.false_eq_true, false_iff]
    rintro ⟨x, hx, e⟩
    obtain ⟨j, hj⟩ := List.mem_iff_getElem?.1 hx
    have := h j x hj; unfold gPn at this; rw [if_pos e] at this; cases this
  | some b =>
    obtain ⟨j, x, h1, h2, _⟩ := fst_some_mem h
    unfold gPn at h2
    split at h2
    · rename_i he
      simp only [Option.isSome_some, true_iff]
      exact ⟨x, List.mem_of_getElem? h1, he⟩
    · cases h2
theorem nm_some {ps : List S49} {nm : ByteArray} : (fst (gNm nm) ps 0).isSome = true ↔ ∃ x ∈ ps, namedS x.f0 = true ∧ eqS x.f1 nm = true := by
  cases h : fst (gNm nm) ps 0 with
  | none =>
    rw [fst_none_iff] at h
    simp only [Option.isSome_none, Bool.false_eq_true, false_iff]
    rintro ⟨x, hx, e⟩
    obtain ⟨j, hj⟩ := List.mem_iff_getElem?.1 hx
    have := h j x hj; unfold gNm at this; rw [if_pos e] at this; cases this
  | some b =>
    obtain ⟨j, x, h1, h2, _⟩ := fst_some_mem h
    unfold gNm at h2
    split at h2
    · rename_i he
      simp only [Option.isSome_some, true_iff]
      exact ⟨x, List.mem_of_getElem? h1, he⟩
    · cases h2
theorem free_some {ps : List ByteArray} {ds : List S42} : (fst (gFree ps) ds 0).isSome = true ↔ ∃ x ∈ ds, freeS ps x = true := by
  cases h : fst (gFree ps) ds 0 with
  | none =>
    rw [fst_none_iff] at h
    simp only [Option.isSome_none, Bool.false_eq_true, false_iff]
    rintro ⟨x, hx, e⟩
    obtain ⟨j, hj⟩ := List.mem_iff_getElem?.1 hx
    have := h j x hj; unfold gFree at this; rw [if_pos e] at this; cases this
  | some b =>
    obtain ⟨j, x, h1, h2, _⟩ := fst_some_mem h
    unfold gFree at h2
    split at h2
    · rename_i he
      simp only [Option.isSome_some, true_iff]
      exact ⟨x, List.mem_of_getElem? h1, he⟩
    · cases h2
theorem nameS_iff {m : S34} {its : List S49} {nm : ByteArray} : nameS m its nm = true ↔ (∃ x ∈ m.f1, eqS x nm = true) ∨ (∃ x ∈ m.f2, eqS x.f1 nm = true) ∨ ∃ x ∈ its, namedS x.f0 = true ∧ eqS x.f1 nm = true := by
  unfold nameS
  rw [Bool.or_eq_true, Bool.or_eq_true, decide_eq_true_eq, param_pos, pn_some, nm_some, or_assoc]
theorem find_cases (l : List S34) (nm : ByteArray) : (findS l nm = -1 ∧ ∀ m ∈ l, eqS m.f0 nm = false) ∨ ∃ (n : Nat) (m : S34), findS l nm = n ∧ l[n]? = some m ∧ eqS m.f0 nm = true ∧ ∀ k y, k < n → l[k]? = some y → eqS y.f0 nm = false := by
  unfold findS
  cases h : fst (gMod nm) l 0 with
  | none =>
    rw [fst_none_iff] at h
    refine .inl ⟨rfl, fun m hm => ?_⟩
    obtain ⟨j, hj⟩ := List.mem_iff_getElem?.1 hm
    have := h j m hj; unfold gMod at this
    cases e : eqS m.f0 nm with
    | false => rfl
    | true => rw [if_pos e] at this; cases this
  | some b =>
    obtain ⟨j, x, h1, h2, h3⟩ := fst_some_mem h
    unfold gMod at h2
    split at h2
    · rename_i he
      cases h2
      refine .inr ⟨j, x, by simp, h1, he, fun k y hk hy => ?_⟩
      have := h3 k y hk hy; unfold gMod at this
      cases e : eqS y.f0 nm with
      | false => rfl
      | true => rw [if_pos e] at this; cases this
    · cases h2
/- what is wrong with a design: nothing -/
theorem checkS_nil {l : List S34} (hl : l ≠ []) : checkS l = [] ↔ ∀ (n : Nat) m, l[n]? = some m → moduleS l n m = 0 ∧ ∀ i x, m.f3[i]? = some x → itemS l n m (m.f3.take i) x = 0 := by
  have h0 : l.length ≠ 0 := fun h => hl (List.length_eq_zero_iff.1 h)
  unfold checkS
  rw [if_neg h0, List.flatMap_eq_nil_iff]
  constructor
  · intro h n m hm
    have hn : n < l.length := (List.getElem?_eq_some_iff.1 hm).1
    have h1 := h n (List.mem_range.2 hn)
    unfold modF at h1
    rw [hm] at h1
    simp only [List.append_eq_nil_iff] at h1
    obtain ⟨h2, h3⟩ := h1
    refine ⟨Decidable.byContradiction fun hne => ?_, fun i x hx => Decidable.byContradiction fun hne => ?_⟩
    · rw [if_pos hne] at h2; cases h2
    · unfold itemsF at h3
      rw [List.flatMap_eq_nil_iff] at h3
      have h4 := h3 i (List.mem_range.2 (List.getElem?_eq_some_iff.1 hx).1)
      unfold itemF at h4
      rw [hx] at h4
      simp only [if_pos hne] at h4
      cases h4
  · intro h n hn
    unfold modF
    cases hm : l[n]? with
    | none => rfl
    | some m =>
      obtain ⟨h1, h2⟩ := h n m hm
      simp only [h1, ne_eq, not_true_eq_false, if_false, List.nil_append]
      unfold itemsF
      rw [List.flatMap_eq_nil_iff]
      intro i hi
      unfold itemF
      cases hx : m.f3[i]? with
      | none => rfl
      | some x => simp only [h2 i x hx, ne_eq, not_true_eq_false, if_false]
/- the faults' places -/
def before (p x : S40) : Prop := p.f2 < x.f2 ∨ p.f2 = x.f2 ∧ p.f3 < x.f3
def placed (l : List S34) (x : S40) : Prop := x.f1 = 0 ∧ x.f0 ≠ 0 ∧ ∃ (n : Nat) (m : S34), l[n]? = some m ∧ x.f2 = n ∧ -1 ≤ x.f3 ∧ x.f3 < m.f3.length
theorem itemF_mem {l : List S34} {n : Nat} {m : S34} {i : Nat} {x : S40} (h : x ∈ itemF l n m i) : ∃ y, m.f3[i]? = some y ∧ x.f0 ≠ 0 ∧ x = ⟨x.f0, 0, n, i⟩ := by
  unfold itemF at h
  cases hy : m.f3[i]? with
  | none => rw [hy] at h; cases h
  | some y =>
    rw [hy] at h
    simp only at h
    split at h
    · rename_i hne
      rw [List.mem_singleton] at h
      subst h
      exact ⟨y, rfl, hne, rfl⟩
    · cases h
theorem modF_mem {l : List S34} {n : Nat} {x : S40} (h : x ∈ modF l n) : ∃ m, l[n]? = some m ∧ x.f0 ≠ 0 ∧ x.f1 = 0 ∧ x.f2 = n ∧ -1 ≤ x.f3 ∧ x.f3 < m.f3.length := by
  unfold modF at h
  cases hm : l[n]? with
  | none => rw [hm] at h; cases h
  | some m =>
    rw [hm] at h
    simp only [List.mem_append] at h
    refine ⟨m, rfl, ?_⟩
    rcases h with h | h
    · split at h
      · rename_i hne
        rw [List.mem_singleton] at h
        subst h
        exact ⟨hne, rfl, rfl, by show (-1 : Int) ≤ -1; omega, by show (-1 : Int) < _; omega⟩
      · cases h
    · unfold itemsF at h
      obtain ⟨i, hi, hx⟩ := List.mem_flatMap.1 h
      rw [List.mem_range] at hi
      obtain ⟨y, h1, h2, h3⟩ := itemF_mem hx
      rw [h3]
      exact ⟨h2, rfl, rfl, by show (-1 : Int) ≤ (i : Int); omega, by show (i : Int) < _; omega⟩
theorem itemF_pw (l : List S34) (n : Nat) (m : S34) (i : Nat) : (itemF l n m i).Pairwise before := by
  unfold itemF
  split
  · split <;> simp
  · simp
theorem modF_pw (l : List S34) (n : Nat) : (modF l n).Pairwise before := by
  unfold modF
  split
  · rename_i m hm
    rw [List.pairwise_append]
    refine ⟨by split <;> simp, ?_, ?_⟩
    · unfold itemsF
      rw [List.pairwise_flatMap]
      refine ⟨fun i _ => itemF_pw l n m i, ?_⟩
      refine List.Pairwise.imp ?_ (List.pairwise_lt_range (n := m.f3.length))
      intro i j hij x hx y hy
      obtain ⟨_, _, _, h3⟩ := itemF_mem hx
      obtain ⟨_, _, _, h4⟩ := itemF_mem hy
      rw [h3, h4]
      exact .inr ⟨rfl, by simp; omega⟩
    · intro x hx y hy
      split at hx
      · rw [List.mem_singleton] at hx
        subst hx
        unfold itemsF at hy
        obtain ⟨i, _, hy⟩ := List.mem_flatMap.1 hy
        obtain ⟨_, _, _, h4⟩ := itemF_mem hy
        rw [h4]
        exact .inr ⟨rfl, by simp; omega⟩
      · cases hx
  · simp
theorem checkS_pw {l : List S34} : (checkS l).Pairwise before := by
  unfold checkS
  split
  · simp
  · rw [List.pairwise_flatMap]
    refine ⟨fun i _ => modF_pw l i, ?_⟩
    refine List.Pairwise.imp ?_ (List.pairwise_lt_range (n := l.length))
    intro i j hij x hx y hy
    obtain ⟨_, _, _, _, h3, _⟩ := modF_mem hx
    obtain ⟨_, _, _, _, h4, _⟩ := modF_mem hy
    exact .inl (by omega)
theorem checkS_placed {l : List S34} (hl : l ≠ []) {x : S40} (h : x ∈ checkS l) : placed l x := by
  have h0 : l.length ≠ 0 := fun h => hl (List.length_eq_zero_iff.1 h)
  unfold checkS at h
  rw [if_neg h0] at h
  obtain ⟨n, _, hx⟩ := List.mem_flatMap.1 h
  obtain ⟨m, h1, h2, h3, h4, h5, h6⟩ := modF_mem hx
  exact ⟨h3, h2, n, m, h1, h4, h5, h6⟩
theorem checkS_before {l : List S34} {i : Nat} {p x : S40} (hp : (checkS l)[i]? = some p) (hx : (checkS l)[i + 1]? = some x) : before p x := by
  obtain ⟨h1, e1⟩ := List.getElem?_eq_some_iff.1 hp
  obtain ⟨h2, e2⟩ := List.getElem?_eq_some_iff.1 hx
  have := List.pairwise_iff_getElem.1 (checkS_pw (l := l)) i (i + 1) h1 h2 (by omega)
  rw [e1, e2] at this
  exact this
/- alike modules: what an expression's fault hangs on -/
def modOf (m : S34) (nm : ByteArray) : ByteArray := (m.f3.getD (kindS m nm).2.toNat z49).f4
def outS (l : List S34) (u p : ByteArray) : Bool := if findS l u < 0 then false else (kindS (l.getD (findS l u).toNat z34) p).1 == 3
theorem refS_eq (l : List S34) (m : S34) (nm : ByteArray) : refS l m nm = if dotS nm < 0 then amongS (kindS m nm).1 2 4 5 else
    if (kindS m (nm.extract 0 (dotS nm).toNat)).1 ≠ 7 then 51 else if outS l (modOf m (nm.extract 0 (dotS nm).toNat)) (nm.extract ((dotS nm).toNat + 1) nm.size) = true then 0 else 51 := by
  unfold refS outS modOf
  split
  · rfl
  · split
    · rfl
    · split
      · simp
      · split
        · rename_i h; rw [if_neg (fun h2 => h (by rw [beq_iff_eq] at h2; exact h2))]
        · rename_i h; rw [if_pos (by rw [beq_iff_eq]; exact Decidable.not_not.1 h)]
structure Alike (l l' : List S34) (m m' : S34) : Prop where
  ps : m.f1 = m'.f1
  kd : ∀ nm, (kindS m nm).1 = (kindS m' nm).1
  out : ∀ nm, (kindS m nm).1 = 7 → ∀ p, outS l (modOf m nm) p = outS l' (modOf m' nm) p
theorem ref_alike {l l' : List S34} {m m' : S34} (h : Alike l l' m m') (nm : ByteArray) : refS l m nm = refS l' m' nm := by
  rw [refS_eq, refS_eq, h.kd, h.kd]
  split
  · rfl
  · split
    · rfl
    · rename_i h7
      simp only [ne_eq, Decidable.not_not] at h7
      rw [h.out _ ((h.kd _).trans h7)]
theorem own_alike {l l' : List S34} {m m' : S34} (h : Alike l l' m m') (op : Int) (a b c d : S42) (nm : ByteArray) : ownS l m op a b c d nm = ownS l' m' op a b c d nm := by
  unfold ownS
  rw [h.ps, h.kd, ref_alike h]
mutual
theorem expr_alike {l l' : List S34} {m m' : S34} (h : Alike l l' m m') : ∀ e, exprS l m e = exprS l' m' e
  | ⟨op, a, b, c, d, nm, kids⟩ => by
    rw [exprS, exprS, own_alike h, kids_alike h kids]
theorem kids_alike {l l' : List S34} {m m' : S34} (h : Alike l l' m m') : ∀ es, kidsS l m es = kidsS l' m' es
  | [] => rfl
  | e :: r => by rw [kidsS, kidsS, expr_alike h e, kids_alike h r]
end
theorem fst_map {α β γ : Type} (g : β → Nat → Option γ) (h : α → β) : ∀ (l : List α) (i : Nat), fst g (l.map h) i = fst (fun x j => g (h x) j) l i
  | [], _ => rfl
  | x :: r, i => by rw [List.map_cons, fst, fst, fst_map g h r]
def face (m : S34) : ByteArray × List ByteArray × List S59 := (m.f0, m.f1, m.f2)
def Face (l l' : List S34) : Prop := l.map face = l'.map face
theorem find_face {l l' : List S34} (h : Face l l') (nm : ByteArray) : findS l nm = findS l' nm := by
  have e : ∀ l : List S34, findS l nm = (fst (fun (x : ByteArray × List ByteArray × List S59) i => gName nm x.1 i) (l.map face) 0).getD (-1) := fun l => by rw [fst_map]; rfl
  rw [e, e, h]
theorem len_face {l l' : List S34} (h : Face l l') : l.length = l'.length := by
  have := congrArg List.length h; simpa using this
theorem getD_face {l l' : List S34} (h : Face l l') (n : Nat) : face (l.getD n z34) = face (l'.getD n z34) := by
  have e : ∀ l : List S34, face (l.getD n z34) = (l.map face).getD n (face z34) := fun l => by
    rw [List.getD_eq_getElem?_getD, List.getD_eq_getElem?_getD, List.getElem?_map]; cases l[n]? <;> rfl
  rw [e, e, h]
theorem gItem_kind {nm : ByteArray} {its : List S49} {p : Int × Int} (h : fst (gItem nm) its 0 = some p) : ∃ (j : Nat) (x : S49), its[j]? = some x ∧ eqS x.f1 nm = true ∧ 0 < ik x.f0 ∧ p = (ik x.f0, (j : Int)) := by
  obtain ⟨j, x, h1, h2, _⟩ := fst_some_mem h
  unfold gItem at h2
  split at h2
  · rename_i he
    cases h2
    exact ⟨j, x, h1, he.1, he.2, by simp⟩
  · cases h2
theorem gItem_none' {nm : ByteArray} {its : List S49} (h : fst (gItem nm) its 0 = none) : ∀ x ∈ its, ¬ (eqS x.f1 nm = true ∧ 0 < ik x.f0) := by
  rw [fst_none_iff] at h
  intro x hx he
  obtain ⟨j, hj⟩ := List.mem_iff_getElem?.1 hx
  have := h j x hj; unfold gItem at this; rw [if_pos he] at this; cases this
theorem ik_le (k : Int) : ik k = 0 ∨ ik k = 4 ∨ ik k = 5 ∨ ik k = 6 ∨ ik k = 7 := by
  unfold ik; split
  · simp
  · split
    · simp
    · split
      · simp
      · split <;> simp
theorem gPort_kind {nm : ByteArray} {ps : List S59} {p : Int × Int} (h : fst (gPort nm) ps 0 = some p) : (p.1 = 2 ∨ p.1 = 3) ∧ ∃ x ∈ ps, eqS x.f1 nm = true := by
  obtain ⟨j, x, h1, h2, _⟩ := fst_some_mem h
  unfold gPort at h2
  split at h2
  · rename_i he
    cases h2
    exact ⟨by simp only; split <;> simp, x, List.mem_of_getElem? h1, he⟩
  · cases h2
/-- A name's kind is a port's of Out just by what a module shows. -/
theorem out_kind {m m' : S34} (h1 : m.f1 = m'.f1) (h2 : m.f2 = m'.f2) (p : ByteArray) : ((kindS m p).1 == 3) = ((kindS m' p).1 == 3) := by
  unfold kindS
  rw [h1, h2]
  split
  · rfl
  · cases fst (gPort p) m'.f2 0 with
    | some q => rfl
    | none =>
      simp only [Option.getD_none]
      have key : ∀ its : List S49, (((fst (gItem p) its 0).getD (0, 0)).1 == 3) = false := by
        intro its
        cases h : fst (gItem p) its 0 with
        | none => rfl
        | some q =>
          obtain ⟨j, x, _, _, _, rfl⟩ := gItem_kind h
          simp only [Option.getD_some]
          rcases ik_le x.f0 with e | e | e | e | e <;> rw [e] <;> rfl
      rw [key, key]
theorem out_face {l l' : List S34} (h : Face l l') (u p : ByteArray) : outS l u p = outS l' u p := by
  unfold outS
  rw [find_face h]
  split
  · rfl
  · have := getD_face h (findS l' u).toNat
    unfold face at this
    obtain ⟨_, e⟩ := Prod.mk.inj this
    obtain ⟨e1, e2⟩ := Prod.mk.inj e
    exact out_kind e1 e2 p
theorem module_face {l l' : List S34} (h : Face l l') (n : Int) {m m' : S34} (hm : face m = face m') : moduleS l n m = moduleS l' n m' := by
  unfold face at hm
  obtain ⟨e0, e⟩ := Prod.mk.inj hm
  obtain ⟨e1, e2⟩ := Prod.mk.inj e
  unfold moduleS headS
  rw [find_face h, len_face h, e0, e1, e2]
theorem bind_face {m m' : S34} (h : m.f2 = m'.f2) (bs : List S64) : fst (gBind m bs) bs 0 = fst (gBind m' bs) bs 0 := by
  have : gBind m bs = gBind m' bs := by funext b i; unfold gBind portS; rw [h]
  rw [this]
theorem inst_face {l l' : List S34} (h : Face l l') (n : Int) (x : S49) : instS l n x = instS l' n x := by
  have := getD_face h (findS l' x.f4).toNat
  unfold face at this
  obtain ⟨_, e⟩ := Prod.mk.inj this
  obtain ⟨e1, e2⟩ := Prod.mk.inj e
  unfold instS
  rw [find_face h, e1, bind_face e2, e2]
theorem kindOf_alike {l l' : List S34} (n : Int) {m m' : S34} (hk : ∀ nm, (kindS m nm).1 = (kindS m' nm).1) {x x' : S49} (h0 : x.f0 = x'.f0) (h1 : x.f1 = x'.f1) (hi : x.f0 = 7 → instS l n x = instS l' n x') : kindOfS l n m x = kindOfS l' n m' x' := by
  unfold kindOfS
  rw [hk, ← h0, ← h1]
  split
  · rfl
  · split
    · rfl
    · split
      · rfl
      · split
        · rfl
        · split
          · rename_i h; exact hi h
          · rfl
/- what a name is hangs on the items' kinds, names and modules -/
def key (x : S49) : Int × ByteArray × ByteArray := (x.f0, x.f1, x.f4)
def gK (nm : ByteArray) (x : Int × ByteArray × ByteArray) (i : Nat) : Option (Int × Int) := if eqS x.2.1 nm = true ∧ 0 < ik x.1 then some (ik x.1, (i : Int)) else none
theorem item_key (nm : ByteArray) (its : List S49) (i : Nat) : fst (gItem nm) its i = fst (gK nm) (its.map key) i := by rw [fst_map]; rfl
theorem kind_key {m m' : S34} (h1 : m.f1 = m'.f1) (h2 : m.f2 = m'.f2) (h3 : m.f3.map key = m'.f3.map key) (nm : ByteArray) : kindS m nm = kindS m' nm := by
  unfold kindS
  rw [item_key, item_key, h1, h2, h3]
theorem modOf_key {m m' : S34} (h1 : m.f1 = m'.f1) (h2 : m.f2 = m'.f2) (h3 : m.f3.map key = m'.f3.map key) (nm : ByteArray) : modOf m nm = modOf m' nm := by
  unfold modOf
  rw [kind_key h1 h2 h3]
  have e : ∀ (its : List S49) (n : Nat), (its.getD n z49).f4 = ((its.map key).getD n (key z49)).2.2 := fun its n => by
    rw [List.getD_eq_getElem?_getD, List.getD_eq_getElem?_getD, List.getElem?_map]; cases its[n]? <;> rfl
  rw [e, e, h3]
/-- The item that a name is of, of some whose names are apart. -/
def Apart (its : List S49) : Prop := ∀ x ∈ its, ∀ y ∈ its, namedS x.f0 = true → namedS y.f0 = true → eqS x.f1 y.f1 = true → x = y
theorem ik_named {k : Int} (h : 0 < ik k) : namedS k = true := by
  unfold namedS; rw [decide_eq_true_eq]
  unfold ik at h
  split at h; · omega
  split at h; · omega
  split at h; · omega
  split at h; · omega
  omega
theorem kind_7 {m : S34} {nm : ByteArray} (h : (kindS m nm).1 = 7) : paramS m.f1 nm < 0 ∧ fst (gPort nm) m.f2 0 = none ∧ ∃ (j : Nat) (x : S49), fst (gItem nm) m.f3 0 = some (7, (j : Int)) ∧ m.f3[j]? = some x ∧ eqS x.f1 nm = true ∧ x.f0 = 7 ∧ kindS m nm = (7, (j : Int)) ∧ modOf m nm = x.f4 := by
  have h' := h
  unfold kindS at h
  split at h
  · simp at h
  · rename_i hp
    cases hq : fst (gPort nm) m.f2 0 with
    | some q =>
      rw [hq] at h
      simp only [Option.getD_some] at h
      rcases (gPort_kind hq).1 with e | e <;> omega
    | none =>
      rw [hq] at h
      simp only [Option.getD_none] at h
      cases hi : fst (gItem nm) m.f3 0 with
      | none => rw [hi] at h; simp at h
      | some p =>
        obtain ⟨j, x, h1, h2, h3, rfl⟩ := gItem_kind hi
        rw [hi] at h
        simp only [Option.getD_some] at h
        have hk : kindS m nm = (7, (j : Int)) := by unfold kindS; rw [if_neg hp, hq, hi]; simp [h]
        refine ⟨by omega, rfl, j, x, by rw [h], h1, h2, ?_, hk, ?_⟩
        · unfold ik at h
          split at h; · simp at h
          split at h; · simp at h
          split at h; · simp at h
          split at h
          · rename_i e; exact e
          · simp at h
        · unfold modOf
          rw [hk]
          simp [List.getD_eq_getElem?_getD, h1]
theorem kind_perm {m m' : S34} (h1 : m.f1 = m'.f1) (h2 : m.f2 = m'.f2) (hap : Apart m.f3) (hmem : ∀ x, x ∈ m.f3 ↔ x ∈ m'.f3) (nm : ByteArray) : (kindS m nm).1 = (kindS m' nm).1 ∧ ((kindS m nm).1 = 7 → modOf m nm = modOf m' nm) := by
  have key : ((fst (gItem nm) m.f3 0).getD (0, 0)).1 = ((fst (gItem nm) m'.f3 0).getD (0, 0)).1 := by
    cases hi : fst (gItem nm) m.f3 0 with
    | none =>
      cases hi' : fst (gItem nm) m'.f3 0 with
      | none => rfl
      | some p =>
        obtain ⟨j, x, g1, g2, g3, rfl⟩ := gItem_kind hi'
        exact absurd ⟨g2, g3⟩ (gItem_none' hi x ((hmem x).2 (List.mem_of_getElem? g1)))
    | some p =>
      obtain ⟨j, x, g1, g2, g3, rfl⟩ := gItem_kind hi
      cases hi' : fst (gItem nm) m'.f3 0 with
      | none => exact absurd ⟨g2, g3⟩ (gItem_none' hi' x ((hmem x).1 (List.mem_of_getElem? g1)))
      | some q =>
        obtain ⟨j', y, e1, e2, e3, rfl⟩ := gItem_kind hi'
        have : x = y := hap x (List.mem_of_getElem? g1) y ((hmem y).2 (List.mem_of_getElem? e1)) (ik_named g3) (ik_named e3) (eqS_trans g2 (eqS_symm e2))
        subst this
        rfl
  have hk : (kindS m nm).1 = (kindS m' nm).1 := by
    unfold kindS
    rw [← h1, ← h2]
    split
    · rfl
    · cases fst (gPort nm) m.f2 0 with
      | some q => rfl
      | none => exact key
  refine ⟨hk, fun h7 => ?_⟩
  obtain ⟨_, _, j, x, _, g1, g2, g3, _, g4⟩ := kind_7 h7
  obtain ⟨_, _, j', y, _, e1, e2, e3, _, e4⟩ := kind_7 (hk.symm.trans h7)
  have : x = y := hap x (List.mem_of_getElem? g1) y ((hmem y).2 (List.mem_of_getElem? e1)) (by rw [g3]; rfl) (by rw [e3]; rfl) (eqS_trans g2 (eqS_symm e2))
  rw [g4, e4, this]
/- items without faults -/
theorem item_clear {l : List S34} {n : Int} {m : S34} {its : List S49} {x : S49} : itemS l n m its x = 0 ↔ ¬ (namedS x.f0 = true ∧ nameS m its x.f1 = true) ∧ kindOfS l n m x = 0 ∧ (∀ d ∈ dimsL x, freeS m.f1 d = false) ∧ kidsS l m (exprsL x) = 0 := by
  unfold itemS
  split
  · rename_i h; constructor
    · intro e; cases e
    · rintro ⟨h1, _⟩; exact absurd h h1
  · rename_i h1
    split
    · rename_i h2
      constructor
      · intro e; exact absurd e h2
      · rintro ⟨_, e, _⟩; exact absurd e h2
    · rename_i h2
      simp only [ne_eq, Decidable.not_not] at h2
      split
      · rename_i h3
        constructor
        · intro e; cases e
        · rintro ⟨_, _, e, _⟩
          obtain ⟨d, hd, e2⟩ := free_some.1 h3
          rw [e d hd] at e2; cases e2
      · rename_i h3
        refine ⟨fun e => ⟨h1, h2, fun d hd => ?_, e⟩, fun e => e.2.2.2⟩
        cases hf : freeS m.f1 d with
        | false => rfl
        | true => exact absurd (free_some.2 ⟨d, hd, hf⟩) h3
theorem kids_clear {l : List S34} {m : S34} : ∀ {es : List S47}, kidsS l m es = 0 ↔ ∀ e ∈ es, exprS l m e = 0
  | [] => by simp [kidsS]
  | e :: r => by
    rw [kidsS]
    split
    · rename_i h
      constructor
      · intro e2; exact absurd e2 h
      · intro e2; exact absurd (e2 e List.mem_cons_self) h
    · rename_i h
      simp only [ne_eq, Decidable.not_not] at h
      rw [kids_clear]
      constructor
      · intro h2 e' he'
        rcases List.mem_cons.1 he' with rfl | h3
        · exact h
        · exact h2 e' h3
      · intro h2 e' he'; exact h2 e' (List.mem_cons_of_mem _ he')
/-- In a module without faults the items' names are apart, and none is a param's or port's. -/
def Sep (x y : S49) : Prop := namedS x.f0 = true → namedS y.f0 = true → eqS x.f1 y.f1 = false
theorem sep_symm {x y : S49} (h : Sep x y) : Sep y x := fun h1 h2 => by rw [eqS_comm]; exact h h2 h1
theorem clear_sep {l : List S34} {n : Int} {m : S34} (h : ∀ i x, m.f3[i]? = some x → itemS l n m (m.f3.take i) x = 0) : m.f3.Pairwise Sep := by
  rw [List.pairwise_iff_getElem]
  intro i j hi hj hij h1 h2
  have := (item_clear.1 (h j m.f3[j] (List.getElem?_eq_getElem hj))).1
  cases e : eqS m.f3[i].f1 m.f3[j].f1 with
  | false => rfl
  | true =>
    exact absurd ⟨h2, nameS_iff.2 (.inr (.inr ⟨m.f3[i], List.mem_iff_getElem?.2 ⟨i, by rw [List.getElem?_take_of_lt hij]; exact List.getElem?_eq_getElem hi⟩, h1, e⟩))⟩ this
theorem sep_apart {its : List S49} (h : its.Pairwise Sep) : Apart its := by
  intro x hx y hy h1 h2 h3
  obtain ⟨i, hi, rfl⟩ := List.mem_iff_getElem.1 hx
  obtain ⟨j, hj, rfl⟩ := List.mem_iff_getElem.1 hy
  rcases Nat.lt_trichotomy i j with hij | hij | hij
  · have := (List.pairwise_iff_getElem.1 h) i j hi hj hij h1 h2; rw [h3] at this; cases this
  · subst hij; rfl
  · have := (List.pairwise_iff_getElem.1 h) j i hj hi hij h2 h1; rw [eqS_comm, h3] at this; cases this
theorem clear_head {l : List S34} {n : Int} {m : S34} (h : ∀ i x, m.f3[i]? = some x → itemS l n m (m.f3.take i) x = 0) {x : S49} (hx : x ∈ m.f3) (hn : namedS x.f0 = true) : (∀ p ∈ m.f1, eqS p x.f1 = false) ∧ ∀ p ∈ m.f2, eqS p.f1 x.f1 = false := by
  obtain ⟨j, hj⟩ := List.mem_iff_getElem?.1 hx
  have := (item_clear.1 (h j x hj)).1
  refine ⟨fun p hp => ?_, fun p hp => ?_⟩
  · cases e : eqS p x.f1 with
    | false => rfl
    | true => exact absurd ⟨hn, nameS_iff.2 (.inl ⟨p, hp, e⟩)⟩ this
  · cases e : eqS p.f1 x.f1 with
    | false => rfl
    | true => exact absurd ⟨hn, nameS_iff.2 (.inr (.inl ⟨p, hp, e⟩))⟩ this
/-- A module with other items. -/
def its (m : S34) (l : List S49) : S34 := ⟨m.f0, m.f1, m.f2, l⟩
theorem set_face {l : List S34} {i : Nat} {m : S34} (hm : l[i]? = some m) (xs : List S49) : Face l (l.set i (its m xs)) := by
  unfold Face
  rw [List.map_set]
  refine List.ext_getElem? fun j => ?_
  by_cases h : i = j
  · subst h
    rw [List.getElem?_set_self (by rw [List.length_map]; exact (List.getElem?_eq_some_iff.1 hm).1), List.getElem?_map, hm]; rfl
  · rw [List.getElem?_set_ne h]
theorem set_ne_nil {l : List S34} {i : Nat} {m m' : S34} (hm : l[i]? = some m) : l.set i m' ≠ [] := fun h => by
  have h2 := (List.getElem?_eq_some_iff.1 hm).1
  have := congrArg List.length h
  simp at this; rw [this] at h2; simp at h2
theorem mem_checkS {l : List S34} {n i : Nat} {m : S34} {x : S49} {e : Int} (hm : l[n]? = some m) (hx : m.f3[i]? = some x) (he : itemS l n m (m.f3.take i) x = e) (h0 : e ≠ 0) : (⟨e, 0, n, i⟩ : S40) ∈ checkS l := by
  have hn := (List.getElem?_eq_some_iff.1 hm).1
  unfold checkS
  rw [if_neg (by omega)]
  refine List.mem_flatMap.2 ⟨n, List.mem_range.2 hn, ?_⟩
  unfold modF
  rw [hm]
  refine List.mem_append.2 (.inr (List.mem_flatMap.2 ⟨i, List.mem_range.2 (List.getElem?_eq_some_iff.1 hx).1, ?_⟩))
  unfold itemF
  rw [hx]
  simp only [he, if_pos h0, List.mem_singleton]
/-- What is told of an item that has a name of one ahead. -/
def named1 (x : S49) (nm : ByteArray) : S49 := ⟨x.f0, nm, x.f2, x.f3, x.f4, x.f5, x.f6, x.f7, x.f8, x.f9⟩
theorem twice_told {l : List S34} {i k : Nat} {m : S34} (hm : l[i]? = some m) {x : S49} (hx : m.f3[k]? = some x) (hn : namedS x.f0 = true) {nm : ByteArray} (hnm : nameS m (m.f3.take k) nm = true) :
    (⟨50, 0, i, k⟩ : S40) ∈ checkS (l.set i (its m (m.f3.set k (named1 x nm)))) := by
  have hi := (List.getElem?_eq_some_iff.1 hm).1
  have hk := (List.getElem?_eq_some_iff.1 hx).1
  refine mem_checkS (List.getElem?_set_self hi) (List.getElem?_set_self hk) ?_ (by decide)
  unfold itemS
  rw [if_pos]
  refine ⟨hn, ?_⟩
  show nameS (its m _) (((its m _).f3).take k) nm = true
  have e : ((its m (m.f3.set k (named1 x nm))).f3).take k = m.f3.take k := by
    show (m.f3.set k (named1 x nm)).take k = _
    rw [List.take_set_of_le (by omega)]
  rw [e, nameS_iff]
  exact nameS_iff.1 hnm
theorem ahead_names {m : S34} {ys : List S49} {nm : ByteArray} (h : nm ∈ m.f1 ++ m.f2.map (·.f1) ++ (ys.filter fun x => namedS x.f0).map (·.f1)) : nameS m ys nm = true := by
  rw [nameS_iff]
  rcases List.mem_append.1 h with h | h
  · rcases List.mem_append.1 h with h | h
    · exact .inl ⟨nm, h, eqS_refl _⟩
    · obtain ⟨p, hp, rfl⟩ := List.mem_map.1 h
      exact .inr (.inl ⟨p, hp, eqS_refl _⟩)
  · obtain ⟨p, hp, rfl⟩ := List.mem_map.1 h
    obtain ⟨h1, h2⟩ := List.mem_filter.1 hp
    exact .inr (.inr ⟨p, h1, h2, eqS_refl _⟩)
/- one fault alone -/
theorem flat_nil {α : Type} {f : Nat → List α} {n : Nat} (h : ∀ j, j < n → f j = []) : (List.range n).flatMap f = [] := by
  rw [List.flatMap_eq_nil_iff]; intro j hj; exact h j (List.mem_range.1 hj)
theorem flat_one {α : Type} {f : Nat → List α} {v : List α} {i : Nat} : ∀ {n : Nat}, i < n → f i = v → (∀ j, j < n → j ≠ i → f j = []) → (List.range n).flatMap f = v
  | 0, h, _, _ => by omega
  | n + 1, h, hv, ho => by
    rw [List.range_succ, List.flatMap_append]
    have e : List.flatMap f [n] = f n := by simp
    rw [e]
    by_cases hin : i = n
    · subst hin
      rw [hv, flat_nil (fun j hj => ho j (by omega) (by omega))]; rfl
    · rw [flat_one (by omega) hv (fun j hj hne => ho j (by omega) hne), ho n (by omega) (by omega), List.append_nil]
theorem one_fault {l : List S34} {n i : Nat} {m : S34} {x : S49} {e : Int} (hm : l[n]? = some m) (hx : m.f3[i]? = some x) (he : itemS l n m (m.f3.take i) x = e) (h0 : e ≠ 0)
    (hmod : ∀ (j : Nat) (y : S34), l[j]? = some y → moduleS l j y = 0) (hit : ∀ (j : Nat) (y : S34) (q : Nat) (z : S49), l[j]? = some y → y.f3[q]? = some z → ¬ (j = n ∧ q = i) → itemS l j y (y.f3.take q) z = 0) : checkS l = [⟨e, 0, n, i⟩] := by
  have hn := (List.getElem?_eq_some_iff.1 hm).1
  have hi := (List.getElem?_eq_some_iff.1 hx).1
  have none : ∀ j y q, l[j]? = some y → ¬ (j = n ∧ q = i) → itemF l j y q = [] := by
    intro j y q hy hne
    unfold itemF
    cases hz : y.f3[q]? with
    | none => rfl
    | some z => simp only [hit j y q z hy hz hne, ne_eq, not_true_eq_false, if_false]
  unfold checkS
  rw [if_neg (by omega)]
  refine flat_one hn ?_ fun j hj hne => ?_
  · unfold modF
    rw [hm]
    simp only [hmod n m hm, ne_eq, not_true_eq_false, if_false, List.nil_append]
    unfold itemsF
    refine flat_one hi ?_ fun q _ hne => none n m q hm (by omega)
    unfold itemF
    rw [hx]
    simp only [he, if_pos h0]
  · unfold modF
    have hy := List.getElem?_eq_getElem hj
    rw [hy]
    simp only [hmod j _ hy, ne_eq, not_true_eq_false, if_false, List.nil_append]
    unfold itemsF
    exact flat_nil fun q _ => none j _ q hy (by omega)
/- an expression that refers to what is nothing -/
theorem nameS_key {m m' : S34} (h1 : m.f1 = m'.f1) (h2 : m.f2 = m'.f2) {xs ys : List S49} (h3 : xs.map key = ys.map key) (nm : ByteArray) : nameS m xs nm = nameS m' ys nm := by
  have e : ∀ l : List S49, fst (gNm nm) l 0 = fst (fun (x : Int × ByteArray × ByteArray) i => if namedS x.1 = true ∧ eqS x.2.1 nm = true then some () else none) (l.map key) 0 := fun l => by rw [fst_map]; rfl
  unfold nameS
  rw [h1, h2, e, e, h3]
theorem item_key_same {l l' : List S34} (hF : Face l l') (n : Int) {m m' : S34} (h1 : m.f1 = m'.f1) (h2 : m.f2 = m'.f2) (h3 : m.f3.map key = m'.f3.map key) {xs ys : List S49} (h4 : xs.map key = ys.map key) (x : S49) : itemS l n m xs x = itemS l' n m' ys x := by
  have hA : Alike l l' m m' := ⟨h1, fun nm => by rw [kind_key h1 h2 h3], fun nm _ p => by rw [modOf_key h1 h2 h3, out_face hF]⟩
  unfold itemS
  rw [nameS_key h1 h2 h4, kindOf_alike (m := m) (m' := m') n (fun nm => by rw [kind_key h1 h2 h3]) (x := x) (x' := x) rfl rfl (fun _ => inst_face hF n x), h1, kids_alike hA]
def newE (x : S49) (e : S47) : S49 := ⟨x.f0, x.f1, x.f2, x.f3, x.f4, x.f5, x.f6, e, x.f8, x.f9⟩
theorem set_key {xs : List S49} {k : Nat} {x : S49} (hx : xs[k]? = some x) (e : S47) : xs.map key = (xs.set k (newE x e)).map key := by
  rw [List.map_set]
  refine List.ext_getElem? fun j => ?_
  by_cases h : k = j
  · subst h
    rw [List.getElem?_set_self (by rw [List.length_map]; exact (List.getElem?_eq_some_iff.1 hx).1), List.getElem?_map, hx]; rfl
  · rw [List.getElem?_set_ne h]
theorem key_take {xs ys : List S49} (h : xs.map key = ys.map key) (q : Nat) : (xs.take q).map key = (ys.take q).map key := by rw [List.map_take, List.map_take, h]
/-- The expressions of an item, but for one that is put in its place. -/
theorem own_exprs {l : List S34} {m : S34} {x : S49} {e : S47} {v : Int} (hv : v ≠ 0) (hk : x.f0 ≠ 2 ∧ x.f0 ≠ 5 ∧ x.f0 ≠ 7) (h0 : kidsS l m (exprsL x) = 0) (he : exprS l m e = v) : kidsS l m (exprsL (newE x e)) = v := by
  unfold exprsL at h0 ⊢
  rw [if_neg (by show ¬(x.f0 = 2 ∨ x.f0 = 5); omega)]
  rw [if_neg (by omega)] at h0
  show kidsS l m (if x.f0 = 6 then [x.f8, e, x.f9] else if x.f0 = 7 then x.f6.map (·.f1) else [e]) = v
  by_cases h6 : x.f0 = 6
  · rw [if_pos h6] at h0 ⊢
    have h8 := kids_clear.1 h0 x.f8 List.mem_cons_self
    rw [kidsS, if_neg (by omega), kidsS, he, if_pos hv]
  · rw [if_neg h6] at h0 ⊢
    rw [if_neg hk.2.2, kidsS, he, if_pos hv]
theorem own_told {l : List S34} (hl : checkS l = []) {i k : Nat} {m : S34} (hm : l[i]? = some m) {x : S49} (hx : m.f3[k]? = some x) (hk : x.f0 ≠ 2 ∧ x.f0 ≠ 5 ∧ x.f0 ≠ 7) {e : S47} {v : Int} (hv : v ≠ 0) (he : ∀ l' m', Alike l l' m m' → exprS l' m' e = v) :
    checkS (l.set i (its m (m.f3.set k (newE x e)))) = [⟨v, 0, i, k⟩] := by
  have hne : l ≠ [] := fun h => by subst h; simp at hm
  have hC := (checkS_nil hne).1 hl
  have hi := (List.getElem?_eq_some_iff.1 hm).1
  have hkl := (List.getElem?_eq_some_iff.1 hx).1
  have hF := set_face hm (m.f3.set k (newE x e))
  have h3 := set_key hx e
  have hA : Alike l (l.set i (its m (m.f3.set k (newE x e)))) m (its m (m.f3.set k (newE x e))) := ⟨rfl, fun nm => by rw [kind_key (m := m) (m' := its m (m.f3.set k (newE x e))) rfl rfl h3], fun nm _ p => by rw [modOf_key (m := m) (m' := its m (m.f3.set k (newE x e))) rfl rfl h3, out_face hF]⟩
  refine one_fault (List.getElem?_set_self hi) (List.getElem?_set_self hkl) ?_ hv ?_ ?_
  · have h0 := (hC i m hm).2 k x hx
    obtain ⟨g1, g2, g3, g4⟩ := item_clear.1 h0
    have e1 : (its m (m.f3.set k (newE x e))).f3.take k = m.f3.take k := by
      show (m.f3.set k (newE x e)).take k = _
      rw [List.take_set_of_le (by omega)]
    rw [e1]
    unfold itemS
    rw [if_neg]
    · rw [if_neg]
      · rw [if_neg]
        · exact own_exprs hv hk (by rw [← kids_alike hA]; exact g4) (he _ _ hA)
        · intro h
          obtain ⟨d, hd, e2⟩ := free_some.1 h
          have e3 := g3 d hd
          rw [show freeS m.f1 d = true from e2] at e3; cases e3
      · have e2 : kindOfS (l.set i (its m (m.f3.set k (newE x e)))) i (its m (m.f3.set k (newE x e))) (newE x e) = kindOfS l i m x := (kindOf_alike i hA.kd (x := x) (x' := newE x e) rfl rfl (fun h => absurd h hk.2.2)).symm
        rw [e2, g2]; simp
    · intro h
      refine g1 ⟨h.1, ?_⟩
      rw [nameS_iff]
      exact nameS_iff.1 h.2
  · intro j y hy
    by_cases hj : i = j
    · subst hj
      rw [List.getElem?_set_self hi] at hy
      cases hy
      exact (module_face hF i (m := m) (m' := its m (m.f3.set k (newE x e))) rfl).symm.trans (hC i m hm).1
    · rw [List.getElem?_set_ne hj] at hy
      exact (module_face hF j (m := y) (m' := y) rfl).symm.trans (hC j y hy).1
  · intro j y q z hy hz hne
    by_cases hj : i = j
    · subst hj
      rw [List.getElem?_set_self hi] at hy
      cases hy
      have hq : k ≠ q := by omega
      have hz' : m.f3[q]? = some z := by rw [← hz]; exact (List.getElem?_set_ne hq).symm
      exact (item_key_same hF i (m := m) (m' := its m (m.f3.set k (newE x e))) rfl rfl h3 (key_take h3 q) z).symm.trans ((hC i m hm).2 q z hz')
    · rw [List.getElem?_set_ne hj] at hy
      exact (item_key_same hF j (m := y) (m' := y) rfl rfl rfl rfl z).symm.trans ((hC j y hy).2 q z hz)
/- the items in another order -/
theorem ahead_clear {l : List S34} (hl : checkS l = []) {i : Nat} {m : S34} (hm : l[i]? = some m) {xs : List S49} (hp : xs.Perm m.f3) : checkS (l.set i (its m xs)) = [] := by
  have hne : l ≠ [] := fun h => by subst h; simp at hm
  have hC := (checkS_nil hne).1 hl
  have hi := (List.getElem?_eq_some_iff.1 hm).1
  have hF := set_face hm xs
  obtain ⟨c1, c2⟩ := hC i m hm
  have hsep := clear_sep c2
  have hap := sep_apart hsep
  have hsep' : xs.Pairwise Sep := (hp.pairwise_iff (fun h => sep_symm h)).2 hsep
  have hmem : ∀ x, x ∈ m.f3 ↔ x ∈ (its m xs).f3 := fun x => hp.symm.mem_iff
  have hK := fun nm => kind_perm (m := m) (m' := its m xs) rfl rfl hap hmem nm
  have hA : Alike l (l.set i (its m xs)) m (its m xs) := ⟨rfl, fun nm => (hK nm).1, fun nm h7 p => by rw [(hK nm).2 h7, out_face hF]⟩
  rw [checkS_nil (set_ne_nil hm)]
  intro j y hy
  by_cases hj : i = j
  · subst hj
    rw [List.getElem?_set_self hi] at hy
    cases hy
    refine ⟨(module_face hF i (m := m) (m' := its m xs) rfl).symm.trans c1, fun q x hx => ?_⟩
    have hx' : x ∈ m.f3 := (hmem x).2 (List.mem_of_getElem? hx)
    obtain ⟨j0, hj0⟩ := List.mem_iff_getElem?.1 hx'
    obtain ⟨g1, g2, g3, g4⟩ := item_clear.1 (c2 j0 x hj0)
    refine item_clear.2 ⟨?_, ?_, g3, ?_⟩
    · rintro ⟨hn, h2⟩
      obtain ⟨k1, k2⟩ := clear_head c2 hx' hn
      rcases nameS_iff.1 h2 with ⟨p, hp1, hp2⟩ | ⟨p, hp1, hp2⟩ | ⟨y, hy1, hy2, hy3⟩
      · rw [k1 p hp1] at hp2; cases hp2
      · rw [k2 p hp1] at hp2; cases hp2
      · obtain ⟨q', hq'⟩ := List.mem_iff_getElem?.1 hy1
        have hlt : q' < q := by
          have := (List.getElem?_eq_some_iff.1 hq').1
          rw [List.length_take] at this; omega
        rw [List.getElem?_take_of_lt hlt] at hq'
        obtain ⟨b1, e1⟩ := List.getElem?_eq_some_iff.1 hq'
        obtain ⟨b2, e2⟩ := List.getElem?_eq_some_iff.1 hx
        have this : Sep y x := by
          have t := List.pairwise_iff_getElem.1 hsep' q' q b1 b2 hlt
          rw [← e1, ← e2]; exact t
        rw [this hy2 hn] at hy3; cases hy3
    · exact (kindOf_alike (i : Int) hA.kd (x := x) (x' := x) rfl rfl (fun _ => inst_face hF _ x)).symm.trans g2
    · exact (kids_alike hA _).symm.trans g4
  · rw [List.getElem?_set_ne hj] at hy
    obtain ⟨d1, d2⟩ := hC j y hy
    exact ⟨(module_face hF j (m := y) (m' := y) rfl).symm.trans d1, fun q x hx => (item_key_same hF j (m := y) (m' := y) rfl rfl rfl rfl x).symm.trans (d2 q x hx)⟩
theorem mod_shift (nm : ByteArray) : ∀ (l : List S34) (i : Nat), fst (gMod nm) l (i + 1) = (fst (gMod nm) l i).map (· + 1)
  | [], _ => rfl
  | x :: r, i => by
    have h : gMod nm x (i + 1) = (gMod nm x i).map (· + 1) := by unfold gMod; split <;> simp
    rw [fst, fst, mod_shift nm r (i + 1), h]
    cases gMod nm x i <;> rfl
theorem find_hit {m : S34} {l : List S34} {nm : ByteArray} (h : eqS m.f0 nm = true) : findS (m :: l) nm = 0 := by
  unfold findS; rw [fst]; unfold gMod; rw [if_pos h]; rfl
theorem find_miss {m : S34} {l : List S34} {nm : ByteArray} (h : eqS m.f0 nm = false) {n : Nat} (hn : findS l nm = n) : findS (m :: l) nm = n + 1 := by
  have hg : gMod nm m 0 = none := by unfold gMod; rw [h]; rfl
  unfold findS at hn ⊢
  rw [fst, hg]
  simp only
  rw [mod_shift]
  cases hq : fst (gMod nm) l 0 with
  | none => rw [hq] at hn; simp at hn
  | some b => rw [hq] at hn; simp at hn; simp [hn]
theorem module_clear {l : List S34} {n : Int} {m : S34} : moduleS l n m = 0 ↔ ¬ findS l m.f0 < n ∧ twiceS (headS m) = false ∧ ¬ (n = (l.length : Int) - 1 ∧ 0 < m.f1.length) ∧ (fst (gFree m.f1) (m.f2.map (·.f2)) 0).isSome = false := by
  unfold moduleS
  split
  · rename_i h; exact ⟨fun e => absurd e (by decide), fun e => absurd h e.1⟩
  · rename_i h1
    split
    · rename_i h; exact ⟨fun e => absurd e (by decide), fun e => by rw [e.2.1] at h; cases h⟩
    · rename_i h2
      split
      · rename_i h; exact ⟨fun e => absurd e (by decide), fun e => absurd h e.2.2.1⟩
      · rename_i h3
        split
        · rename_i h; exact ⟨fun e => absurd e (by decide), fun e => by rw [e.2.2.2] at h; cases h⟩
        · rename_i h4; exact ⟨fun _ => ⟨h1, by simpa using h2, h3, by simpa using h4⟩, fun _ => rfl⟩
/-- An instance without faults is of a module ahead. -/
theorem inst_found {l : List S34} {n : Nat} {x : S49} (h : instS l n x = 0) : ∃ (q : Nat) (y : S34), findS l x.f4 = q ∧ q < n ∧ l[q]? = some y ∧ eqS y.f0 x.f4 = true ∧ x.f5.length = y.f1.length := by
  unfold instS at h
  split at h
  · cases h
  · rename_i h1
    split at h
    · cases h
    · rename_i h2
      split at h
      · cases h
      · rename_i h3
        rcases find_cases l x.f4 with ⟨e, _⟩ | ⟨q, y, e, hq, hy, _⟩
        · omega
        · refine ⟨q, y, e, by omega, hq, hy, ?_⟩
          simp only [ne_eq, Decidable.not_not] at h3
          rw [h3, e, Int.toNat_natCast, List.getD_eq_getElem?_getD, hq]; rfl
theorem kindOf_7 {l : List S34} {n : Int} {m : S34} {x : S49} (h : x.f0 = 7) : kindOfS l n m x = instS l n x := by
  unfold kindOfS
  rw [if_neg (by omega), if_neg (by omega), if_neg (by omega), if_neg (by omega), if_pos h]
theorem kindOf_alike' {l l' : List S34} {n n' : Int} {m : S34} {x : S49} (hi : x.f0 = 7 → instS l n x = instS l' n' x) : kindOfS l n m x = kindOfS l' n' m x := by
  unfold kindOfS
  split
  · rfl
  · split
    · rfl
    · split
      · rfl
      · split
        · rfl
        · split
          · rename_i h; exact hi h
          · rfl
theorem more_clear {l : List S34} {m : S34} (hl : l ≠ []) (h : checkS l = []) (h1 : checkS [m] = []) (hn : ∀ y ∈ l, eqS y.f0 m.f0 = false) : checkS (m :: l) = [] := by
  have hC := (checkS_nil hl).1 h
  have hM := (checkS_nil (by simp)).1 h1 0 m rfl
  have hlen : 0 < l.length := Nat.pos_of_ne_zero fun e => hl (List.length_eq_zero_iff.1 e)
  have no7 : ∀ x ∈ m.f3, x.f0 ≠ 7 := by
    intro x hx h7
    obtain ⟨k, hk⟩ := List.mem_iff_getElem?.1 hx
    have := (item_clear.1 (hM.2 k x hk)).2.1
    rw [kindOf_7 h7] at this
    obtain ⟨q, _, _, hq, _⟩ := inst_found (n := 0) this
    omega
  rw [checkS_nil (by simp)]
  intro n y hy
  cases n with
  | zero =>
    simp at hy
    subst hy
    obtain ⟨a1, a2⟩ := hM
    obtain ⟨b1, b2, b3, b4⟩ := module_clear.1 a1
    refine ⟨module_clear.2 ⟨by rw [find_hit (eqS_refl _)]; simp, b2, fun e => by have := e.1; rw [List.length_cons] at this; omega, b4⟩, fun k x hx => ?_⟩
    obtain ⟨g1, g2, g3, g4⟩ := item_clear.1 (a2 k x hx)
    have hA : Alike [m] (m :: l) m m := ⟨rfl, fun _ => rfl, fun nm h7 p => by
      obtain ⟨_, _, j, z, _, hz, _, hz7, _, _⟩ := kind_7 h7
      exact absurd hz7 (no7 z (List.mem_of_getElem? hz))⟩
    exact item_clear.2 ⟨g1, (kindOf_alike _ (fun _ => rfl) (x := x) (x' := x) rfl rfl (fun h7 => absurd h7 (no7 x (List.mem_of_getElem? hx)))).symm.trans g2, g3, (kids_alike hA _).symm.trans g4⟩
  | succ n =>
    have hy' : l[n]? = some y := by simpa using hy
    obtain ⟨a1, a2⟩ := hC n y hy'
    obtain ⟨b1, b2, b3, b4⟩ := module_clear.1 a1
    have hmy : eqS m.f0 y.f0 = false := by rw [eqS_comm]; exact hn y (List.mem_of_getElem? hy')
    have look : ∀ x ∈ y.f3, x.f0 = 7 → ∃ (q : Nat) (z : S34), findS l x.f4 = q ∧ q < n ∧ l[q]? = some z ∧ x.f5.length = z.f1.length ∧ findS (m :: l) x.f4 = q + 1 := by
      intro x hx h7
      obtain ⟨k, hk⟩ := List.mem_iff_getElem?.1 hx
      have h2 := (item_clear.1 (a2 k x hk)).2.1
      rw [kindOf_7 h7] at h2
      obtain ⟨q, z, e1, e2, e3, e4, e5⟩ := inst_found h2
      refine ⟨q, z, e1, e2, e3, e5, find_miss ?_ e1⟩
      cases e : eqS m.f0 x.f4 with
      | false => rfl
      | true =>
        have := hn z (List.mem_of_getElem? e3)
        rw [eqS_trans e4 (eqS_symm e)] at this; cases this
    refine ⟨module_clear.2 ⟨?_, b2, ?_, b4⟩, fun k x hx => ?_⟩
    · rcases find_cases l y.f0 with ⟨e, _⟩ | ⟨q, z, e, _, _, _⟩
      · rw [e] at b1; omega
      · rw [find_miss hmy e]; rw [e] at b1; omega
    · intro e
      refine b3 ⟨?_, e.2⟩
      have := e.1; rw [List.length_cons] at this; omega
    · obtain ⟨g1, g2, g3, g4⟩ := item_clear.1 (a2 k x hx)
      have hxm := List.mem_of_getElem? hx
      have hA : Alike l (m :: l) y y := ⟨rfl, fun _ => rfl, fun nm h7 p => by
        obtain ⟨_, _, j, z, _, hz, _, hz7, _, hzo⟩ := kind_7 h7
        obtain ⟨q, z', e1, _, e3, _, e5⟩ := look z (List.mem_of_getElem? hz) hz7
        rw [hzo]
        unfold outS
        rw [e1, e5, if_neg (by omega), if_neg (by omega)]
        have c1 : ((q : Int) + 1).toNat = q + 1 := by omega
        rw [c1, Int.toNat_natCast, List.getD_cons_succ]⟩
      refine item_clear.2 ⟨g1, (kindOf_alike' (l := l) (l' := m :: l) (n := (n : Int)) (n' := ((n + 1 : Nat) : Int)) (m := y) (x := x) ?_).symm.trans g2, g3, (kids_alike hA _).symm.trans g4⟩
      intro h7
      obtain ⟨q, z, e1, e2, e3, _, e5⟩ := look x hxm h7
      unfold instS
      have c1 : ((q : Int) + 1).toNat = q + 1 := by omega
      rw [e1, e5, c1, Int.toNat_natCast, List.getD_cons_succ, if_neg (show ¬ (q : Int) < 0 by omega), if_neg (show ¬ (q : Int) ≥ (n : Int) by omega), if_neg (show ¬ (q : Int) + 1 < 0 by omega), if_neg (show ¬ (q : Int) + 1 ≥ ((n + 1 : Nat) : Int) by omega)]
/- a design without faults, item by item -/
theorem clear_exprs {l : List S34} (h : checkS l = []) {i k : Nat} {m : S34} {x : S49} (hm : l[i]? = some m) (hx : m.f3[k]? = some x) : ∀ e ∈ exprsL x, exprS l m e = 0 :=
  kids_clear.1 (item_clear.1 (((checkS_nil (fun h => by subst h; simp at hm)).1 h i m hm).2 k x hx)).2.2.2
theorem among_one {k a : Int} (h : amongS k a a a = 0) : k = a := by
  unfold amongS at h
  split at h
  · cases h
  · split at h
    · cases h
    · rename_i h2; omega
theorem clear_kinds {l : List S34} (h : checkS l = []) {i k : Nat} {m : S34} {x : S49} (hm : l[i]? = some m) (hx : m.f3[k]? = some x) :
    (x.f0 = 3 → (kindS m x.f1).1 = 5) ∧ (x.f0 = 4 → (kindS m x.f1).1 = 3) ∧ (x.f0 = 6 → (kindS m x.f1).1 = 6) ∧ (x.f0 = 7 → (kindS m x.f1).1 = 7 ∧ ∃ (q : Nat) (y : S34), findS l x.f4 = q ∧ q < i ∧ l[q]? = some y ∧ x.f5.length = y.f1.length) := by
  have hC := (checkS_nil (fun h => by subst h; simp at hm)).1 h i m hm
  have hk := (item_clear.1 (hC.2 k x hx)).2.1
  refine ⟨fun e => ?_, fun e => ?_, fun e => ?_, fun e => ?_⟩
  · unfold kindOfS at hk
    rw [if_neg (by omega), if_pos e] at hk
    exact among_one hk
  · unfold kindOfS at hk
    rw [if_neg (by omega), if_neg (by omega), if_pos e] at hk
    exact among_one hk
  · unfold kindOfS at hk
    rw [if_neg (by omega), if_neg (by omega), if_neg (by omega), if_pos e] at hk
    exact among_one hk
  · rw [kindOf_7 e] at hk
    obtain ⟨q, y, e1, e2, e3, _, e5⟩ := inst_found hk
    refine ⟨?_, q, y, e1, e2, e3, e5⟩
    have hxm := List.mem_of_getElem? hx
    have hnm : namedS x.f0 = true := by rw [e]; rfl
    obtain ⟨c1, c2⟩ := clear_head hC.2 hxm hnm
    have hap := sep_apart (clear_sep hC.2)
    unfold kindS
    rw [if_neg]
    · cases hq : fst (gPort x.f1) m.f2 0 with
      | some p =>
        obtain ⟨_, z, hz, hz2⟩ := gPort_kind hq
        rw [c2 z hz] at hz2; cases hz2
      | none =>
        simp only [Option.getD_none]
        cases hi : fst (gItem x.f1) m.f3 0 with
        | none => exact absurd ⟨eqS_refl _, by rw [e]; decide⟩ (gItem_none' hi x hxm)
        | some p =>
          obtain ⟨j, z, g1, g2, g3, rfl⟩ := gItem_kind hi
          have : z = x := hap z (List.mem_of_getElem? g1) x hxm (ik_named g3) hnm g2
          subst this
          simp only [Option.getD_some]
          rw [e]; rfl
    · rw [param_pos]
      rintro ⟨p, hp, hp2⟩
      rw [c1 p hp] at hp2; cases hp2
end Go.Proofs.Ytnfhlhjbmcofoaa.S
