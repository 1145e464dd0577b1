/- What follows by units, in plain Lean: 'Der', 'Conf', and that the program's order of work comes to it. Written for this claim. -/
import Derived.Test.YtdlfmobnmcamaaaUnitLook
namespace Go.Proofs.Ytdlfmobnmcamaaa.Q
set_option linter.unusedVariables false
set_option linter.unusedSimpArgs false
open Go.RowKit

/-- The opposite. -/
def neg (x : Int) : Int := wrap64 (-x)
/-- A literal of any use. -/
def Lt (x : Int) : Prop := x ≠ 0 ∧ -4611686018427387904 < x ∧ x < 4611686018427387904
theorem neg_lt {x : Int} (h : Lt x) : neg x = -x := by unfold Lt at h; unfold neg wrap64; omega
theorem neg_Lt {x : Int} (h : Lt x) : Lt (neg x) := by rw [neg_lt h]; unfold Lt at *; omega
theorem neg_neg {x : Int} (h : Lt x) : neg (neg x) = x := by rw [neg_lt (neg_Lt h), neg_lt h]; omega
theorem neg_ne {x : Int} (h : Lt x) : neg x ≠ x := by rw [neg_lt h]; unfold Lt at h; omega

/-- What follows by units. -/
inductive Der (l : List (List Int)) (known : List Int) : Int → Prop
  | known {x : Int} : x ∈ known → Der l known x
  | unit {c : List Int} {x : Int} : c ∈ l → x ∈ c → (∀ y ∈ c, y ≠ x → Der l known (neg y)) → Der l known x
/-- A conflict. -/
def Conf (l : List (List Int)) (known : List Int) : Prop := (∃ x, Der l known x ∧ Der l known (neg x)) ∨ ∃ c ∈ l, ∀ y ∈ c, Der l known (neg y)
/-- Nothing is to be done at a clause. -/
def Good (ks c : List Int) : Prop := (∃ z ∈ c, z ∈ ks) ∨ ∃ y ∈ c, ∃ z ∈ c, y ≠ z ∧ neg y ∉ ks ∧ neg z ∉ ks

theorem scan_none (ks : List Int) : ∀ (c : List Int) (left : Int), scanOf ks c left = none → (∃ z ∈ c, z ∈ ks) ∨ (∃ y ∈ c, neg y ∉ ks ∧ left ≠ 0 ∧ left ≠ y) ∨ ∃ y ∈ c, ∃ z ∈ c, y ≠ z ∧ neg y ∉ ks ∧ neg z ∉ ks
  | [], left, h => by cases h
  | x :: r, left, h => by
    rw [scanOf] at h
    by_cases e1 : x ∈ ks
    · exact .inl ⟨x, List.mem_cons_self, e1⟩
    · rw [if_neg e1] at h
      by_cases e2 : wrap64 (-x) ∈ ks
      · rw [if_pos e2] at h
        rcases scan_none ks r left h with ⟨z, hz, hk⟩ | ⟨y, hy, hk⟩ | ⟨y, hy, z, hz, hk⟩
        · exact .inl ⟨z, List.mem_cons_of_mem _ hz, hk⟩
        · exact .inr (.inl ⟨y, List.mem_cons_of_mem _ hy, hk⟩)
        · exact .inr (.inr ⟨y, List.mem_cons_of_mem _ hy, z, List.mem_cons_of_mem _ hz, hk⟩)
      · rw [if_neg e2] at h
        by_cases e3 : left ≠ 0 ∧ left ≠ x
        · exact .inr (.inl ⟨x, List.mem_cons_self, e2, e3.1, e3.2⟩)
        · rw [if_neg e3] at h
          rcases scan_none ks r x h with ⟨z, hz, hk⟩ | ⟨y, hy, hk, _, hne⟩ | ⟨y, hy, z, hz, hk⟩
          · exact .inl ⟨z, List.mem_cons_of_mem _ hz, hk⟩
          · exact .inr (.inr ⟨x, List.mem_cons_self, y, List.mem_cons_of_mem _ hy, hne, e2, hk⟩)
          · exact .inr (.inr ⟨y, List.mem_cons_of_mem _ hy, z, List.mem_cons_of_mem _ hz, hk⟩)
theorem scan_some (ks : List Int) : ∀ (c : List Int) (left z : Int), (∀ y ∈ c, y ≠ 0) → scanOf ks c left = some z → (∀ y ∈ c, y ∉ ks) ∧ (∀ y ∈ c, neg y ∈ ks ∨ y = z) ∧ (z = left ∨ (z ∈ c ∧ neg z ∉ ks ∧ (left = 0 ∨ left = z)))
  | [], left, z, _, h => by
    have := Option.some.inj h
    exact ⟨by simp, by simp, .inl this.symm⟩
  | x :: r, left, z, h0, h => by
    rw [scanOf] at h
    have h0r : ∀ y ∈ r, y ≠ 0 := fun y hy => h0 y (List.mem_cons_of_mem _ hy)
    by_cases e1 : x ∈ ks
    · rw [if_pos e1] at h; cases h
    · rw [if_neg e1] at h
      by_cases e2 : wrap64 (-x) ∈ ks
      · rw [if_pos e2] at h
        obtain ⟨h1, h2, h3⟩ := scan_some ks r left z h0r h
        refine ⟨fun y hy => ?_, fun y hy => ?_, ?_⟩
        · rcases List.mem_cons.1 hy with rfl | hy
          · exact e1
          · exact h1 y hy
        · rcases List.mem_cons.1 hy with rfl | hy
          · exact .inl e2
          · exact h2 y hy
        · rcases h3 with h3 | ⟨h3, h4⟩
          · exact .inl h3
          · exact .inr ⟨List.mem_cons_of_mem _ h3, h4⟩
      · rw [if_neg e2] at h
        by_cases e3 : left ≠ 0 ∧ left ≠ x
        · rw [if_pos e3] at h; cases h
        · rw [if_neg e3] at h
          obtain ⟨h1, h2, h3⟩ := scan_some ks r x z h0r h
          have hx : x = z ∨ x = 0 := by
            rcases h3 with h3 | ⟨_, _, h5 | h5⟩
            · exact .inl h3.symm
            · exact .inr h5
            · exact .inl h5
          by_cases e4 : x = z
          · subst e4
            refine ⟨fun y hy => ?_, fun y hy => ?_, .inr ⟨List.mem_cons_self, e2, ?_⟩⟩
            · rcases List.mem_cons.1 hy with rfl | hy
              · exact e1
              · exact h1 y hy
            · rcases List.mem_cons.1 hy with rfl | hy
              · exact .inr rfl
              · exact h2 y hy
            · by_cases e5 : left = 0
              · exact .inl e5
              · exact .inr (Decidable.not_not.1 fun e6 => e3 ⟨e5, e6⟩)
          · exact absurd (hx.resolve_left e4) (h0 x List.mem_cons_self)

/-- Where the work stands: what is taken, how many of it have been looked after; 'todo': clauses that wait. -/
structure Inv (l : List (List Int)) (known : List Int) (todo : Nat → Prop) (ks : List Int) (p : Nat) : Prop where
  nodup : ks.Nodup
  der : ∀ x ∈ ks, Der l known x
  lt : ∀ x ∈ ks, Lt x
  of : ∀ x ∈ ks, x ∈ known ++ l.flatten
  con : ∀ x ∈ ks, neg x ∉ ks
  done : p ≤ ks.length
  good : ∀ i c, l[i]? = some c → todo i ∨ Good ks c ∨ ∃ x ∈ ks.drop p, neg x ∈ c
section
variable {l : List (List Int)} {known : List Int} {todo : Nat → Prop} {ks : List Int} {p : Nat}
theorem drop_push (ks : List Int) (p : Nat) (h : p ≤ ks.length) (x : Int) : (ks ++ [x]).drop p = ks.drop p ++ [x] := by
  rw [List.drop_append_of_le_length h]
theorem Inv.push (hL : ∀ c ∈ l, ∀ y ∈ c, Lt y) (I : Inv l known todo ks p) {x : Int} (hx : x ∉ ks) (hn : neg x ∉ ks) (hd : Der l known x) (hl : Lt x) (ho : x ∈ known ++ l.flatten) : Inv l known todo (ks ++ [x]) p where
  nodup := by
    rw [List.nodup_append]
    refine ⟨I.nodup, by simp, fun a ha b hb => ?_⟩
    simp at hb
    subst hb
    exact fun e => hx (e ▸ ha)
  der y hy := by
    rcases List.mem_append.1 hy with h | h
    · exact I.der y h
    · simp at h; subst h; exact hd
  lt y hy := by
    rcases List.mem_append.1 hy with h | h
    · exact I.lt y h
    · simp at h; subst h; exact hl
  of y hy := by
    rcases List.mem_append.1 hy with h | h
    · exact I.of y h
    · simp at h; subst h; exact ho
  con y hy := by
    intro hc
    rcases List.mem_append.1 hy with h | h
    · rcases List.mem_append.1 hc with k | k
      · exact I.con y h k
      · simp at k
        apply hn
        rw [← k, neg_neg (I.lt y h)]
        exact h
    · simp at h
      subst h
      rcases List.mem_append.1 hc with k | k
      · exact hn k
      · simp at k
        exact neg_ne hl k
  done := by simp; have := I.done; omega
  good i c hc := by
    rw [drop_push ks p I.done]
    rcases I.good i c hc with h | h | ⟨y, hy, hyc⟩
    · exact .inl h
    · right
      rcases h with ⟨z, hz, hk⟩ | ⟨y, hy, z, hz, hne, h1, h2⟩
      · exact .inl (.inl ⟨z, hz, List.mem_append_left _ hk⟩)
      · by_cases e1 : neg y = x
        · exact .inr ⟨x, by simp, by rw [← e1, neg_neg (hL c (List.mem_of_getElem? hc) y hy)]; exact hy⟩
        · by_cases e2 : neg z = x
          · exact .inr ⟨x, by simp, by rw [← e2, neg_neg (hL c (List.mem_of_getElem? hc) z hz)]; exact hz⟩
          · exact .inl (.inr ⟨y, hy, z, hz, hne, fun h => (List.mem_append.1 h).elim h1 (fun h => e1 (by simpa using h)), fun h => (List.mem_append.1 h).elim h2 (fun h => e2 (by simpa using h))⟩)
    · exact .inr (.inr ⟨y, List.mem_append_left _ hy, hyc⟩)
theorem take_sub (ks q : List Int) (z : Int) : ∀ x ∈ ks, x ∈ (takeOf ks q z).2.1 := fun x hx => by
  unfold takeOf
  split
  · exact hx
  · split
    · exact hx
    · exact List.mem_append_left _ hx
theorem look_sub (ks q c : List Int) : ∀ x ∈ ks, x ∈ (lookOf ks q c).2.1 := fun x hx => by
  unfold lookOf lookBy
  split
  · exact hx
  · split
    · exact hx
    · exact take_sub ks q _ x hx
theorem Inv.fewer (I : Inv l known todo ks p) {todo' : Nat → Prop} (h : ∀ i c, l[i]? = some c → todo i → todo' i ∨ Good ks c) : Inv l known todo' ks p :=
  ⟨I.nodup, I.der, I.lt, I.of, I.con, I.done, fun i c hc => by
    rcases I.good i c hc with k | k | k
    · rcases h i c hc k with k | k
      · exact .inl k
      · exact .inr (.inl k)
    · exact .inr (.inl k)
    · exact .inr (.inr k)⟩
/-- A look at a clause. -/
theorem Inv.look (hL : ∀ c ∈ l, ∀ y ∈ c, Lt y) (I : Inv l known todo ks p) {i : Nat} {c : List Int} (hc : l[i]? = some c) :
    ((lookOf ks (ks.drop p) c).1 = false → Conf l known) ∧ ((lookOf ks (ks.drop p) c).1 = true → (lookOf ks (ks.drop p) c).2.2 = (lookOf ks (ks.drop p) c).2.1.drop p ∧ Inv l known (fun j => todo j ∧ j ≠ i) (lookOf ks (ks.drop p) c).2.1 p) := by
  have hcl := List.mem_of_getElem? hc
  have h0 : ∀ y ∈ c, y ≠ 0 := fun y hy => (hL c hcl y hy).1
  unfold lookOf
  cases hs : scanOf ks c 0 with
  | none =>
    refine ⟨fun h => (by cases h), fun _ => ⟨rfl, I.fewer fun j d hd hj => ?_⟩⟩
    by_cases e : j = i
    · subst e
      rw [hc] at hd
      cases hd
      refine .inr ?_
      rcases scan_none ks c 0 hs with h | ⟨_, _, _, h, _⟩ | h
      · exact .inl h
      · exact absurd rfl h
      · exact .inr h
    · exact .inl ⟨hj, e⟩
  | some z =>
    obtain ⟨h1, h2, h3⟩ := scan_some ks c 0 z h0 hs
    by_cases hz : z = 0
    · subst hz
      refine ⟨fun _ => .inr ⟨c, hcl, fun y hy => I.der _ ((h2 y hy).resolve_right (h0 y hy))⟩, fun h => ?_⟩
      simp [lookBy] at h
    · obtain ⟨hzc, hnz, _⟩ := h3.resolve_left hz
      have e : lookBy ks (ks.drop p) (some z) = (true, ks ++ [z], ks.drop p ++ [z]) := by
        rw [lookBy, if_neg hz, takeOf, if_neg (show ¬ wrap64 (-z) ∈ ks from hnz), if_neg (h1 z hzc)]
      rw [e]
      refine ⟨fun h => (by cases h), fun _ => ⟨(drop_push ks p I.done z).symm, ?_⟩⟩
      have I2 := I.push hL (h1 z hzc) hnz (.unit hcl hzc fun y hy hne => I.der _ ((h2 y hy).resolve_right hne)) (hL c hcl z hzc) (List.mem_append_right _ (List.mem_flatten.2 ⟨c, hcl, hzc⟩))
      refine I2.fewer fun j d hd hj => ?_
      by_cases e : j = i
      · subst e
        rw [hc] at hd
        cases hd
        exact .inr (.inl ⟨z, hzc, by simp⟩)
      · exact .inl ⟨hj, e⟩
/-- Taking what is known. -/
theorem Inv.take (hL : ∀ c ∈ l, ∀ y ∈ c, Lt y) (I : Inv l known todo ks p) {x : Int} (hx : x ∈ known) (hl : Lt x) :
    ((takeOf ks (ks.drop p) x).1 = false → Conf l known) ∧ ((takeOf ks (ks.drop p) x).1 = true → (takeOf ks (ks.drop p) x).2.2 = (takeOf ks (ks.drop p) x).2.1.drop p ∧ Inv l known todo (takeOf ks (ks.drop p) x).2.1 p ∧ x ∈ (takeOf ks (ks.drop p) x).2.1 ∧ ∀ y ∈ ks, y ∈ (takeOf ks (ks.drop p) x).2.1) := by
  unfold takeOf
  by_cases e1 : wrap64 (-x) ∈ ks
  · rw [if_pos e1]
    exact ⟨fun _ => .inl ⟨x, .known hx, I.der _ e1⟩, fun h => (by cases h)⟩
  · rw [if_neg e1]
    by_cases e2 : x ∈ ks
    · rw [if_pos e2]
      exact ⟨fun h => (by cases h), fun _ => ⟨rfl, I, e2, fun _ h => h⟩⟩
    · rw [if_neg e2]
      exact ⟨fun h => (by cases h), fun _ => ⟨(drop_push ks p I.done x).symm, I.push hL e2 e1 (.known hx) hl (List.mem_append_left _ hx), by simp, fun y hy => List.mem_append_left _ hy⟩⟩
theorem Inv.pop (I : Inv l known (fun _ => False) ks p) {x : Int} {r : List Int} (h : ks.drop p = x :: r) : ks.drop (p + 1) = r ∧ Inv l known (fun i => ∃ c, l[i]? = some c ∧ neg x ∈ c) ks (p + 1) := by
  have hr : ks.drop (p + 1) = r := by rw [← List.drop_drop, h]; rfl
  have hp : p < ks.length := by
    rcases Nat.lt_or_ge p ks.length with h' | h'
    · exact h'
    · rw [List.drop_eq_nil_of_le h'] at h; cases h
  refine ⟨hr, ⟨I.nodup, I.der, I.lt, I.of, I.con, hp, fun i c hc => ?_⟩⟩
  rcases I.good i c hc with k | k | ⟨y, hy, hyc⟩
  · exact k.elim
  · exact .inr (.inl k)
  · rw [h] at hy
    rcases List.mem_cons.1 hy with e | hy
    · subst e; exact .inl ⟨c, hc, hyc⟩
    · exact .inr (.inr ⟨y, by rw [hr]; exact hy, hyc⟩)
/-- The end: what is taken is what follows, and there is no conflict. -/
theorem Inv.last (hL : ∀ c ∈ l, ∀ y ∈ c, Lt y) (I : Inv l known (fun _ => False) ks p) (hp : ks.drop p = []) (hk : ∀ x ∈ known, x ∈ ks) : (∀ x, Der l known x ↔ x ∈ ks) ∧ ¬ Conf l known := by
  have hg : ∀ c ∈ l, Good ks c := fun c hc => by
    obtain ⟨i, hi⟩ := List.getElem?_of_mem hc
    rcases I.good i c hi with k | k | ⟨y, hy, _⟩
    · exact k.elim
    · exact k
    · rw [hp] at hy; cases hy
  have no : ∀ z, z ∈ ks → neg z ∈ ks → False := fun z h h' => I.con z h h'
  have hd : ∀ x, Der l known x → x ∈ ks := by
    intro x h
    induction h with
    | known h => exact hk _ h
    | @unit c x hc hx _ ih =>
      rcases hg c hc with ⟨z, hz, hzk⟩ | ⟨y, hy, z, hz, hne, h1, h2⟩
      · by_cases e : z = x
        · exact e ▸ hzk
        · exact (no z hzk (ih z hz e)).elim
      · by_cases e : y = x
        · exact absurd (ih z hz (fun e' => hne (e.trans e'.symm))) h2
        · exact absurd (ih y hy e) h1
  refine ⟨fun x => ⟨hd x, I.der x⟩, ?_⟩
  rintro (⟨x, h1, h2⟩ | ⟨c, hc, h⟩)
  · exact no x (hd x h1) (hd _ h2)
  · rcases hg c hc with ⟨z, hz, hzk⟩ | ⟨y, hy, z, hz, hne, h1, h2⟩
    · exact no z hzk (hd _ (h z hz))
    · exact h1 (hd _ (h y hy))
end
end Go.Proofs.Ytdlfmobnmcamaaa.Q
