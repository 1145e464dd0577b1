/- Scope: laws on rows of the call's own: an element that is stored anew. -/
import Derived.Test.YtnfhlhjbmcofoaaScBa
namespace Go.Proofs.Ytnfhlhjbmcofoaa.S
open Go.RowKit Go.Proofs.YtnfhlhjbmcofoaaW.PrintWords Go.Proofs.YtnfhlhjbmcofoaaW.PrintLast
set_option linter.unusedVariables false
set_option linter.unusedSimpArgs false
theorem row_open {α : Type} {d : Kd α} {w0 W : World} {e base : Nat} {ok : Nat → Prop} {v : Value} {xs : List α} (h : (Kd.fixed d w0).R e W base ok v xs) (hne : 0 < xs.length) :
    ∃ g cap cur, v = .slice (some ⟨g, 0, none⟩) xs.length cap ∧ base ≤ g ∧ W.heap[g]? = some (.cells cur e (0, 0)) ∧ xs.length * d.sz ≤ cur.size := by
  obtain ⟨_, inner, ⟨h1, h2⟩, _⟩ := h
  rcases h2 with ⟨_, h2⟩ | ⟨g, cap, cur, rfl, hg, hh, hc, _, hs, _⟩
  · omega
  · exact ⟨g, cap, cur, rfl, hg, hh, by rw [hs]; exact Nat.mul_le_mul_right _ hc⟩
theorem row_put {α : Type} {d : Kd α} {w0 W w1 : World} {e base g cap k : Nat} {ok : Nat → Prop} {xs : List α} {y : α} {cs : List Value} {cur cur' : Array Value} (h : (Kd.fixed d w0).R e W base ok (.slice (some ⟨g, 0, none⟩) xs.length cap) xs)
    (hg : W.heap[g]? = some (.cells cur e (0, 0))) (hk : k < xs.length) (hy : d.K w0 y cs) (hc : cur'.toList = cur.toList.take (k * d.sz) ++ cs ++ cur.toList.drop (k * d.sz + cs.length)) (h1 : w1.heap[g]? = some (.cells cur' e (0, 0))) :
    (Kd.fixed d w0).R e w1 base ok (.slice (some ⟨g, 0, none⟩) xs.length cap) (xs.set k y) := by
  have hcl : cs.length = d.sz := d.K_len hy
  obtain ⟨hok, inner, ⟨i1, i2⟩, hr⟩ := h
  have i1' : inner.length = xs.length * d.sz := i1
  have hr' : Reps (d.K w0) d.sz xs inner := hr
  rcases i2 with ⟨i2, _⟩ | ⟨g2, cap2, cur2, hv, hb, hh, hn, hm, hs, ht⟩
  · cases i2
  injection hv with hv _ hcap
  injection hv with hv
  injection hv with hv
  subst hv hcap
  rw [hg] at hh
  injection hh with hh
  injection hh with hh
  subst hh
  have hs' : cur.size = cap * d.sz := hs
  have ht' : cur.toList.take (xs.length * d.sz) = inner := ht
  have hk1 : (k + 1) * d.sz ≤ xs.length * d.sz := Nat.mul_le_mul_right _ hk
  have hk2 : (k + 1) * d.sz = k * d.sz + d.sz := by rw [Nat.add_mul, Nat.one_mul]
  have hkn : xs.length * d.sz ≤ cap * d.sz := Nat.mul_le_mul_right _ hn
  have hcurl : cur.toList.length = cap * d.sz := by rw [Array.length_toList, hs']
  have hsize : cur'.size = cap * d.sz := by
    rw [← Array.length_toList, hc, List.length_append, List.length_append, List.length_take, List.length_drop, hcurl, hcl]; omega
  have e1 : cur'.toList.take (xs.length * d.sz) = inner.take (k * d.sz) ++ cs ++ inner.drop ((k + 1) * d.sz) := by
    have ea : (cur.toList.take (k * d.sz)).length = k * d.sz := by rw [List.length_take, hcurl]; omega
    have eb : inner.take (k * d.sz) = cur.toList.take (k * d.sz) := by rw [← ht', List.take_take]; congr 1; omega
    have ec : inner.drop ((k + 1) * d.sz) = (cur.toList.drop (k * d.sz + cs.length)).take (xs.length * d.sz - (k * d.sz + cs.length)) := by
      rw [← ht', List.drop_take, hk2, hcl]
    have f1 : (cur.toList.take (k * d.sz)).take (xs.length * d.sz) = cur.toList.take (k * d.sz) := List.take_of_length_le (by rw [ea]; omega)
    have f2 : cs.take (xs.length * d.sz - k * d.sz) = cs := List.take_of_length_le (by rw [hcl]; omega)
    rw [hc, List.append_assoc, List.take_append, List.take_append, ea, f1, f2, eb, ec, hcl, Nat.sub_sub, List.append_assoc]
  have e2 : xs.set k y = xs.take k ++ [y] ++ xs.drop (k + 1) := by rw [List.set_eq_take_append_cons_drop, if_pos hk]; simp
  refine ⟨hok, inner.take (k * d.sz) ++ cs ++ inner.drop ((k + 1) * d.sz), ⟨?_, .inr ⟨g, cap, cur', by rw [List.length_set], hb, h1, by rw [List.length_set]; exact hn, hm, hsize, by rw [List.length_set]; exact e1⟩⟩, ?_⟩
  · rw [List.length_set]
    show _ = xs.length * d.sz
    rw [← e1, List.length_take, Array.length_toList (xs := cur'), hsize]; omega
  · rw [e2]
    exact (Kd.reps_append (Kd.reps_append (Kd.reps_take hr' (Nat.le_of_lt hk)) (Reps.snoc (Reps.none _ _) hy hcl)) (Kd.reps_drop hr'))
theorem b49_set' {l : List S34} (h : ∀ m ∈ l, ∀ x ∈ m.f3, B49 x) {i : Nat} (hi : i < l.length) {xs : List S49} (hx : ∀ x ∈ xs, B49 x) : ∀ m ∈ l.set i (its l[i] xs), ∀ x ∈ m.f3, B49 x := fun m hm x hx2 => by
  rcases List.mem_or_eq_of_mem_set hm with hm | rfl
  · exact h m hm x hx2
  · exact hx x hx2
theorem b49_put {xs : List S49} (h : ∀ x ∈ xs, B49 x) {k : Nat} {y : S49} (hy : B49 y) : ∀ x ∈ xs.set k y, B49 x := fun x hx => by
  rcases List.mem_or_eq_of_mem_set hx with hx | rfl
  · exact h x hx
  · exact hy
theorem b49_newE {x : S49} (h : B49 x) {s : ByteArray} (hs : s.size ≤ 1000) : B49 (newE x (refE s)) := by
  obtain ⟨a0, a1, a2, a3, a4, a5, a6, a7, a8, a9⟩ := h
  exact ⟨a0, a1, a2, a3, a4, a5, a6, B47_ref s hs, a8, a9⟩
theorem b49_named {x : S49} (h : B49 x) {s : ByteArray} (hs : s.size ≤ 140737488351232) : B49 (named1 x s) := by
  obtain ⟨a0, a1, a2, a3, a4, a5, a6, a7, a8, a9⟩ := h
  exact ⟨a0, hs, a2, a3, a4, a5, a6, a7, a8, a9⟩
theorem own_here {l : List S34} {m : S34} (h : (kindS m ⟨#[63]⟩).1 = 0) : ∀ l' m', Alike l l' m m' → exprS l' m' (refE ⟨#[63]⟩) = 51 := fun l' m' hA => by
  have hd : dotS ⟨#[63]⟩ < 0 := by decide
  have hr : refS l' m' ⟨#[63]⟩ = 51 := by
    rw [refS_eq, if_pos hd, ← hA.kd, h]; rfl
  have ho : ∀ a b c d, ownS l' m' 2 a b c d ⟨#[63]⟩ = 51 := fun a b c d => by
    unfold ownS; rw [if_neg (by decide), if_neg (by decide), if_neg (by decide), if_pos rfl, hr]
  unfold refE
  rw [exprS, if_neg (by decide), ho, if_pos (by decide)]
end Go.Proofs.Ytnfhlhjbmcofoaa.S
