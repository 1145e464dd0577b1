/- Scope: laws on rows of the call's own. -/
import Derived.Test.YtnfhlhjbmcofoaaScAs
namespace Go.Proofs.Ytnfhlhjbmcofoaa.S
open Go.RowKit Go.Proofs.YtnfhlhjbmcofoaaW.PrintWords Go.Proofs.YtnfhlhjbmcofoaaW.PrintLast
set_option linter.unusedVariables false
set_option linter.unusedSimpArgs false
theorem info49 : (Try.prog.info? 49).map (fun i => (i.zero, i.size, i.bytes)) = some (some (.agg #[.int .i64 0, .string ⟨#[]⟩, .string ⟨#[]⟩, .int .i64 0, .string ⟨#[]⟩, .int .i64 0, .string ⟨#[]⟩, .slice none 0 0, .slice none 0 0, .int .i64 0, .string ⟨#[]⟩, .int .i64 0, .string ⟨#[]⟩, .int .i64 0, .string ⟨#[]⟩, .int .i64 0, .string ⟨#[]⟩, .int .i64 0, .string ⟨#[]⟩, .slice none 0 0, .int .i64 0, .string ⟨#[]⟩, .int .i64 0, .string ⟨#[]⟩, .int .i64 0, .string ⟨#[]⟩, .int .i64 0, .string ⟨#[]⟩, .int .i64 0, .string ⟨#[]⟩, .slice none 0 0, .int .i64 0, .string ⟨#[]⟩, .int .i64 0, .string ⟨#[]⟩, .int .i64 0, .string ⟨#[]⟩, .int .i64 0, .string ⟨#[]⟩, .int .i64 0, .string ⟨#[]⟩, .slice none 0 0]), 42, 568) := by kernel_rfl
theorem u8_rng {n : Int} (h : (Lit.int .u8 n).wf = true) : 0 ≤ n ∧ n ≤ 255 := by
  simp [Lit.wf, IntKind.min, IntKind.max, IntKind.signed, IntKind.bits] at h
  omega
theorem w64_u8 {x : Int} (h : 0 ≤ x ∧ x ≤ 255) : wrap64 x = ((x.toNat : Nat) : Int) := by unfold wrap64; omega
theorem mod_at {x : Int} (h : 0 ≤ x ∧ x ≤ 255) {n : Nat} (hn : 0 < n) : (wrap64 x).tmod (n : Int) = ((x.toNat % n : Nat) : Int) := by
  rw [w64_u8 h]; rfl
theorem R_fresh {α : Type} {d : Kd α} {e base : Nat} {ok : Nat → Prop} {W : World} {v : Value} {xs : List α} (h : d.R e W base ok v xs) (k : Nat) (hk : W.heap.size ≤ k) : some k ≠ v.ownBlock := fun he => by
  obtain ⟨inner, ho⟩ := Kd.R_own h
  have := own_lt ho k he.symm
  omega
theorem R_two {α : Type} {d : Kd α} {e base : Nat} {W W1 : World} {u v v' : Value} {xs : List α} (h : d.R e W base (fun k => some k ≠ v.ownBlock) u xs) (hgr : W.grownBy W1 v.ownBlock) (hat : v'.ownBlock = v.ownBlock ∨ ∃ b, v'.ownBlock = some b ∧ W.heap.size ≤ b) : d.R e W1 base (fun k => some k ≠ v'.ownBlock) u xs :=
  Kd.R_mono (Kd.R_move (Kd.R_bound h) (fun k hk => hgr.block k hk.2.2.1 hk.1)) (fun k hk he => by
    rcases hat with h | ⟨b, h, hle⟩
    · rw [h] at he; exact hk.1 he
    · rw [h] at he
      injection he with he
      have := hk.2.2.1; omega)
def turnL (xs : List S49) (t k : Nat) : List S49 := (List.range k).map fun j => xs.getD ((j + t) % xs.length) z49
def backL (xs : List S49) (k : Nat) : List S49 := (List.range k).map fun j => xs.getD (xs.length - 1 - j) z49
theorem back_perm (xs : List S49) : (backL xs xs.length).Perm xs := by
  have e : backL xs xs.length = xs.reverse := by
    refine List.ext_getElem (by simp [backL]) fun j h1 h2 => ?_
    simp only [backL, List.length_map, List.length_range] at h1
    simp only [backL, List.getElem_map, List.getElem_range, List.getElem_reverse, List.getD_eq_getElem?_getD]
    rw [List.getElem?_eq_getElem (by omega)]; rfl
  rw [e]; exact List.reverse_perm xs
theorem turn_perm (xs : List S49) (t : Nat) : (turnL xs t xs.length).Perm xs := by
  by_cases h0 : xs.length = 0
  · rw [List.length_eq_zero_iff] at h0; subst h0; exact List.Perm.refl _
  have hr : t % xs.length < xs.length := Nat.mod_lt _ (by omega)
  have e : turnL xs t xs.length = xs.drop (t % xs.length) ++ xs.take (t % xs.length) := by
    refine List.ext_getElem (by simp [turnL]; omega) fun j h1 h2 => ?_
    simp only [turnL, List.length_map, List.length_range] at h1
    simp only [turnL, List.getElem_map, List.getElem_range, List.getD_eq_getElem?_getD]
    have hm : (j + t) % xs.length < xs.length := Nat.mod_lt _ (by omega)
    rw [List.getElem?_eq_getElem hm, Option.getD_some]
    by_cases hj : j < xs.length - t % xs.length
    · rw [List.getElem_append_left (by simpa using hj), List.getElem_drop]
      congr 1
      rw [Nat.add_mod, Nat.mod_eq_of_lt h1, Nat.mod_eq_of_lt (by omega)]; omega
    · rw [List.getElem_append_right (by simp; omega), List.getElem_take]
      congr 1
      rw [List.length_drop, Nat.add_mod, Nat.mod_eq_of_lt h1, Nat.mod_eq_sub_mod (by omega), Nat.mod_eq_of_lt (by omega)]; omega
  rw [e]
  exact (List.perm_append_comm).trans (by rw [List.take_append_drop])
theorem turn_step (xs : List S49) (t k : Nat) : turnL xs t (k + 1) = turnL xs t k ++ [xs.getD ((k + t) % xs.length) z49] := by simp [turnL, List.range_succ]
theorem back_step (xs : List S49) (k : Nat) : backL xs (k + 1) = backL xs k ++ [xs.getD (xs.length - 1 - k) z49] := by simp [backL, List.range_succ]
theorem sml_set {l : List S34} (h : Sml l) {i : Nat} (hi : i < l.length) {xs : List S49} (hx : xs.length = l[i].f3.length) : Sml (l.set i (its l[i] xs)) := ⟨by rw [List.length_set]; exact h.1, fun m hm => by
  rcases List.mem_or_eq_of_mem_set hm with hm | rfl
  · exact h.2 m hm
  · obtain ⟨h1, h2, h3⟩ := h.2 _ (List.getElem_mem hi)
    exact ⟨h1, h2, by show xs.length ≤ 1000; omega⟩⟩
theorem b49_set {l : List S34} (h : ∀ m ∈ l, ∀ x ∈ m.f3, B49 x) {i : Nat} (hi : i < l.length) {xs : List S49} (hx : ∀ x ∈ xs, x ∈ l[i].f3) : ∀ m ∈ l.set i (its l[i] xs), ∀ x ∈ m.f3, B49 x := fun m hm x hx2 => by
  rcases List.mem_or_eq_of_mem_set hm with hm | rfl
  · exact h m hm x hx2
  · exact h _ (List.getElem_mem hi) x (hx x hx2)
end Go.Proofs.Ytnfhlhjbmcofoaa.S
