/- The range over what is taken. Written for this claim. -/
import Derived.Test.YtdlfmobnmcamaaaUnitTake
import Derived.Maps.RangeRun
namespace Go.Proofs.Ytdlfmobnmcamaaa.Q
open Go.RowKit Go.Conc Go.MapKept Go.ChangeMaps Go.Proofs.YtdlfmobnmcamaaaW.PrintWords Go.Proofs.YtdlfmobnmcamaaaW.PrintLast Go.Proofs.YtdlfmobnmcamaaaW.PrintMore
set_option linter.unusedVariables false
set_option linter.unusedSimpArgs false
theorem tents_mem (ks : List Int) (e : MapEntry) : e ∈ (tents ks).toList ↔ ∃ (j : Nat) (h : j < ks.length), e = { key := .int .i64 ks[j], val := .bool true, born := j } := by
  simp only [tents, tentsFrom, List.mem_map]
  constructor
  · rintro ⟨⟨x, j⟩, hp, rfl⟩
    obtain ⟨_, h1, h2⟩ := List.mem_zipIdx hp
    simp at h1
    refine ⟨j, h1, ?_⟩
    simp at h2
    rw [h2]
  · rintro ⟨j, h, rfl⟩
    exact ⟨(ks[j], j), List.mk_mem_zipIdx_iff_getElem?.2 (by simp [h]), rfl⟩
theorem tents_born (ks : List Int) : ((tents ks).toList.map (·.born)) = List.range ks.length := by
  have e : (tents ks).toList.map (·.born) = (ks.zipIdx 0).map Prod.snd := by simp [tents, tentsFrom, List.map_map, Function.comp_def]
  rw [e, List.zipIdx_map_snd, List.range_eq_range']
/-- A step of the range: nothing is left, or one that has not come. -/
theorem run_next_tents {w : World} {r m : Nat} {ks : List Int} {js : List Nat} (hr : w.heap[r]? = some (.mapIter (some m) ks.length js.toArray ks.length)) (hb : w.heap[m]? = some (.map (tents ks) ks.length)) :
    ((∀ j, j < ks.length → j ∈ js) ∧ ∀ ty, (Instr.next (.pointer (some ⟨r, 0, none⟩)) false ty).run Try.prog w = .ok (.tuple #[.bool false]) w) ∨
    ∃ (j : Nat) (h : j < ks.length) (w1 : World), j ∉ js ∧ (w1 = w ∨ w1 = w.drew) ∧ ∀ ty, (Instr.next (.pointer (some ⟨r, 0, none⟩)) false ty).run Try.prog w = .ok (.tuple #[.bool true, .int .i64 ks[j], .bool true]) (setBlock w1 r (.mapIter (some m) ks.length (js ++ [j]).toArray ks.length)) := by
  have hold : ∀ x ∈ (tents ks).toList, x.born < ks.length := fun x hx => by
    obtain ⟨j, h, rfl⟩ := (tents_mem ks x).1 hx
    exact h
  have hleft : ∀ e : MapEntry, e ∈ (leftOf (tents ks) js.toArray).toList ↔ e ∈ (tents ks).toList ∧ e.born ∉ js := fun e => by
    simp [leftOf]
  rcases run_next_at (P := Try.prog) w 0 r m ks.length ks.length js.toArray (tents ks) ks.length hr hb hold (Nat.le_refl _) with ⟨h0, hrun⟩ | ⟨e, he, w1, hw, hrun⟩
  · refine .inl ⟨fun j hj => ?_, fun ty => hrun⟩
    by_cases c : j ∈ js
    · exact c
    · have : (leftOf (tents ks) js.toArray).toList = [] := by
        have := Array.eq_empty_of_size_eq_zero h0
        rw [this]
      have hm := (hleft _).2 ⟨(tents_mem ks _).2 ⟨j, hj, rfl⟩, c⟩
      rw [this] at hm
      cases hm
  · obtain ⟨h1, h2⟩ := (hleft e).1 he
    obtain ⟨j, h, rfl⟩ := (tents_mem ks e).1 h1
    exact .inr ⟨j, h, w1, h2, hw, fun ty => by
      have h3 := hrun
      simp only [List.push_toArray] at h3
      exact h3⟩
theorem run_entry_tents {w : World} {r m : Nat} {ks : List Int} {js : List Nat} {j : Nat} (h : j < ks.length) (hr : w.heap[r]? = some (.mapIter (some m) ks.length (js ++ [j]).toArray ks.length)) (hb : w.heap[m]? = some (.map (tents ks) ks.length)) :
    (Instr.entry (.pointer (some ⟨r, 0, none⟩))).run Try.prog w = .ok (.tuple #[.int .i64 ks[j], .bool true]) w :=
  run_entry_at w r m ks.length js.toArray (tents ks) ks.length { key := .int .i64 ks[j], val := .bool true, born := j } (by simpa using hr) hb ((tents_mem ks _).2 ⟨j, h, rfl⟩) (by rw [tents_born]; exact List.nodup_range)
end Go.Proofs.Ytdlfmobnmcamaaa.Q
