/- Rows that are written out, as the contracts read them. Written for this claim. -/
import Derived.Test.YtdlfmobnmcamaaaQx0
namespace Go.Proofs.Ytdlfmobnmcamaaa.Q
open Go.RowKit Go.Proofs.YtdlfmobnmcamaaaW.PrintWords Go.Proofs.YtdlfmobnmcamaaaW.PrintLast Go.Proofs.YtdlfmobnmcamaaaW.PrintMore
set_option linter.unusedVariables false
theorem lit_C {W : World} {g : Nat} {e : TypeId} {fr : Nat × Nat} (xs : List Int) (hm : xs.length ≤ 9223372036854775807) (h : W.heap[g]? = some (.cells (nums .i64 xs).toArray e fr)) : Kd.C (Kd.int .i64) W (some ⟨g, 0, none⟩) xs.length xs := by
  refine ⟨rfl, hm, fun _ => ⟨_, rfl, fun j p hj => ⟨[.int .i64 p], rfl, rfl, fun i u hu => ?_⟩⟩⟩
  have hi : i = 0 := by
    have := (List.getElem?_eq_some_iff.1 hu).1
    simp at this
    exact this
  subst hi
  simp at hu
  subst hu
  have hjl := (List.getElem?_eq_some_iff.1 hj).1
  have e0 : (⟨g, 0, none⟩ : Addr).add (j * (Kd.int .i64).sz + 0) = ⟨g, j, none⟩ := by
    have : j * (Kd.int .i64).sz + 0 = j := by show j * 1 + 0 = j; omega
    rw [this]
    exact add_plain g j
  rw [e0, cell_of_row W g j _ e fr h]
  simp [nums, hj]
theorem litB_C {W : World} {g : Nat} {e : TypeId} {fr : Nat × Nat} (xs : List Bool) (hm : xs.length ≤ 9223372036854775807) (h : W.heap[g]? = some (.cells (bools xs).toArray e fr)) : Kd.C Kd.bool W (some ⟨g, 0, none⟩) xs.length xs := by
  refine ⟨rfl, hm, fun _ => ⟨_, rfl, fun j p hj => ⟨[.bool p], rfl, rfl, fun i u hu => ?_⟩⟩⟩
  have hi : i = 0 := by
    have := (List.getElem?_eq_some_iff.1 hu).1
    simp at this
    exact this
  subst hi
  simp at hu
  subst hu
  have hjl := (List.getElem?_eq_some_iff.1 hj).1
  have e0 : (⟨g, 0, none⟩ : Addr).add (j * Kd.bool.sz + 0) = ⟨g, j, none⟩ := by
    have : j * Kd.bool.sz + 0 = j := by show j * 1 + 0 = j; omega
    rw [this]
    exact add_plain g j
  rw [e0, cell_of_row W g j _ e fr h]
  simp [bools, hj]
/-- A row of rows, each written out: 'gs' its rows' blocks. -/
theorem lits_C {W : World} {g : Nat} {e e' : TypeId} {fr : Nat × Nat} (xs : List (List Int)) (gs : List Nat) (hm : xs.length ≤ 9223372036854775807) (h : W.heap[g]? = some (.cells ((gs.zip xs).map fun p => Value.slice (some ⟨p.1, 0, none⟩) p.2.length p.2.length).toArray e fr)) (hl : gs.length = xs.length)
    (hr : ∀ (i : Nat) b x, gs[i]? = some b → xs[i]? = some x → Kd.C (Kd.int .i64) W (some ⟨b, 0, none⟩) x.length x) : Kd.C (Kd.slice 3 (Kd.int .i64)) W (some ⟨g, 0, none⟩) xs.length xs := by
  refine ⟨rfl, hm, fun _ => ⟨_, rfl, fun j p hj => ?_⟩⟩
  have hjl := (List.getElem?_eq_some_iff.1 hj).1
  obtain ⟨b, hb⟩ : ∃ b, gs[j]? = some b := ⟨gs[j]'(by omega), List.getElem?_eq_getElem (by omega)⟩
  refine ⟨[.slice (some ⟨b, 0, none⟩) p.length p.length], rfl, ⟨_, _, rfl, Nat.le_refl _, hr j b p hb hj⟩, fun i u hu => ?_⟩
  have hi : i = 0 := by
    have := (List.getElem?_eq_some_iff.1 hu).1
    simp at this
    exact this
  subst hi
  simp at hu
  subst hu
  have e0 : (⟨g, 0, none⟩ : Addr).add (j * (Kd.slice 3 (Kd.int .i64)).sz + 0) = ⟨g, j, none⟩ := by
    have : j * (Kd.slice 3 (Kd.int .i64)).sz + 0 = j := by show j * 1 + 0 = j; omega
    rw [this]
    exact add_plain g j
  rw [e0, cell_of_row W g j _ e fr h]
  simp [List.getElem?_zip_eq_some, hj, hb]
  exact ⟨b, p, ⟨rfl, rfl⟩, rfl, rfl⟩
end Go.Proofs.Ytdlfmobnmcamaaa.Q
