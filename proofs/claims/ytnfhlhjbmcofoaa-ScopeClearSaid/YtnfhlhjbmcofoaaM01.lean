/- Scope: walks and plain laws of this seat's functions, merged out of smaller texts of this session (ScA, ScB, ScC). -/
import Derived.Test.YtnfhlhjbmcofoaaBase
import Derived.Outline
import Derived.Deep.DeepMust
import Derived.Deep.RegionHeld3
import Derived.StillTailTactics
import Derived.IntWalk
namespace Go.Proofs.Ytnfhlhjbmcofoaa.S
open Go.RowKit Go.Proofs.YtnfhlhjbmcofoaaW.PrintWords Go.Proofs.YtnfhlhjbmcofoaaW.PrintLast
set_option linter.unusedVariables false
set_option linter.unusedSimpArgs false
theorem at40 {w : World} {A : Option Addr} {l : List S40} (h : Kd.C k40 w A l.length l) (i : Nat) (hi : i < l.length) : ∃ ad , A = some ad ∧ w.cell? (ad.add (i * 4)) = some (.int .i64 l[i].f0) ∧ w.cell? ⟨(ad.add (i * 4)).block, (ad.add (i * 4)).off + 1, none⟩ = some (.int .i64 l[i].f1) ∧ w.cell? ⟨(ad.add (i * 4)).block, (ad.add (i * 4)).off + 2, none⟩ = some (.int .i64 l[i].f2) ∧ w.cell? ⟨(ad.add (i * 4)).block, (ad.add (i * 4)).off + 3, none⟩ = some (.int .i64 l[i].f3) := by
  have e : rd_T40 l (i : Int) = l[i] := by simp [rd_T40, List.getD_eq_getElem?_getD, hi]
  have h2 := at_T40 h (i : Int) (by omega) (by omega)
  rw [e, Int.toNat_natCast] at h2
  exact h2
theorem at42 {w : World} {A : Option Addr} {l : List S42} (h : Kd.C k42 w A l.length l) (i : Nat) (hi : i < l.length) : ∃ ad , A = some ad ∧ w.cell? (ad.add (i * 2)) = some (.string l[i].f0) ∧ w.cell? ⟨(ad.add (i * 2)).block, (ad.add (i * 2)).off + 1, none⟩ = some (.int .i64 l[i].f1) := by
  have e : rd_T42 l (i : Int) = l[i] := by simp [rd_T42, List.getD_eq_getElem?_getD, hi]
  have h2 := at_T42 h (i : Int) (by omega) (by omega)
  rw [e, Int.toNat_natCast] at h2
  exact h2
theorem at59 {w : World} {A : Option Addr} {l : List S59} (h : Kd.C k59 w A l.length l) (i : Nat) (hi : i < l.length) : ∃ ad , A = some ad ∧ w.cell? (ad.add (i * 4)) = some (.bool l[i].f0) ∧ w.cell? ⟨(ad.add (i * 4)).block, (ad.add (i * 4)).off + 1, none⟩ = some (.string l[i].f1) ∧ w.cell? ⟨(ad.add (i * 4)).block, (ad.add (i * 4)).off + 2, none⟩ = some (.string l[i].f2.f0) ∧ w.cell? ⟨(ad.add (i * 4)).block, (ad.add (i * 4)).off + 3, none⟩ = some (.int .i64 l[i].f2.f1) := by
  have e : rd_T59 l (i : Int) = l[i] := by simp [rd_T59, List.getD_eq_getElem?_getD, hi]
  have h2 := at_T59 h (i : Int) (by omega) (by omega)
  rw [e, Int.toNat_natCast] at h2
  exact h2
theorem at47 {w : World} {A : Option Addr} {l : List S47} (h : Kd.C k47 w A l.length l) (i : Nat) (hi : i < l.length) : ∃ ad A10 c10, A = some ad ∧ w.cell? (ad.add (i * 11)) = some (.int .i64 l[i].f0) ∧ w.cell? ⟨(ad.add (i * 11)).block, (ad.add (i * 11)).off + 1, none⟩ = some (.string l[i].f1.f0) ∧ w.cell? ⟨(ad.add (i * 11)).block, (ad.add (i * 11)).off + 2, none⟩ = some (.int .i64 l[i].f1.f1) ∧ w.cell? ⟨(ad.add (i * 11)).block, (ad.add (i * 11)).off + 3, none⟩ = some (.string l[i].f2.f0) ∧ w.cell? ⟨(ad.add (i * 11)).block, (ad.add (i * 11)).off + 4, none⟩ = some (.int .i64 l[i].f2.f1) ∧ w.cell? ⟨(ad.add (i * 11)).block, (ad.add (i * 11)).off + 5, none⟩ = some (.string l[i].f3.f0) ∧ w.cell? ⟨(ad.add (i * 11)).block, (ad.add (i * 11)).off + 6, none⟩ = some (.int .i64 l[i].f3.f1) ∧ w.cell? ⟨(ad.add (i * 11)).block, (ad.add (i * 11)).off + 7, none⟩ = some (.string l[i].f4.f0) ∧ w.cell? ⟨(ad.add (i * 11)).block, (ad.add (i * 11)).off + 8, none⟩ = some (.int .i64 l[i].f4.f1) ∧ w.cell? ⟨(ad.add (i * 11)).block, (ad.add (i * 11)).off + 9, none⟩ = some (.string l[i].f5) ∧ w.cell? ⟨(ad.add (i * 11)).block, (ad.add (i * 11)).off + 10, none⟩ = some (.slice A10 l[i].f6.length c10) ∧ l[i].f6.length ≤ c10 ∧ k47.C w A10 l[i].f6.length l[i].f6 := by
  have e : rd_T47 l (i : Int) = l[i] := by simp [rd_T47, List.getD_eq_getElem?_getD, hi]
  have h2 := at_T47 h (i : Int) (by omega) (by omega)
  rw [e, Int.toNat_natCast] at h2
  exact h2
theorem at64 {w : World} {A : Option Addr} {l : List S64} (h : Kd.C k64 w A l.length l) (i : Nat) (hi : i < l.length) : ∃ ad A11 c11, A = some ad ∧ w.cell? (ad.add (i * 12)) = some (.string l[i].f0) ∧ w.cell? ⟨(ad.add (i * 12)).block, (ad.add (i * 12)).off + 1, none⟩ = some (.int .i64 l[i].f1.f0) ∧ w.cell? ⟨(ad.add (i * 12)).block, (ad.add (i * 12)).off + 2, none⟩ = some (.string l[i].f1.f1.f0) ∧ w.cell? ⟨(ad.add (i * 12)).block, (ad.add (i * 12)).off + 3, none⟩ = some (.int .i64 l[i].f1.f1.f1) ∧ w.cell? ⟨(ad.add (i * 12)).block, (ad.add (i * 12)).off + 4, none⟩ = some (.string l[i].f1.f2.f0) ∧ w.cell? ⟨(ad.add (i * 12)).block, (ad.add (i * 12)).off + 5, none⟩ = some (.int .i64 l[i].f1.f2.f1) ∧ w.cell? ⟨(ad.add (i * 12)).block, (ad.add (i * 12)).off + 6, none⟩ = some (.string l[i].f1.f3.f0) ∧ w.cell? ⟨(ad.add (i * 12)).block, (ad.add (i * 12)).off + 7, none⟩ = some (.int .i64 l[i].f1.f3.f1) ∧ w.cell? ⟨(ad.add (i * 12)).block, (ad.add (i * 12)).off + 8, none⟩ = some (.string l[i].f1.f4.f0) ∧ w.cell? ⟨(ad.add (i * 12)).block, (ad.add (i * 12)).off + 9, none⟩ = some (.int .i64 l[i].f1.f4.f1) ∧ w.cell? ⟨(ad.add (i * 12)).block, (ad.add (i * 12)).off + 10, none⟩ = some (.string l[i].f1.f5) ∧ w.cell? ⟨(ad.add (i * 12)).block, (ad.add (i * 12)).off + 11, none⟩ = some (.slice A11 l[i].f1.f6.length c11) ∧ l[i].f1.f6.length ≤ c11 ∧ k47.C w A11 l[i].f1.f6.length l[i].f1.f6 := by
  have e : rd_T64 l (i : Int) = l[i] := by simp [rd_T64, List.getD_eq_getElem?_getD, hi]
  have h2 := at_T64 h (i : Int) (by omega) (by omega)
  rw [e, Int.toNat_natCast] at h2
  exact h2
theorem at49 {w : World} {A : Option Addr} {l : List S49} (h : Kd.C k49 w A l.length l) (i : Nat) (hi : i < l.length) : ∃ ad A7 c7 A8 c8 A19 c19 A30 c30 A41 c41, A = some ad ∧ w.cell? (ad.add (i * 42)) = some (.int .i64 l[i].f0) ∧ w.cell? ⟨(ad.add (i * 42)).block, (ad.add (i * 42)).off + 1, none⟩ = some (.string l[i].f1) ∧ w.cell? ⟨(ad.add (i * 42)).block, (ad.add (i * 42)).off + 2, none⟩ = some (.string l[i].f2.f0) ∧ w.cell? ⟨(ad.add (i * 42)).block, (ad.add (i * 42)).off + 3, none⟩ = some (.int .i64 l[i].f2.f1) ∧ w.cell? ⟨(ad.add (i * 42)).block, (ad.add (i * 42)).off + 4, none⟩ = some (.string l[i].f3.f0) ∧ w.cell? ⟨(ad.add (i * 42)).block, (ad.add (i * 42)).off + 5, none⟩ = some (.int .i64 l[i].f3.f1) ∧ w.cell? ⟨(ad.add (i * 42)).block, (ad.add (i * 42)).off + 6, none⟩ = some (.string l[i].f4) ∧ w.cell? ⟨(ad.add (i * 42)).block, (ad.add (i * 42)).off + 7, none⟩ = some (.slice A7 l[i].f5.length c7) ∧ w.cell? ⟨(ad.add (i * 42)).block, (ad.add (i * 42)).off + 8, none⟩ = some (.slice A8 l[i].f6.length c8) ∧ w.cell? ⟨(ad.add (i * 42)).block, (ad.add (i * 42)).off + 9, none⟩ = some (.int .i64 l[i].f7.f0) ∧ w.cell? ⟨(ad.add (i * 42)).block, (ad.add (i * 42)).off + 10, none⟩ = some (.string l[i].f7.f1.f0) ∧ w.cell? ⟨(ad.add (i * 42)).block, (ad.add (i * 42)).off + 11, none⟩ = some (.int .i64 l[i].f7.f1.f1) ∧ w.cell? ⟨(ad.add (i * 42)).block, (ad.add (i * 42)).off + 12, none⟩ = some (.string l[i].f7.f2.f0) ∧ w.cell? ⟨(ad.add (i * 42)).block, (ad.add (i * 42)).off + 13, none⟩ = some (.int .i64 l[i].f7.f2.f1) ∧ w.cell? ⟨(ad.add (i * 42)).block, (ad.add (i * 42)).off + 14, none⟩ = some (.string l[i].f7.f3.f0) ∧ w.cell? ⟨(ad.add (i * 42)).block, (ad.add (i * 42)).off + 15, none⟩ = some (.int .i64 l[i].f7.f3.f1) ∧ w.cell? ⟨(ad.add (i * 42)).block, (ad.add (i * 42)).off + 16, none⟩ = some (.string l[i].f7.f4.f0) ∧ w.cell? ⟨(ad.add (i * 42)).block, (ad.add (i * 42)).off + 17, none⟩ = some (.int .i64 l[i].f7.f4.f1) ∧ w.cell? ⟨(ad.add (i * 42)).block, (ad.add (i * 42)).off + 18, none⟩ = some (.string l[i].f7.f5) ∧ w.cell? ⟨(ad.add (i * 42)).block, (ad.add (i * 42)).off + 19, none⟩ = some (.slice A19 l[i].f7.f6.length c19) ∧ w.cell? ⟨(ad.add (i * 42)).block, (ad.add (i * 42)).off + 20, none⟩ = some (.int .i64 l[i].f8.f0) ∧ w.cell? ⟨(ad.add (i * 42)).block, (ad.add (i * 42)).off + 21, none⟩ = some (.string l[i].f8.f1.f0) ∧ w.cell? ⟨(ad.add (i * 42)).block, (ad.add (i * 42)).off + 22, none⟩ = some (.int .i64 l[i].f8.f1.f1) ∧ w.cell? ⟨(ad.add (i * 42)).block, (ad.add (i * 42)).off + 23, none⟩ = some (.string l[i].f8.f2.f0) ∧ w.cell? ⟨(ad.add (i * 42)).block, (ad.add (i * 42)).off + 24, none⟩ = some (.int .i64 l[i].f8.f2.f1) ∧ w.cell? ⟨(ad.add (i * 42)).block, (ad.add (i * 42)).off + 25, none⟩ = some (.string l[i].f8.f3.f0) ∧ w.cell? ⟨(ad.add (i * 42)).block, (ad.add (i * 42)).off + 26, none⟩ = some (.int .i64 l[i].f8.f3.f1) ∧ w.cell? ⟨(ad.add (i * 42)).block, (ad.add (i * 42)).off + 27, none⟩ = some (.string l[i].f8.f4.f0) ∧ w.cell? ⟨(ad.add (i * 42)).block, (ad.add (i * 42)).off + 28, none⟩ = some (.int .i64 l[i].f8.f4.f1) ∧ w.cell? ⟨(ad.add (i * 42)).block, (ad.add (i * 42)).off + 29, none⟩ = some (.string l[i].f8.f5) ∧ w.cell? ⟨(ad.add (i * 42)).block, (ad.add (i * 42)).off + 30, none⟩ = some (.slice A30 l[i].f8.f6.length c30) ∧ w.cell? ⟨(ad.add (i * 42)).block, (ad.add (i * 42)).off + 31, none⟩ = some (.int .i64 l[i].f9.f0) ∧ w.cell? ⟨(ad.add (i * 42)).block, (ad.add (i * 42)).off + 32, none⟩ = some (.string l[i].f9.f1.f0) ∧ w.cell? ⟨(ad.add (i * 42)).block, (ad.add (i * 42)).off + 33, none⟩ = some (.int .i64 l[i].f9.f1.f1) ∧ w.cell? ⟨(ad.add (i * 42)).block, (ad.add (i * 42)).off + 34, none⟩ = some (.string l[i].f9.f2.f0) ∧ w.cell? ⟨(ad.add (i * 42)).block, (ad.add (i * 42)).off + 35, none⟩ = some (.int .i64 l[i].f9.f2.f1) ∧ w.cell? ⟨(ad.add (i * 42)).block, (ad.add (i * 42)).off + 36, none⟩ = some (.string l[i].f9.f3.f0) ∧ w.cell? ⟨(ad.add (i * 42)).block, (ad.add (i * 42)).off + 37, none⟩ = some (.int .i64 l[i].f9.f3.f1) ∧ w.cell? ⟨(ad.add (i * 42)).block, (ad.add (i * 42)).off + 38, none⟩ = some (.string l[i].f9.f4.f0) ∧ w.cell? ⟨(ad.add (i * 42)).block, (ad.add (i * 42)).off + 39, none⟩ = some (.int .i64 l[i].f9.f4.f1) ∧ w.cell? ⟨(ad.add (i * 42)).block, (ad.add (i * 42)).off + 40, none⟩ = some (.string l[i].f9.f5) ∧ w.cell? ⟨(ad.add (i * 42)).block, (ad.add (i * 42)).off + 41, none⟩ = some (.slice A41 l[i].f9.f6.length c41) ∧ l[i].f5.length ≤ c7 ∧ k42.C w A7 l[i].f5.length l[i].f5 ∧ l[i].f6.length ≤ c8 ∧ k64.C w A8 l[i].f6.length l[i].f6 ∧ l[i].f7.f6.length ≤ c19 ∧ k47.C w A19 l[i].f7.f6.length l[i].f7.f6 ∧ l[i].f8.f6.length ≤ c30 ∧ k47.C w A30 l[i].f8.f6.length l[i].f8.f6 ∧ l[i].f9.f6.length ≤ c41 ∧ k47.C w A41 l[i].f9.f6.length l[i].f9.f6 := by
  have e : rd_T49 l (i : Int) = l[i] := by simp [rd_T49, List.getD_eq_getElem?_getD, hi]
  have h2 := at_T49 h (i : Int) (by omega) (by omega)
  rw [e, Int.toNat_natCast] at h2
  exact h2
theorem at34 {w : World} {A : Option Addr} {l : List S34} (h : Kd.C k34 w A l.length l) (i : Nat) (hi : i < l.length) : ∃ ad A1 c1 A2 c2 A3 c3, A = some ad ∧ w.cell? (ad.add (i * 4)) = some (.string l[i].f0) ∧ w.cell? ⟨(ad.add (i * 4)).block, (ad.add (i * 4)).off + 1, none⟩ = some (.slice A1 l[i].f1.length c1) ∧ w.cell? ⟨(ad.add (i * 4)).block, (ad.add (i * 4)).off + 2, none⟩ = some (.slice A2 l[i].f2.length c2) ∧ w.cell? ⟨(ad.add (i * 4)).block, (ad.add (i * 4)).off + 3, none⟩ = some (.slice A3 l[i].f3.length c3) ∧ l[i].f1.length ≤ c1 ∧ Kd.string.C w A1 l[i].f1.length l[i].f1 ∧ l[i].f2.length ≤ c2 ∧ k59.C w A2 l[i].f2.length l[i].f2 ∧ l[i].f3.length ≤ c3 ∧ k49.C w A3 l[i].f3.length l[i].f3 := by
  have e : rd_T34 l (i : Int) = l[i] := by simp [rd_T34, List.getD_eq_getElem?_getD, hi]
  have h2 := at_T34 h (i : Int) (by omega) (by omega)
  rw [e, Int.toNat_natCast] at h2
  exact h2
theorem at24 {w : World} {A : Option Addr} {l : List S24} (h : Kd.C k24 w A l.length l) (i : Nat) (hi : i < l.length) : ∃ ad A0 c0, A = some ad ∧ w.cell? (ad.add i) = some (.slice A0 l[i].f0.length c0) ∧ l[i].f0.length ≤ c0 ∧ k34.C w A0 l[i].f0.length l[i].f0 := by
  have e : rd_T24 l (i : Int) = l[i] := by simp [rd_T24, List.getD_eq_getElem?_getD, hi]
  have h2 := at_T24 h (i : Int) (by omega) (by omega)
  rw [e, Int.toNat_natCast] at h2
  exact h2
theorem at67 {w : World} {A : Option Addr} {l : List S67} (h : Kd.C k67 w A l.length l) (i : Nat) (hi : i < l.length) : ∃ ad A0 c0 A2 c2 A3 c3 A4 c4, A = some ad ∧ w.cell? (ad.add (i * 5)) = some (.slice A0 l[i].f0.f0.length c0) ∧ w.cell? ⟨(ad.add (i * 5)).block, (ad.add (i * 5)).off + 1, none⟩ = some (.string l[i].f1.f0) ∧ w.cell? ⟨(ad.add (i * 5)).block, (ad.add (i * 5)).off + 2, none⟩ = some (.slice A2 l[i].f1.f1.length c2) ∧ w.cell? ⟨(ad.add (i * 5)).block, (ad.add (i * 5)).off + 3, none⟩ = some (.slice A3 l[i].f1.f2.length c3) ∧ w.cell? ⟨(ad.add (i * 5)).block, (ad.add (i * 5)).off + 4, none⟩ = some (.slice A4 l[i].f1.f3.length c4) ∧ l[i].f0.f0.length ≤ c0 ∧ k34.C w A0 l[i].f0.f0.length l[i].f0.f0 ∧ l[i].f1.f1.length ≤ c2 ∧ Kd.string.C w A2 l[i].f1.f1.length l[i].f1.f1 ∧ l[i].f1.f2.length ≤ c3 ∧ k59.C w A3 l[i].f1.f2.length l[i].f1.f2 ∧ l[i].f1.f3.length ≤ c4 ∧ k49.C w A4 l[i].f1.f3.length l[i].f1.f3 := by
  have e : rd_T67 l (i : Int) = l[i] := by simp [rd_T67, List.getD_eq_getElem?_getD, hi]
  have h2 := at_T67 h (i : Int) (by omega) (by omega)
  rw [e, Int.toNat_natCast] at h2
  exact h2
theorem at57 {w : World} {A : Option Addr} {l : List S57} (h : Kd.C k57 w A l.length l) (i : Nat) (hi : i < l.length) : ∃ ad , A = some ad ∧ w.cell? (ad.add (i * 2)) = some (.int .u8 l[i].f0) ∧ w.cell? ⟨(ad.add (i * 2)).block, (ad.add (i * 2)).off + 1, none⟩ = some (.int .u8 l[i].f1) := by
  have e : rd_T57 l (i : Int) = l[i] := by simp [rd_T57, List.getD_eq_getElem?_getD, hi]
  have h2 := at_T57 h (i : Int) (by omega) (by omega)
  rw [e, Int.toNat_natCast] at h2
  exact h2
theorem atStr {w : World} {A : Option Addr} {l : List ByteArray} (h : Kd.C Kd.string w A l.length l) (i : Nat) (hi : i < l.length) : ∃ ad, A = some ad ∧ w.cell? (ad.add i) = some (.string l[i]) := by
  obtain ⟨ad, e, hc⟩ := Kd.at_string h (i : Int) (by omega) (by omega)
  have e2 : rdOf ByteArray.empty l (i : Int) = l[i] := by simp [rdOf, List.getD_eq_getElem?_getD, hi]
  rw [e2, Int.toNat_natCast] at hc
  exact ⟨ad, e, hc⟩
theorem alloc_new (w : World) (o : Obj) : (w.alloc o).heap[w.heap.size]? = some o := (Go.MapKept.heap_alloc w o).1
theorem alloc_old (w : World) (o : Obj) (k : Nat) (h : k < w.heap.size) : (w.alloc o).heap[k]? = w.heap[k]? := (Go.MapKept.heap_alloc w o).2 k h
theorem alloc_size (w : World) (o : Obj) : (w.alloc o).heap.size = w.heap.size + 1 := by simp
/-- The first answer of a list's elements, which are counted from i on. -/
def fst {α β : Type} (g : α → Nat → Option β) : List α → Nat → Option β
  | [], _ => none
  | x :: r, i => match g x i with
    | some b => some b
    | none => fst g r (i + 1)
theorem fst_end {α β : Type} (g : α → Nat → Option β) (l : List α) (i : Nat) (h : l.length ≤ i) : fst g (l.drop i) i = none := by
  rw [List.drop_eq_nil_of_le h, fst]
theorem fst_hit {α β : Type} (g : α → Nat → Option β) (l : List α) (i : Nat) (h : i < l.length) {b : β} (hp : g l[i] i = some b) : fst g (l.drop i) i = some b := by
  rw [List.drop_eq_getElem_cons h, fst, hp]
theorem fst_miss {α β : Type} (g : α → Nat → Option β) (l : List α) (i : Nat) (h : i < l.length) (hp : g l[i] i = none) : fst g (l.drop i) i = fst g (l.drop (i + 1)) (i + 1) := by
  rw [List.drop_eq_getElem_cons h, fst, hp]
/-- Are names the same? -/
def eqS (a b : ByteArray) : Bool := a.toList == b.toList
def gName (nm : ByteArray) (x : ByteArray) (i : Nat) : Option Int := if eqS x nm = true then some (i : Int) else none
def gPort (nm : ByteArray) (p : S59) (i : Nat) : Option (Int × Int) := if eqS p.f1 nm = true then some (if p.f0 = true then 2 else 3, (i : Int)) else none
def ik (k : Int) : Int := if k = 1 then 4 else if k = 2 then 5 else if k = 5 then 6 else if k = 7 then 7 else 0
def gItem (nm : ByteArray) (x : S49) (i : Nat) : Option (Int × Int) := if eqS x.f1 nm = true ∧ 0 < ik x.f0 then some (ik x.f0, (i : Int)) else none
def gMod (nm : ByteArray) (m : S34) (i : Nat) : Option Int := if eqS m.f0 nm = true then some (i : Int) else none
theorem gName_hit {nm x : ByteArray} {i : Nat} (h : eqS x nm = true) : gName nm x i = some (i : Int) := by unfold gName; rw [if_pos h]
theorem gName_miss {nm x : ByteArray} {i : Nat} (h : eqS x nm = false) : gName nm x i = none := by unfold gName; rw [h]; rfl
theorem gMod_hit {nm : ByteArray} {x : S34} {i : Nat} (h : eqS x.f0 nm = true) : gMod nm x i = some (i : Int) := by unfold gMod; rw [if_pos h]
theorem gMod_miss {nm : ByteArray} {x : S34} {i : Nat} (h : eqS x.f0 nm = false) : gMod nm x i = none := by unfold gMod; rw [h]; rfl
theorem gPort_in {nm : ByteArray} {x : S59} {i : Nat} (h : eqS x.f1 nm = true) (h0 : x.f0 = true) : gPort nm x i = some (2, (i : Int)) := by unfold gPort; rw [if_pos h, if_pos h0]
theorem gPort_out {nm : ByteArray} {x : S59} {i : Nat} (h : eqS x.f1 nm = true) (h0 : x.f0 = false) : gPort nm x i = some (3, (i : Int)) := by unfold gPort; rw [if_pos h, h0]; rfl
theorem gPort_miss {nm : ByteArray} {x : S59} {i : Nat} (h : eqS x.f1 nm = false) : gPort nm x i = none := by unfold gPort; rw [h]; rfl
theorem gItem_miss {nm : ByteArray} {x : S49} {i : Nat} (h : eqS x.f1 nm = false) : gItem nm x i = none := by unfold gItem; rw [h]; rfl
theorem gItem_none {nm : ByteArray} {x : S49} {i : Nat} (h : ik x.f0 = 0) : gItem nm x i = none := by unfold gItem; rw [h]; simp
theorem gItem_hit {nm : ByteArray} {x : S49} {i : Nat} {k : Int} (h : eqS x.f1 nm = true) (hk : ik x.f0 = k) (h0 : 0 < k) : gItem nm x i = some (k, (i : Int)) := by unfold gItem; rw [hk, if_pos ⟨h, h0⟩]
theorem gItem_k {nm : ByteArray} {x : S49} {i : Nat} {kd n k : Int} (h : eqS x.f1 nm = true) (hkd : x.f0 = kd) (hk : (kd == n) = true) (e : (if 0 < ik n then some (ik n, (i : Int)) else none) = some (k, (i : Int))) : gItem nm x i = some (k, (i : Int)) := by
  obtain rfl : kd = n := by simpa using hk
  unfold gItem
  rw [hkd]
  by_cases h0 : 0 < ik kd
  · rw [if_pos ⟨h, h0⟩]; rw [if_pos h0] at e; exact e
  · rw [if_neg h0] at e; cases e
theorem gItem_0 {nm : ByteArray} {x : S49} {i : Nat} {kd : Int} (hkd : x.f0 = kd) (h1 : (kd == 1) = false) (h2 : (kd == 2) = false) (h5 : (kd == 5) = false) (h7 : (kd == 7) = false) : gItem nm x i = none :=
  gItem_none (by rw [hkd]; simp at h1 h2 h5 h7; simp [ik, h1, h2, h5, h7])
/-- The place of a param; -1: it is none. -/
def paramS (l : List ByteArray) (nm : ByteArray) : Int := (fst (gName nm) l 0).getD (-1)
/-- What kind of thing a name is, and where it stands. -/
def kindS (m : S34) (nm : ByteArray) : Int × Int := if 0 ≤ paramS m.f1 nm then (1, paramS m.f1 nm) else (fst (gPort nm) m.f2 0).getD ((fst (gItem nm) m.f3 0).getD (0, 0))
/-- The place of a module of a name; -1: there is none. -/
def findS (l : List S34) (nm : ByteArray) : Int := (fst (gMod nm) l 0).getD (-1)
set_option maxHeartbeats 4000000 in
theorem param_any (m : S34) (cs : List Value) (nm : ByteArray) (w : World) (h : k34.K w m cs) :
    Calls Try.prog 37 #[.agg cs.toArray, .string nm] w fun e w' => e = .returned (.int .i64 (paramS m.f1 nm)) ∧ Below w.heap.size w w' := by
  obtain ⟨A1, c1, A2, c2, A3, c3, rfl, hl1, hC1, hl2, hC2, hl3, hC3⟩ := k34_open h
  have HC1 := Aside0.mk hC1
  have HC2 := Aside0.mk hC2
  have HC3 := Aside0.mk hC3
  have hm1 : m.f1.length ≤ 9223372036854775807 := hC1.2.1
  have hm2 : m.f2.length ≤ 9223372036854775807 := hC2.2.1
  have hm3 : m.f3.length ≤ 9223372036854775807 := hC3.2.1
  obtain ⟨z, hz⟩ : ∃ z, fst (gName nm) m.f1 0 = z := ⟨_, rfl⟩
  unfold paramS
  rw [hz]
  have HZ := Aside0.mk hz
  clear hz h hC1 hC2 hC3 hl1 hl2 hl3
  go_enter Try.func37, Try.ntmps37
  go_wp2
  go_loopw [5] (fun v wr => ∃ i : Nat, v = .int .i64 (i : Int) ∧ i ≤ m.f1.length ∧ Aside0 (fst (gName nm) (m.f1.drop i) i = z) ∧ Aside0 (wr.heap[w.heap.size]? = some (.cells #[.string m.f0, .slice A1 m.f1.length c1, .slice A2 m.f2.length c2, .slice A3 m.f3.length c3] 34 (0, 0))) ∧ Aside0 (Below w.heap.size w wr)) (fun v _ => m.f1.length - (intOf v).toNat)
  case atStart => exact ⟨0, rfl, Nat.zero_le _, ⟨HZ.out⟩, ⟨alloc_new w _⟩, ⟨below_alloc (Below.refl _ _) _⟩⟩
  case round =>
    obtain ⟨i, rfl, hi, HI, HK, HB⟩ := hrel
    have hk1 : wr.cell? ⟨w.heap.size, 1, none⟩ = some (.slice A1 m.f1.length c1) := blk_cell HK.out 1
    by_cases hlt : i < m.f1.length
    · obtain ⟨ad, rfl, hx⟩ := atStr (Kd.C_below HC1.out HB.out) i hlt
      all_goals go_wp2
      all_goals first
        | (have hp : (gName nm) m.f1[i] i = some (i : Int) := by exact gName_hit (by assumption)
           have HE := (fst_hit (gName nm) m.f1 i hlt hp).symm.trans HI.out
           go_ret
           exact ⟨by rw [← HE]; rfl, HB.out⟩)
        | (have hp : (gName nm) m.f1[i] i = none := by exact gName_miss (by assumption)
           have HE := (fst_miss (gName nm) m.f1 i hlt hp).symm.trans HI.out
           go_roundw
           case rel => exact ⟨i + 1, by go_num, by omega, ⟨HE⟩, HK, HB⟩
           case measure => simp [intOf]; omega)
    · have HE := (fst_end (gName nm) m.f1 i (by omega)).symm.trans HI.out
      go_wp2
      go_ret
      exact ⟨by rw [← HE]; rfl, HB.out⟩
theorem at49a {w : World} {A : Option Addr} {l : List S49} (h : Kd.C k49 w A l.length l) (i : Nat) (hi : i < l.length) : ∃ ad, A = some ad ∧ w.cell? (ad.add (i * 42)) = some (.int .i64 l[i].f0) ∧ w.cell? ⟨(ad.add (i * 42)).block, (ad.add (i * 42)).off + 1, none⟩ = some (.string l[i].f1) := by
  obtain ⟨ad, _, _, _, _, _, _, _, _, _, _, e, h0, h1, _⟩ := at49 h i hi
  exact ⟨ad, e, h0, h1⟩
theorem keep_new {w w1 : World} {o : Obj} (hb : Below (w.alloc o).heap.size (w.alloc o) w1) : w1.heap[w.heap.size]? = some o := (hb.block _ (by rw [alloc_size]; omega)).trans (alloc_new w o)
theorem below_new {w w1 : World} {o : Obj} (hb : Below (w.alloc o).heap.size (w.alloc o) w1) : Below w.heap.size w w1 := below_step (below_alloc (Below.refl _ _) _) hb
set_option maxHeartbeats 8000000 in
theorem kind_any (m : S34) (cs : List Value) (nm : ByteArray) (w : World) (h : k34.K w m cs) :
    Calls Try.prog 17 #[.agg cs.toArray, .string nm] w fun e w' => e = .returned (.tuple #[.int .i64 (kindS m nm).1, .int .i64 (kindS m nm).2]) ∧ Below w.heap.size w w' := by
  obtain ⟨A1, c1, A2, c2, A3, c3, rfl, hl1, hC1, hl2, hC2, hl3, hC3⟩ := k34_open h
  have HC1 := Aside0.mk hC1
  have HC2 := Aside0.mk hC2
  have HC3 := Aside0.mk hC3
  have hm1 : m.f1.length ≤ 9223372036854775807 := hC1.2.1
  have hm2 : m.f2.length ≤ 9223372036854775807 := hC2.2.1
  have hm3 : m.f3.length ≤ 9223372036854775807 := hC3.2.1
  have HM := Aside0.mk h
  obtain ⟨p, hp⟩ : ∃ p, paramS m.f1 nm = p := ⟨_, rfl⟩
  have K1 := Aside0.mk (fun w' (hb : Below w.heap.size w w') => param_any m _ nm w' (k34.K_below hb h))
  rw [hp] at K1
  unfold kindS
  rw [hp]
  clear h hC1 hC2 hC3 hl1 hl2 hl3
  by_cases h0 : 0 ≤ p
  · rw [if_pos h0]
    clear hp
    go_enter Try.func17, Try.ntmps17
    go_wp2_with (go_at_call 37; refine (K1.out _ (below_alloc (Below.refl _ _) _)).mono ?_; rintro e w1 ⟨rfl, hb⟩)
    go_ret2
    exact ⟨rfl, below_new hb⟩
  · rw [if_neg h0]
    obtain ⟨z, hz⟩ : ∃ z, fst (gPort nm) m.f2 0 = z := ⟨_, rfl⟩
    obtain ⟨z2, hz2⟩ : ∃ z, fst (gItem nm) m.f3 0 = z := ⟨_, rfl⟩
    rw [hz, hz2]
    have HZ := Aside0.mk hz
    have HZ2 := Aside0.mk hz2
    clear hp hz hz2
    go_enter Try.func17, Try.ntmps17
    go_wp2_with (go_at_call 37; refine (K1.out _ (below_alloc (Below.refl _ _) _)).mono ?_; rintro e w1 ⟨rfl, hb⟩)
    have HK0 := Aside0.mk (keep_new hb)
    have HB0 := Aside0.mk (below_new hb)
    clear hb
    go_loopw [7] (fun v wr => ∃ i : Nat, v = .int .i64 (i : Int) ∧ i ≤ m.f2.length ∧ Aside0 (fst (gPort nm) (m.f2.drop i) i = z) ∧ Aside0 (wr.heap[w.heap.size]? = some (.cells #[.string m.f0, .slice A1 m.f1.length c1, .slice A2 m.f2.length c2, .slice A3 m.f3.length c3] 34 (0, 0))) ∧ Aside0 (Below w.heap.size w wr)) (fun v _ => m.f2.length - (intOf v).toNat)
    case atStart => exact ⟨0, rfl, Nat.zero_le _, ⟨HZ.out⟩, ⟨HK0.out⟩, ⟨HB0.out⟩⟩
    case round =>
      obtain ⟨i, rfl, hi, HI, HK, HB⟩ := hrel
      clear HK0 HB0
      have hk2 : wr.cell? ⟨w.heap.size, 2, none⟩ = some (.slice A2 m.f2.length c2) := blk_cell HK.out 2
      have hk3 : wr.cell? ⟨w.heap.size, 3, none⟩ = some (.slice A3 m.f3.length c3) := blk_cell HK.out 3
      by_cases hlt : i < m.f2.length
      · obtain ⟨ad, rfl, hx0, hx1, _, _⟩ := at59 (Kd.C_below HC2.out HB.out) i hlt
        cases hq : (m.f2[i].f1.toList == nm.toList) <;> cases hf : m.f2[i].f0
        all_goals go_wp2
        all_goals first
          | (have hp : (gPort nm) m.f2[i] i = some (2, (i : Int)) := by exact gPort_in hq hf
             have HE := (fst_hit (gPort nm) m.f2 i hlt hp).symm.trans HI.out
             go_ret2
             exact ⟨by rw [← HE]; rfl, HB.out⟩)
          | (have hp : (gPort nm) m.f2[i] i = some (3, (i : Int)) := by exact gPort_out hq hf
             have HE := (fst_hit (gPort nm) m.f2 i hlt hp).symm.trans HI.out
             go_ret2
             exact ⟨by rw [← HE]; rfl, HB.out⟩)
          | (have hp : (gPort nm) m.f2[i] i = none := by exact gPort_miss hq
             have HE := (fst_miss (gPort nm) m.f2 i hlt hp).symm.trans HI.out
             go_roundw
             case rel => exact ⟨i + 1, by go_num, by omega, ⟨HE⟩, HK, HB⟩
             case measure => simp [intOf]; omega)
      · have HE := (fst_end (gPort nm) m.f2 i (by omega)).symm.trans HI.out
        cases HE
        go_wp2
        have HB1 := HB
        have HK1 := HK
        clear HB HK
        go_loopw [8] (fun v wr => ∃ i : Nat, v = .int .i64 (i : Int) ∧ i ≤ m.f3.length ∧ Aside0 (fst (gItem nm) (m.f3.drop i) i = z2) ∧ Aside0 (wr.heap[w.heap.size]? = some (.cells #[.string m.f0, .slice A1 m.f1.length c1, .slice A2 m.f2.length c2, .slice A3 m.f3.length c3] 34 (0, 0))) ∧ Aside0 (Below w.heap.size w wr)) (fun v _ => m.f3.length - (intOf v).toNat)
        case atStart => exact ⟨0, rfl, Nat.zero_le _, ⟨HZ2.out⟩, ⟨HK1.out⟩, ⟨HB1.out⟩⟩
        case round =>
          obtain ⟨i, rfl, hi, HI, HK, HB⟩ := hrel
          clear hk2 hk3 HK1 HB1
          have hk3 : wr.cell? ⟨w.heap.size, 3, none⟩ = some (.slice A3 m.f3.length c3) := blk_cell HK.out 3
          by_cases hlt : i < m.f3.length
          · obtain ⟨ad, rfl, hx0, hx1⟩ := at49a (Kd.C_below HC3.out HB.out) i hlt
            obtain ⟨kd, hkd⟩ : ∃ k, m.f3[i].f0 = k := ⟨_, rfl⟩
            rw [hkd] at hx0
            cases hq : (m.f3[i].f1.toList == nm.toList)
            all_goals go_wp2
            all_goals first
              | (have hp : (gItem nm) m.f3[i] i = some (4, (i : Int)) := by exact gItem_k hq hkd (by assumption) rfl
                 have HE := (fst_hit (gItem nm) m.f3 i hlt hp).symm.trans HI.out
                 go_ret2
                 exact ⟨by rw [← HE]; rfl, HB.out⟩)
              | (have hp : (gItem nm) m.f3[i] i = some (5, (i : Int)) := by exact gItem_k hq hkd (by assumption) rfl
                 have HE := (fst_hit (gItem nm) m.f3 i hlt hp).symm.trans HI.out
                 go_ret2
                 exact ⟨by rw [← HE]; rfl, HB.out⟩)
              | (have hp : (gItem nm) m.f3[i] i = some (6, (i : Int)) := by exact gItem_k hq hkd (by assumption) rfl
                 have HE := (fst_hit (gItem nm) m.f3 i hlt hp).symm.trans HI.out
                 go_ret2
                 exact ⟨by rw [← HE]; rfl, HB.out⟩)
              | (have hp : (gItem nm) m.f3[i] i = some (7, (i : Int)) := by exact gItem_k hq hkd (by assumption) rfl
                 have HE := (fst_hit (gItem nm) m.f3 i hlt hp).symm.trans HI.out
                 go_ret2
                 exact ⟨by rw [← HE]; rfl, HB.out⟩)
              | (have hp : (gItem nm) m.f3[i] i = none := by first | exact gItem_miss hq | exact gItem_0 hkd (by assumption) (by assumption) (by assumption) (by assumption)
                 have HE := (fst_miss (gItem nm) m.f3 i hlt hp).symm.trans HI.out
                 go_roundw
                 case rel => exact ⟨i + 1, by go_num, by omega, ⟨HE⟩, HK, HB⟩
                 case measure => simp [intOf]; omega)
          · have HE := (fst_end (gItem nm) m.f3 i (by omega)).symm.trans HI.out
            go_wp2
            go_ret2
            exact ⟨by rw [← HE]; rfl, HB.out⟩
set_option maxHeartbeats 4000000 in
theorem find_any (A0 : Option Addr) (c0 : Nat) (l : List S34) (nm : ByteArray) (w : World) (h : Kd.C k34 w A0 l.length l) :
    Calls Try.prog 20 #[.agg #[.slice A0 l.length c0], .string nm] w fun e w' => e = .returned (.int .i64 (findS l nm)) ∧ Below w.heap.size w w' := by
  have HC := Aside0.mk h
  have hm : l.length ≤ 9223372036854775807 := h.2.1
  obtain ⟨z, hz⟩ : ∃ z, fst (gMod nm) l 0 = z := ⟨_, rfl⟩
  unfold findS
  rw [hz]
  have HZ := Aside0.mk hz
  clear hz h
  go_enter Try.func20, Try.ntmps20
  go_wp2
  go_loopw [5] (fun v wr => ∃ i : Nat, v = .int .i64 (i : Int) ∧ i ≤ l.length ∧ Aside0 (fst (gMod nm) (l.drop i) i = z) ∧ Aside0 (wr.heap[w.heap.size]? = some (.cells #[.slice A0 l.length c0] 24 (0, 0))) ∧ Aside0 (Below w.heap.size w wr)) (fun v _ => l.length - (intOf v).toNat)
  case atStart => exact ⟨0, rfl, Nat.zero_le _, ⟨HZ.out⟩, ⟨alloc_new w _⟩, ⟨below_alloc (Below.refl _ _) _⟩⟩
  case round =>
    obtain ⟨i, rfl, hi, HI, HK, HB⟩ := hrel
    have hk0 : wr.cell? ⟨w.heap.size, 0, none⟩ = some (.slice A0 l.length c0) := blk_cell HK.out 0
    by_cases hlt : i < l.length
    · obtain ⟨ad, _, _, _, _, _, _, rfl, hx, _⟩ := at34 (Kd.C_below HC.out HB.out) i hlt
      all_goals go_wp2
      all_goals first
        | (have hp : (gMod nm) l[i] i = some (i : Int) := by exact gMod_hit (by assumption)
           have HE := (fst_hit (gMod nm) l i hlt hp).symm.trans HI.out
           go_ret
           exact ⟨by rw [← HE]; rfl, HB.out⟩)
        | (have hp : (gMod nm) l[i] i = none := by exact gMod_miss (by assumption)
           have HE := (fst_miss (gMod nm) l i hlt hp).symm.trans HI.out
           go_roundw
           case rel => exact ⟨i + 1, by go_num, by omega, ⟨HE⟩, HK, HB⟩
           case measure => simp [intOf]; omega)
    · have HE := (fst_end (gMod nm) l i (by omega)).symm.trans HI.out
      go_wp2
      go_ret
      exact ⟨by rw [← HE]; rfl, HB.out⟩
/-- The place of a name's first dot, counted from i on; -1: it has none. -/
def gDot (x : UInt8) (i : Nat) : Option Int := if x = 46 then some (i : Int) else none
def dotS (s : ByteArray) : Int := (fst gDot s.data.toList 0).getD (-1)
theorem gDot_hit {x : UInt8} {i : Nat} (h : ((x.toNat : Int) == 46) = true) : gDot x i = some (i : Int) := by
  have h1 : x.toNat = 46 := by simp at h; omega
  have h2 : x = 46 := UInt8.toNat_inj.1 (by rw [h1]; rfl)
  unfold gDot; rw [if_pos h2]
theorem gDot_miss {x : UInt8} {i : Nat} (h : ((x.toNat : Int) == 46) = false) : gDot x i = none := by
  unfold gDot; rw [if_neg]; intro e; subst e; simp at h
set_option maxHeartbeats 4000000 in
theorem dot_any (s : ByteArray) (w : World) (hs : s.size ≤ 9223372036854775807) :
    Calls Try.prog 68 #[.string s] w fun e w' => e = .returned (.int .i64 (dotS s)) ∧ w' = w := by
  obtain ⟨z, hz⟩ : ∃ z, fst gDot s.data.toList 0 = z := ⟨_, rfl⟩
  unfold dotS
  rw [hz]
  have HZ := Aside0.mk hz
  clear hz
  have hl : s.data.toList.length = s.size := data_length s
  go_enter Try.func68, Try.ntmps68
  go_wp2
  go_loopw [3] (fun v wr => ∃ i : Nat, v = .int .i64 (i : Int) ∧ i ≤ s.size ∧ Aside0 (fst gDot (s.data.toList.drop i) i = z) ∧ Aside0 (wr = w)) (fun v _ => s.size - (intOf v).toNat)
  case atStart => exact ⟨0, rfl, Nat.zero_le _, ⟨HZ.out⟩, ⟨rfl⟩⟩
  case round =>
    obtain ⟨i, rfl, hi, HI, HW⟩ := hrel
    by_cases hlt : i < s.size
    · have hlt2 : i < s.data.toList.length := by omega
      go_wp2
      · have hq : gDot s.data.toList[i] i = some (i : Int) := gDot_hit (by assumption)
        have HE := (fst_hit gDot s.data.toList i hlt2 hq).symm.trans HI.out
        go_ret
        exact ⟨by rw [← HE]; rfl, HW.out⟩
      · have hq : gDot s.data.toList[i] i = none := gDot_miss (by assumption)
        have HE := (fst_miss gDot s.data.toList i hlt2 hq).symm.trans HI.out
        go_roundw
        case rel => exact ⟨i + 1, by go_num, by omega, ⟨HE⟩, HW⟩
        case measure => simp [intOf]; omega
    · have HE := (fst_end gDot s.data.toList i (by omega)).symm.trans HI.out
      go_wp2
      go_ret
      exact ⟨by rw [← HE]; rfl, HW.out⟩
theorem ret_int {k : IntKind} {a b : Int} (h : a = b) : Ending.returned (.int k a) = Ending.returned (.int k b) := by rw [h]
theorem ret_bool {a b : Bool} (h : a = b) : Ending.returned (.bool a) = Ending.returned (.bool b) := by rw [h]
/-- How many kids an expression takes; -1: there is no such one. -/
def takesS (op : Int) : Int := if op < 1 ∨ op > 20 then -1 else if op = 1 ∨ op = 2 then 0 else if op = 3 ∨ op = 4 ∨ op = 5 ∨ op ≥ 18 then 1 else if op = 16 then 3 else 2
set_option maxHeartbeats 4000000 in
theorem takes_any (op : Int) (w : World) : Calls Try.prog 61 #[.int .i64 op] w fun e w' => e = .returned (.int .i64 (takesS op)) ∧ w' = w := by
  go_enter Try.func61, Try.ntmps61
  go_wp2
  all_goals (go_ret; refine ⟨ret_int ?_, rfl⟩; (try simp only [beq_iff_eq, beq_eq_false_iff_ne, ne_eq] at *); unfold takesS; (repeat' split) <;> omega)
/-- Has an item of a kind a name? -/
def namedS (k : Int) : Bool := decide (k = 1 ∨ k = 2 ∨ k = 5 ∨ (k ≥ 7 ∧ k ≤ 10))
set_option maxHeartbeats 4000000 in
theorem named_any (k : Int) (w : World) : Calls Try.prog 23 #[.int .i64 k] w fun e w' => e = .returned (.bool (namedS k)) ∧ w' = w := by
  go_enter Try.func23, Try.ntmps23
  go_wp2
  all_goals (go_ret; refine ⟨ret_bool ?_, rfl⟩; unfold namedS; rw [Bool.eq_iff_iff]; simp; omega)
/-- Has a number a name that is no param's? -/
def freeS (l : List ByteArray) (x : S42) : Bool := !(x.f0.toList == []) && decide (paramS l x.f0 < 0)
set_option maxHeartbeats 4000000 in
theorem free_any (m : S34) (cs : List Value) (x : S42) (w : World) (h : k34.K w m cs) :
    Calls Try.prog 48 #[.agg cs.toArray, .agg #[.string x.f0, .int .i64 x.f1]] w fun e w' => e = .returned (.bool (freeS m.f1 x)) ∧ Below w.heap.size w w' := by
  obtain ⟨A1, c1, A2, c2, A3, c3, rfl, hl1, hC1, hl2, hC2, hl3, hC3⟩ := k34_open h
  have K1 := Aside0.mk (fun w' (hb : Below w.heap.size w w') => param_any m _ x.f0 w' (k34.K_below hb h))
  obtain ⟨p, hp⟩ : ∃ p, paramS m.f1 x.f0 = p := ⟨_, rfl⟩
  rw [hp] at K1
  unfold freeS
  rw [hp]
  clear hp h hl1 hC1 hl2 hC2 hl3 hC3
  obtain ⟨nm, hnm⟩ : ∃ nm, x.f0 = nm := ⟨_, rfl⟩
  rw [hnm] at K1 ⊢
  cases hq : (nm.toList == [])
  · have hq2 : nm.toList.isEmpty = false := by simpa using hq
    go_enter Try.func48, Try.ntmps48
    go_wp2_with (go_at_call 37; refine (K1.out _ (below_alloc (below_alloc (Below.refl _ _) _) _)).mono ?_; rintro e w1 ⟨rfl, hb⟩)
    go_ret
    exact ⟨by simp, below_step (below_alloc (below_alloc (Below.refl _ _) _) _) hb⟩
  · have hq2 : nm.toList.isEmpty = true := by simpa using hq
    have hq3 : nm.toList = [] := by simpa using hq
    go_enter Try.func48, Try.ntmps48
    go_wp2
    go_ret
    exact ⟨by simp, below_alloc (below_alloc (Below.refl _ _) _) _⟩
/-- Is a name one of a kind, or of two others? What is wrong, if not. -/
def amongS (k a b c : Int) : Int := if k = 0 then 51 else if k ≠ a ∧ k ≠ b ∧ k ≠ c then 52 else 0
set_option maxHeartbeats 4000000 in
theorem among_any (m : S34) (cs : List Value) (nm : ByteArray) (a b c : Int) (w : World) (h : k34.K w m cs) :
    Calls Try.prog 59 #[.agg cs.toArray, .string nm, .int .i64 a, .int .i64 b, .int .i64 c] w fun e w' => e = .returned (.int .i64 (amongS (kindS m nm).1 a b c)) ∧ Below w.heap.size w w' := by
  obtain ⟨A1, c1, A2, c2, A3, c3, rfl, hl1, hC1, hl2, hC2, hl3, hC3⟩ := k34_open h
  have K1 := Aside0.mk (fun w' (hb : Below w.heap.size w w') => kind_any m _ nm w' (k34.K_below hb h))
  obtain ⟨p, hp⟩ : ∃ p, kindS m nm = p := ⟨_, rfl⟩
  rw [hp] at K1
  rw [hp]
  clear hp h hl1 hC1 hl2 hC2 hl3 hC3
  obtain ⟨k, i⟩ := p
  go_enter Try.func59, Try.ntmps59
  go_wp2_with (go_at_call 17; refine (K1.out _ (below_alloc (Below.refl _ _) _)).mono ?_; rintro e w1 ⟨rfl, hb⟩)
  all_goals (go_ret; refine ⟨ret_int ?_, below_new hb⟩; (try simp only [beq_iff_eq, beq_eq_false_iff_ne, ne_eq, bne_iff_ne, bne_eq_false_iff_eq] at *); unfold amongS; (repeat' split) <;> omega)
theorem bcell {W w1 : World} (hb : Below W.heap.size W w1) : (∀ p : Addr, p.block < W.heap.size → w1.cell? p = W.cell? p) ∧ (∀ p : Addr, p.block < W.heap.size → w1.frozen? p = W.frozen? p) :=
  ⟨fun p h => hb.cell h, fun p h => hb.frozen h⟩
theorem fst_range {α : Type} {g : α → Nat → Option Int} (hg : ∀ x i b, g x i = some b → b = (i : Int)) : ∀ (l : List α) (i : Nat) (b : Int), fst g l i = some b → (i : Int) ≤ b ∧ b < i + l.length
  | [], _, _, h => by cases h
  | x :: r, i, b, h => by
    rw [fst] at h
    cases hq : g x i with
    | some c =>
      rw [hq] at h
      have := hg x i c hq
      obtain rfl := Option.some.inj h
      simp only [List.length_cons]; omega
    | none =>
      rw [hq] at h
      have := fst_range hg r (i + 1) b h
      simp only [List.length_cons]; omega
theorem find_range (l : List S34) (nm : ByteArray) : -1 ≤ findS l nm ∧ findS l nm < l.length := by
  unfold findS
  cases h : fst (gMod nm) l 0 with
  | none => simp; omega
  | some b =>
    have := fst_range (g := gMod nm) (fun x i b h => by unfold gMod at h; split at h <;> simp_all) l 0 b h
    simp; omega
theorem dot_range (s : ByteArray) : -1 ≤ dotS s ∧ dotS s < s.size := by
  unfold dotS
  have hl : s.data.toList.length = s.size := data_length s
  cases h : fst gDot s.data.toList 0 with
  | none => simp; omega
  | some b =>
    have := fst_range (g := gDot) (fun x i b h => by unfold gDot at h; split at h <;> simp_all) s.data.toList 0 b h
    simp; omega
theorem fst_range2 {α : Type} {g : α → Nat → Option (Int × Int)} (hg : ∀ x i b, g x i = some b → b.2 = (i : Int)) : ∀ (l : List α) (i : Nat) (b : Int × Int), fst g l i = some b → (i : Int) ≤ b.2 ∧ b.2 < i + l.length
  | [], _, _, h => by cases h
  | x :: r, i, b, h => by
    rw [fst] at h
    cases hq : g x i with
    | some c =>
      rw [hq] at h
      have := hg x i c hq
      obtain rfl := Option.some.inj h
      simp only [List.length_cons]; omega
    | none =>
      rw [hq] at h
      have := fst_range2 hg r (i + 1) b h
      simp only [List.length_cons]; omega
theorem fst_some {α β : Type} {g : α → Nat → Option β} : ∀ (l : List α) (i : Nat) (b : β), fst g l i = some b → ∃ x ∈ l, ∃ j, g x j = some b
  | [], _, _, h => by cases h
  | x :: r, i, b, h => by
    rw [fst] at h
    cases hq : g x i with
    | some c => rw [hq] at h; obtain rfl := Option.some.inj h; exact ⟨x, by simp, i, hq⟩
    | none => rw [hq] at h; obtain ⟨y, hy, j, hj⟩ := fst_some r (i + 1) b h; exact ⟨y, by simp [hy], j, hj⟩
theorem kind_item {m : S34} {nm : ByteArray} (h : 4 ≤ (kindS m nm).1) : 0 ≤ (kindS m nm).2 ∧ (kindS m nm).2 < m.f3.length := by
  unfold kindS at h ⊢
  split at h
  · simp at h
  · rename_i h0
    rw [if_neg h0]
    cases hp : fst (gPort nm) m.f2 0 with
    | some b =>
      rw [hp] at h
      obtain ⟨x, _, j, hj⟩ := fst_some _ _ _ hp
      unfold gPort at hj
      split at hj
      · obtain rfl := Option.some.inj hj
        simp at h; split at h <;> omega
      · cases hj
    | none =>
      rw [hp] at h
      cases hq : fst (gItem nm) m.f3 0 with
      | none => rw [hq] at h; simp at h
      | some b =>
        have := fst_range2 (g := gItem nm) (fun x i b h => by unfold gItem at h; split at h <;> simp_all; rw [← h]) m.f3 0 b hq
        simp; omega
theorem at49m {w : World} {A : Option Addr} {l : List S49} (h : Kd.C k49 w A l.length l) (i : Nat) (hi : i < l.length) : ∃ ad, A = some ad ∧ w.cell? ⟨(ad.add (i * 42)).block, (ad.add (i * 42)).off + 6, none⟩ = some (.string l[i].f4) := by
  obtain ⟨ad, _, _, _, _, _, _, _, _, _, _, e, _, _, _, _, _, _, h6, _⟩ := at49 h i hi
  exact ⟨ad, e, h6⟩
/-- What is wrong with a name that is referred to. -/
def refS (l : List S34) (m : S34) (nm : ByteArray) : Int :=
  if dotS nm < 0 then amongS (kindS m nm).1 2 4 5 else
  if (kindS m (nm.extract 0 (dotS nm).toNat)).1 ≠ 7 then 51 else
  if findS l ((m.f3.getD (kindS m (nm.extract 0 (dotS nm).toNat)).2.toNat z49).f4) < 0 then 51 else
  if (kindS (l.getD (findS l ((m.f3.getD (kindS m (nm.extract 0 (dotS nm).toNat)).2.toNat z49).f4)).toNat z34) (nm.extract ((dotS nm).toNat + 1) nm.size)).1 ≠ 3 then 51 else 0
set_option maxHeartbeats 8000000 in
theorem ref_any (A0 : Option Addr) (c0 : Nat) (l : List S34) (m : S34) (cs : List Value) (nm : ByteArray) (w : World) (h0 : Kd.C k34 w A0 l.length l) (h : k34.K w m cs) (hs : nm.size ≤ 9223372036854775807) :
    Calls Try.prog 62 #[.agg #[.slice A0 l.length c0], .agg cs.toArray, .string nm] w fun e w' => e = .returned (.int .i64 (refS l m nm)) ∧ Below w.heap.size w w' := by
  have HC := Aside0.mk h0
  have KA := Aside0.mk (fun w' cs' (hb : k34.K w' m cs') => among_any m cs' nm 2 4 5 w' hb)
  have HM := Aside0.mk h
  obtain ⟨A1, c1, A2, c2, A3, c3, rfl, hl1, hC1, hl2, hC2, hl3, hC3⟩ := k34_open h
  have HC3 := Aside0.mk hC3
  have KD := Aside0.mk (fun w' => dot_any nm w' hs)
  have hdr := dot_range nm
  unfold refS
  obtain ⟨d, hd⟩ : ∃ d, dotS nm = d := ⟨_, rfl⟩
  rw [hd] at KD hdr ⊢
  clear hd
  by_cases hd0 : d < 0
  · rw [if_pos hd0]
    obtain ⟨z, hz⟩ : ∃ z, amongS (kindS m nm).1 2 4 5 = z := ⟨_, rfl⟩
    rw [hz] at KA ⊢
    clear hz h0 h hl1 hC1 hl2 hC2 hl3 hC3 hs
    go_enter Try.func62, Try.ntmps62
    go_wp2_with (first
      | (go_at_call 68; refine (KD.out _).mono ?_; rintro e w1 ⟨rfl, rfl⟩)
      | (go_at_call 59; refine (KA.out _ _ (k34.K_below (below_alloc (below_alloc (Below.refl _ _) _) _) HM.out)).mono ?_; rintro e w1 ⟨rfl, hb⟩))
    go_ret
    exact ⟨rfl, below_step (below_alloc (below_alloc (Below.refl _ _) _) _) hb⟩
  · rw [if_neg hd0]
    obtain ⟨a, rfl⟩ : ∃ a : Nat, d = (a : Int) := ⟨d.toNat, by omega⟩
    rw [Int.toNat_natCast]
    have ha : a < nm.size := by omega
    clear hd0 hdr
    obtain ⟨u, hu⟩ : ∃ u, nm.extract 0 a = u := ⟨_, rfl⟩
    have HU := Aside0.mk hu
    rw [hu]
    have K1 := Aside0.mk (fun w' cs' (hb : k34.K w' m cs') => kind_any m cs' u w' hb)
    have hki := kind_item (m := m) (nm := u)
    obtain ⟨k, hk⟩ : ∃ k, kindS m u = k := ⟨_, rfl⟩
    rw [hk] at K1 hki ⊢
    obtain ⟨k, i⟩ := k
    simp only at K1 hki ⊢
    clear hk hu h0 h hl1 hC1 hl2 hC2 hl3 hC3
    have ha0 : (0 : Int) ≤ (a : Int) := by omega
    have ha1 : (a : Int) ≤ (nm.size : Int) := by omega
    by_cases h7 : k = 7
    · subst h7
      obtain ⟨hi0, hi1⟩ := hki (by omega)
      obtain ⟨i, rfl⟩ : ∃ n : Nat, i = (n : Int) := ⟨i.toNat, by omega⟩
      have hlt : i < m.f3.length := by omega
      rw [if_neg (by decide), Int.toNat_natCast]
      have hgd : m.f3.getD i z49 = m.f3[i] := by simp [List.getD_eq_getElem?_getD, hlt]
      rw [hgd]
      obtain ⟨mo, hmo⟩ : ∃ x, m.f3[i].f4 = x := ⟨_, rfl⟩
      have HMO := Aside0.mk hmo
      rw [hmo]
      have K2 := Aside0.mk (fun w' (hb : Kd.C k34 w' A0 l.length l) => find_any A0 c0 l mo w' hb)
      have hfr := find_range l mo
      obtain ⟨n, hn⟩ : ∃ n, findS l mo = n := ⟨_, rfl⟩
      rw [hn] at K2 hfr ⊢
      clear hn hi0 hki hgd hmo
      by_cases hn0 : n < 0
      · rw [if_pos hn0]
        go_enter Try.func62, Try.ntmps62
        go_wp2_with (go_at_call 68; refine (KD.out _).mono ?_; rintro e w1 ⟨rfl, rfl⟩)
        go_region_held3 (fun w' => w'.cell? ⟨w.heap.size + 1, 0, none⟩ = some (.string m.f0) ∧ w'.cell? ⟨w.heap.size + 1, 1, none⟩ = some (.slice A1 m.f1.length c1) ∧ w'.cell? ⟨w.heap.size + 1, 2, none⟩ = some (.slice A2 m.f2.length c2) ∧ w'.cell? ⟨w.heap.size + 1, 3, none⟩ = some (.slice A3 m.f3.length c3))
          (go_keep)
          (first | (go_at_call 17; rw [HU.out]; refine (K1.out _ _ (k34.K_below (below_drew (below_alloc (below_alloc (Below.refl _ _) _) _)) HM.out)).mono ?_; rintro e w1 ⟨rfl, hb⟩; obtain ⟨hc, hf⟩ := bcell hb))
        have HB := Aside0.mk (below_step (below_drew (below_alloc (below_alloc (Below.refl _ _) _) _)) hb)
        have hw0 : w1.cell? ⟨w.heap.size, 0, none⟩ = some (.slice A0 l.length c0) := by go_simp
        have hw3 : w1.cell? ⟨w.heap.size + 1, 3, none⟩ = some (.slice A3 m.f3.length c3) := by go_simp
        have hz : w.heap.size + 1 < w1.heap.size := by have := hb.size; simp at this; omega
        have hz0 : w.heap.size < w1.heap.size := by omega
        clear hc hf hb
        obtain ⟨ad, rfl, hx⟩ := at49m (Kd.C_below HC3.out HB.out) i hlt
        rw [HMO.out] at hx
        have hbk : (ad.add (i * 42)).block < w1.heap.size := by have h9 := World.block_lt_of_cell? w1 _ hx; exact h9
        go_wp2
        go_region_held3 (fun w' => w'.cell? ⟨w.heap.size, 0, none⟩ = some (.slice A0 l.length c0) ∧ w'.cell? ⟨w.heap.size + 1, 3, none⟩ = some (.slice (some ad) m.f3.length c3) ∧ w'.cell? ⟨(ad.add (i * 42)).block, (ad.add (i * 42)).off + 6, none⟩ = some (.string mo))
          (go_keep)
          (first | (go_at_call 20; refine (K2.out _ (Kd.C_below HC.out (below_drew HB.out))).mono ?_; rintro e w2 ⟨rfl, hb⟩; obtain ⟨hc, hf⟩ := bcell (below_step (below_drew (Below.refl w1.heap.size w1)) hb)))
        clear hc hf
        go_wp2
        go_ret
        exact ⟨rfl, below_step (below_drew HB.out) hb⟩
      · rw [if_neg hn0]
        obtain ⟨n, rfl⟩ : ∃ b : Nat, n = (b : Int) := ⟨n.toNat, by omega⟩
        have hnl : n < l.length := by omega
        rw [Int.toNat_natCast]
        have hgd : l.getD n z34 = l[n] := by simp [List.getD_eq_getElem?_getD, hnl]
        rw [hgd]
        have hwr : IntKind.i64.wrap ((a : Int) + 1) = (a : Int) + 1 := Go.IntWalk.i64_in _ (by omega)
        have hw1 : (0 : Int) ≤ (a : Int) + 1 := by omega
        have hw2 : (a : Int) + 1 ≤ (nm.size : Int) := by omega
        have hw4 : ((a : Int) + 1).toNat = a + 1 := by omega
        have hnn : (0 : Int) ≤ (n : Int) := by omega
        have hnl2 : (n : Int) < (l.length : Int) := by omega
        obtain ⟨p, hp⟩ : ∃ p, nm.extract (a + 1) nm.size = p := ⟨_, rfl⟩
        have HP := Aside0.mk hp
        rw [hp]
        obtain ⟨q, hq⟩ : ∃ q, kindS l[n] p = q := ⟨_, rfl⟩
        have K3 := Aside0.mk (fun w' cs' (hb : k34.K w' l[n] cs') => kind_any l[n] cs' p w' hb)
        rw [hq] at K3 ⊢
        obtain ⟨q, j⟩ := q
        simp only at K3 ⊢
        clear hgd hp hq hn0 hfr
        go_enter Try.func62, Try.ntmps62
        go_wp2_with (go_at_call 68; refine (KD.out _).mono ?_; rintro e w1 ⟨rfl, rfl⟩)
        go_region_held3 (fun w' => w'.cell? ⟨w.heap.size + 1, 0, none⟩ = some (.string m.f0) ∧ w'.cell? ⟨w.heap.size + 1, 1, none⟩ = some (.slice A1 m.f1.length c1) ∧ w'.cell? ⟨w.heap.size + 1, 2, none⟩ = some (.slice A2 m.f2.length c2) ∧ w'.cell? ⟨w.heap.size + 1, 3, none⟩ = some (.slice A3 m.f3.length c3))
          (go_keep)
          (first | (go_at_call 17; rw [HU.out]; refine (K1.out _ _ (k34.K_below (below_drew (below_alloc (below_alloc (Below.refl _ _) _) _)) HM.out)).mono ?_; rintro e w1 ⟨rfl, hb⟩; obtain ⟨hc, hf⟩ := bcell hb))
        have HB := Aside0.mk (below_step (below_drew (below_alloc (below_alloc (Below.refl _ _) _) _)) hb)
        have hw0 : w1.cell? ⟨w.heap.size, 0, none⟩ = some (.slice A0 l.length c0) := by go_simp
        have hw3 : w1.cell? ⟨w.heap.size + 1, 3, none⟩ = some (.slice A3 m.f3.length c3) := by go_simp
        have hz : w.heap.size + 1 < w1.heap.size := by have := hb.size; simp at this; omega
        have hz0 : w.heap.size < w1.heap.size := by omega
        clear hc hf hb
        obtain ⟨ad, rfl, hx⟩ := at49m (Kd.C_below HC3.out HB.out) i hlt
        rw [HMO.out] at hx
        have hbk : (ad.add (i * 42)).block < w1.heap.size := by have h9 := World.block_lt_of_cell? w1 _ hx; exact h9
        go_wp2
        go_region_held3 (fun w' => w'.cell? ⟨w.heap.size, 0, none⟩ = some (.slice A0 l.length c0) ∧ w'.cell? ⟨w.heap.size + 1, 3, none⟩ = some (.slice (some ad) m.f3.length c3) ∧ w'.cell? ⟨(ad.add (i * 42)).block, (ad.add (i * 42)).off + 6, none⟩ = some (.string mo))
          (go_keep)
          (first | (go_at_call 20; refine (K2.out _ (Kd.C_below HC.out (below_drew HB.out))).mono ?_; rintro e w2 ⟨rfl, hb⟩; obtain ⟨hc, hf⟩ := bcell (below_step (below_drew (Below.refl w1.heap.size w1)) hb)))
        clear hc hf
        have hy0 : w2.cell? ⟨w.heap.size, 0, none⟩ = some (.slice A0 l.length c0) := (hb.cell (p := ⟨w.heap.size, 0, none⟩) (by simp; omega)).trans hw0
        have HB2 := Aside0.mk (below_step (below_drew HB.out) hb)
        have hz2 : w.heap.size < w2.heap.size := by have := hb.size; simp at this; omega
        clear hb hw0 hw3 hbk hx hz hz0
        obtain ⟨ad2, B1, d1, B2, d2, B3, d3, rfl, hy1, hy2, hy3, hy4, hl1, hC1, hl2, hC2, hl3, hC3⟩ := at34 (Kd.C_below HC.out HB2.out) n hnl
        have HK := Aside0.mk (k34_mk w2 l[n] hl1 hC1 hl2 hC2 hl3 hC3)
        have hbk : (ad2.add (n * 4)).block < w2.heap.size := World.block_lt_of_cell? w2 _ hy1
        clear hl1 hC1 hl2 hC2 hl3 hC3
        go_wp2
        go_region_held3 (fun w' => w'.cell? ⟨w.heap.size, 0, none⟩ = some (.slice (some ad2) l.length c0) ∧ w'.cell? (ad2.add (n * 4)) = some (.string l[n].f0) ∧ w'.cell? ⟨(ad2.add (n * 4)).block, (ad2.add (n * 4)).off + 1, none⟩ = some (.slice B1 l[n].f1.length d1) ∧ w'.cell? ⟨(ad2.add (n * 4)).block, (ad2.add (n * 4)).off + 2, none⟩ = some (.slice B2 l[n].f2.length d2) ∧ w'.cell? ⟨(ad2.add (n * 4)).block, (ad2.add (n * 4)).off + 3, none⟩ = some (.slice B3 l[n].f3.length d3))
          (go_keep)
          (first | (go_at_call 17; rw [HP.out]; refine (K3.out _ _ (k34.K_below (below_drew (Below.refl _ _)) HK.out)).mono ?_; rintro e w3 ⟨rfl, hb⟩; obtain ⟨hc, hf⟩ := bcell (below_step (below_drew (Below.refl w2.heap.size w2)) hb)))
        clear hc hf
        go_wp2
        all_goals (go_ret; refine ⟨ret_int ?_, below_step (below_drew HB2.out) hb⟩; (try simp only [bne_iff_ne, bne_eq_false_iff_eq, ne_eq] at *); try ((repeat' split) <;> omega))
    · rw [if_pos h7]
      go_enter Try.func62, Try.ntmps62
      go_wp2_with (first
        | (go_at_call 68; refine (KD.out _).mono ?_; rintro e w1 ⟨rfl, rfl⟩))
      go_region_held3 (fun w' => w'.cell? ⟨w.heap.size + 1, 0, none⟩ = some (.string m.f0) ∧ w'.cell? ⟨w.heap.size + 1, 1, none⟩ = some (.slice A1 m.f1.length c1) ∧ w'.cell? ⟨w.heap.size + 1, 2, none⟩ = some (.slice A2 m.f2.length c2) ∧ w'.cell? ⟨w.heap.size + 1, 3, none⟩ = some (.slice A3 m.f3.length c3))
        (go_keep)
        (first | (go_at_call 17; rw [HU.out]; refine (K1.out _ _ (k34.K_below (below_drew (below_alloc (below_alloc (Below.refl _ _) _) _)) HM.out)).mono ?_; rintro e w1 ⟨rfl, hb⟩; obtain ⟨hc, hf⟩ := bcell hb))
      go_wp2
      go_ret
      exact ⟨rfl, below_step (below_drew (below_alloc (below_alloc (Below.refl _ _) _) _)) hb⟩
end Go.Proofs.Ytnfhlhjbmcofoaa.S
