/- The kinds of this seat's types, as the kit's printer tells them (written by hyb.py, a program of this session). Lean checks it. -/
import Derived.Test.YtnfhlhjbmcofoaaProg
import Derived.Below
import Derived.Deep.Draws
import Derived.Deep.AppendLies
import Derived.Maps.AppendAt
import Derived.OwnWalk
import Derived.Laws.BytesArg
import Derived.Laws.MakeOwn
import Derived.Laws.OwnMore
import Derived.Deep.OwnRows
import Derived.Tactics
import Derived.Lib.ConvBytes
import Derived.Laws.Slices
import Derived.WalkKit
import Derived.KernelRfl
import Derived.RowKit3
import Derived.Deep.LoopGhost
import Derived.Deep.QuietTactic
import Derived.BigQuiet
import Derived.WideLaws
import Derived.Deep.DeepCutAuto
import Derived.Deep.CutBlock
import Derived.Deep.RegionHeld3
import Derived.Laws.Rows
import Derived.Lib.AppendStr
import Derived.ArgAppend
import Derived.Laws.IdiomCopy
import Derived.OrdersHeld
import Derived.Laws.BitsLemmas
import Derived.RowKit
import Derived.Test.YtnfhlhjbmcofoaaWWords
import Derived.Test.YtnfhlhjbmcofoaaWLast
import Derived.Test.YtnfhlhjbmcofoaaWApart
import Derived.Test.YtnfhlhjbmcofoaaWArr
import Derived.Test.YtnfhlhjbmcofoaaWFoot
import Derived.Test.YtnfhlhjbmcofoaaWKept
import Derived.Test.YtnfhlhjbmcofoaaWShare
import Derived.Test.YtnfhlhjbmcofoaaWRepsOne
namespace Go.Proofs.Ytnfhlhjbmcofoaa.S
open Go.RowKit Go.Proofs.YtnfhlhjbmcofoaaW.PrintWords Go.Proofs.YtnfhlhjbmcofoaaW.PrintLast
set_option linter.unusedVariables false
set_option linter.unusedSimpArgs false

noncomputable section


def errW : Option Int → Value
  | none => .nilIface
  | some c => .iface 0 (.int .i64 c)
theorem errW_none : errW none = .nilIface := rfl
theorem errW_some (c : Int) : errW (some c) = .iface 0 (.int .i64 c) := rfl

theorem info3 : (Try.prog.info? 3).map (fun i => (i.zero, i.size, i.bytes)) = some (some (.int .i64 0), 1, 8) := by kernel_rfl
theorem info9 : (Try.prog.info? 9).map (fun i => (i.zero, i.size, i.bytes)) = some (some (.string ⟨#[]⟩), 1, 16) := by kernel_rfl
theorem info34 : (Try.prog.info? 34).map (fun i => (i.zero, i.size, i.bytes)) = some (some (.agg #[(.string ⟨#[]⟩), (.slice none 0 0), (.slice none 0 0), (.slice none 0 0)]), 4, 88) := by kernel_rfl
theorem info40 : (Try.prog.info? 40).map (fun i => (i.zero, i.size, i.bytes)) = some (some (.agg #[(.int .i64 0), (.int .i64 0), (.int .i64 0), (.int .i64 0)]), 4, 32) := by kernel_rfl
theorem info42 : (Try.prog.info? 42).map (fun i => (i.zero, i.size, i.bytes)) = some (some (.agg #[(.string ⟨#[]⟩), (.int .i64 0)]), 2, 24) := by kernel_rfl
theorem info47 : (Try.prog.info? 47).map (fun i => (i.zero, i.size, i.bytes)) = some (some (.agg #[(.int .i64 0), (.string ⟨#[]⟩), (.int .i64 0), (.string ⟨#[]⟩), (.int .i64 0), (.string ⟨#[]⟩), (.int .i64 0), (.string ⟨#[]⟩), (.int .i64 0), (.string ⟨#[]⟩), (.slice none 0 0)]), 11, 144) := by kernel_rfl
theorem bne_nil_ {α : Type} [BEq α] (l : List α) : (l != []) = !l.isEmpty := by cases l <;> rfl
-- the values' own types
/-! #### struct type 40 -/
structure S40 where
  f0 : Int
  f1 : Int
  f2 : Int
  f3 : Int
def z40 : S40 := ⟨(0 : Int), (0 : Int), (0 : Int), (0 : Int)⟩
def k40 : Kd S40 := Kd.iso (Kd.pair (Kd.int .i64) (Kd.pair (Kd.int .i64) (Kd.pair (Kd.int .i64) (Kd.int .i64)))) (fun x : S40 => (x.f0, x.f1, x.f2, x.f3))
theorem k40_heap : Kd.Heap k40 := Kd.heap_iso _ (Kd.heap_pair (Kd.heap_int .i64) (Kd.heap_pair (Kd.heap_int .i64) (Kd.heap_pair (Kd.heap_int .i64) (Kd.heap_int .i64))))
theorem k40_open {w : World} {x : S40} {cs : List Value} (h : k40.K w x cs) : cs = [.int .i64 x.f0, .int .i64 x.f1, .int .i64 x.f2, .int .i64 x.f3] := by
  obtain ⟨_, _, rfl, rfl, ⟨_, _, rfl, rfl, ⟨_, _, rfl, rfl, rfl⟩⟩⟩ := h
  exact rfl
theorem k40_openM {w : World} {base : Nat} {ok : Nat → Prop} {x : S40} {cs : List Value} (h : k40.M w base ok x cs) : cs = [.int .i64 x.f0, .int .i64 x.f1, .int .i64 x.f2, .int .i64 x.f3] := by
  obtain ⟨_, _, rfl, rfl, ⟨_, _, rfl, rfl, ⟨_, _, rfl, rfl, rfl⟩⟩⟩ := h
  exact rfl
theorem k40_mk (w : World) (x : S40)  : k40.K w x [.int .i64 x.f0, .int .i64 x.f1, .int .i64 x.f2, .int .i64 x.f3] := ⟨[.int .i64 x.f0], [.int .i64 x.f1, .int .i64 x.f2, .int .i64 x.f3], rfl, rfl, ⟨[.int .i64 x.f1], [.int .i64 x.f2, .int .i64 x.f3], rfl, rfl, ⟨[.int .i64 x.f2], [.int .i64 x.f3], rfl, rfl, rfl⟩⟩⟩
theorem k40_mkM (w : World) (base : Nat) (ok : Nat → Prop) (x : S40)  : k40.M w base ok x [.int .i64 x.f0, .int .i64 x.f1, .int .i64 x.f2, .int .i64 x.f3] := ⟨[.int .i64 x.f0], [.int .i64 x.f1, .int .i64 x.f2, .int .i64 x.f3], rfl, rfl, ⟨[.int .i64 x.f1], [.int .i64 x.f2, .int .i64 x.f3], rfl, rfl, ⟨[.int .i64 x.f2], [.int .i64 x.f3], rfl, rfl, rfl⟩⟩⟩
theorem k40_mkF (W : World) (ok : Nat → Prop) (x : S40) : Kd.FK k40 W ok x [.int .i64 x.f0, .int .i64 x.f1, .int .i64 x.f2, .int .i64 x.f3] := fun W2 _ => k40_mk W2 x
def rd_T40 (xs : List S40) (i : Int) : S40 := xs.getD i.toNat z40
theorem at_T40 {w : World} {A : Option Addr} {n : Nat} {xs : List S40} (h : Kd.C k40 w A n xs) (i : Int) (h0 : 0 ≤ i) (h1 : i < n) : ∃ ad , A = some ad ∧ w.cell? (ad.add (i.toNat * 4)) = some (.int .i64 (rd_T40 xs i).f0) ∧ w.cell? ⟨(ad.add (i.toNat * 4)).block, (ad.add (i.toNat * 4)).off + 1, none⟩ = some (.int .i64 (rd_T40 xs i).f1) ∧ w.cell? ⟨(ad.add (i.toNat * 4)).block, (ad.add (i.toNat * 4)).off + 2, none⟩ = some (.int .i64 (rd_T40 xs i).f2) ∧ w.cell? ⟨(ad.add (i.toNat * 4)).block, (ad.add (i.toNat * 4)).off + 3, none⟩ = some (.int .i64 (rd_T40 xs i).f3) := by
  obtain ⟨ad, c, e, _, hK, hc0⟩ := Kd.C_get h z40 i h0 h1
  have hc : ∀ j u, c[j]? = some u → w.cell? (ad.add (i.toNat * 4 + j)) = some u := hc0
  obtain rfl := k40_open hK
  exact ⟨ad, e, hc 0 _ rfl, by rw [← add_field _ _ 1 (by omega)]; exact hc 1 _ rfl, by rw [← add_field _ _ 2 (by omega)]; exact hc 2 _ rfl, by rw [← add_field _ _ 3 (by omega)]; exact hc 3 _ rfl⟩

def rd_L3 (xs : List (List ByteArray)) (i : Int) : (List ByteArray) := xs.getD i.toNat ([] : List ByteArray)
theorem at_L3 {w : World} {A : Option Addr} {n : Nat} {xs : List (List ByteArray)} (h : Kd.C (Kd.slice 9 Kd.string) w A n xs) (i : Int) (h0 : 0 ≤ i) (h1 : i < n) : ∃ ad A0 c0, A = some ad ∧ w.cell? (ad.add i.toNat) = some (.slice A0 (rd_L3 xs i).length c0) ∧ (rd_L3 xs i).length ≤ c0 ∧ Kd.string.C w A0 (rd_L3 xs i).length (rd_L3 xs i) := by
  obtain ⟨ad, c, e, _, hK, hc0⟩ := Kd.C_get h ([] : List ByteArray) i h0 h1
  have hc : ∀ j u, c[j]? = some u → w.cell? (ad.add (i.toNat * 1 + j)) = some u := hc0
  obtain ⟨A0, c0, rfl, l0, g0⟩ := hK
  exact ⟨ad, A0, c0, e, by have hq := hc 0 _ rfl; rwa [Nat.mul_one, Nat.add_zero] at hq, l0, g0⟩

/-! #### struct type 42 -/
structure S42 where
  f0 : ByteArray
  f1 : Int
def z42 : S42 := ⟨(⟨#[]⟩ : ByteArray), (0 : Int)⟩
def k42 : Kd S42 := Kd.iso (Kd.pair Kd.string (Kd.int .i64)) (fun x : S42 => (x.f0, x.f1))
theorem k42_heap : Kd.Heap k42 := Kd.heap_iso _ (Kd.heap_pair Kd.heap_string (Kd.heap_int .i64))
theorem k42_open {w : World} {x : S42} {cs : List Value} (h : k42.K w x cs) : cs = [.string x.f0, .int .i64 x.f1] := by
  obtain ⟨_, _, rfl, rfl, rfl⟩ := h
  exact rfl
theorem k42_openM {w : World} {base : Nat} {ok : Nat → Prop} {x : S42} {cs : List Value} (h : k42.M w base ok x cs) : cs = [.string x.f0, .int .i64 x.f1] := by
  obtain ⟨_, _, rfl, rfl, rfl⟩ := h
  exact rfl
theorem k42_mk (w : World) (x : S42)  : k42.K w x [.string x.f0, .int .i64 x.f1] := ⟨[.string x.f0], [.int .i64 x.f1], rfl, rfl, rfl⟩
theorem k42_mkM (w : World) (base : Nat) (ok : Nat → Prop) (x : S42)  : k42.M w base ok x [.string x.f0, .int .i64 x.f1] := ⟨[.string x.f0], [.int .i64 x.f1], rfl, rfl, rfl⟩
theorem k42_mkF (W : World) (ok : Nat → Prop) (x : S42) : Kd.FK k42 W ok x [.string x.f0, .int .i64 x.f1] := fun W2 _ => k42_mk W2 x
def rd_T42 (xs : List S42) (i : Int) : S42 := xs.getD i.toNat z42
theorem at_T42 {w : World} {A : Option Addr} {n : Nat} {xs : List S42} (h : Kd.C k42 w A n xs) (i : Int) (h0 : 0 ≤ i) (h1 : i < n) : ∃ ad , A = some ad ∧ w.cell? (ad.add (i.toNat * 2)) = some (.string (rd_T42 xs i).f0) ∧ w.cell? ⟨(ad.add (i.toNat * 2)).block, (ad.add (i.toNat * 2)).off + 1, none⟩ = some (.int .i64 (rd_T42 xs i).f1) := by
  obtain ⟨ad, c, e, _, hK, hc0⟩ := Kd.C_get h z42 i h0 h1
  have hc : ∀ j u, c[j]? = some u → w.cell? (ad.add (i.toNat * 2 + j)) = some u := hc0
  obtain rfl := k42_open hK
  exact ⟨ad, e, hc 0 _ rfl, by rw [← add_field _ _ 1 (by omega)]; exact hc 1 _ rfl⟩

/-! #### struct type 59 -/
structure S59 where
  f0 : Bool
  f1 : ByteArray
  f2 : S42
def z59 : S59 := ⟨false, (⟨#[]⟩ : ByteArray), z42⟩
def k59 : Kd S59 := Kd.iso (Kd.pair Kd.bool (Kd.pair Kd.string k42)) (fun x : S59 => (x.f0, x.f1, x.f2))
theorem k59_heap : Kd.Heap k59 := Kd.heap_iso _ (Kd.heap_pair Kd.heap_bool (Kd.heap_pair Kd.heap_string k42_heap))
theorem k59_open {w : World} {x : S59} {cs : List Value} (h : k59.K w x cs) : cs = [.bool x.f0, .string x.f1, .string x.f2.f0, .int .i64 x.f2.f1] := by
  obtain ⟨_, _, rfl, rfl, ⟨_, _, rfl, rfl, s2⟩⟩ := h
  obtain rfl := k42_open s2
  exact rfl
theorem k59_openM {w : World} {base : Nat} {ok : Nat → Prop} {x : S59} {cs : List Value} (h : k59.M w base ok x cs) : cs = [.bool x.f0, .string x.f1, .string x.f2.f0, .int .i64 x.f2.f1] := by
  obtain ⟨_, _, rfl, rfl, ⟨_, _, rfl, rfl, s2⟩⟩ := h
  obtain rfl := k42_openM s2
  exact rfl
theorem k59_mk (w : World) (x : S59)  : k59.K w x [.bool x.f0, .string x.f1, .string x.f2.f0, .int .i64 x.f2.f1] := ⟨[.bool x.f0], [.string x.f1, .string x.f2.f0, .int .i64 x.f2.f1], rfl, rfl, ⟨[.string x.f1], [.string x.f2.f0, .int .i64 x.f2.f1], rfl, rfl, (k42_mk w x.f2 )⟩⟩
theorem k59_mkM (w : World) (base : Nat) (ok : Nat → Prop) (x : S59)  : k59.M w base ok x [.bool x.f0, .string x.f1, .string x.f2.f0, .int .i64 x.f2.f1] := ⟨[.bool x.f0], [.string x.f1, .string x.f2.f0, .int .i64 x.f2.f1], rfl, rfl, ⟨[.string x.f1], [.string x.f2.f0, .int .i64 x.f2.f1], rfl, rfl, (k42_mkM w base ok x.f2 )⟩⟩
theorem k59_mkF (W : World) (ok : Nat → Prop) (x : S59) : Kd.FK k59 W ok x [.bool x.f0, .string x.f1, .string x.f2.f0, .int .i64 x.f2.f1] := fun W2 _ => k59_mk W2 x
def rd_T59 (xs : List S59) (i : Int) : S59 := xs.getD i.toNat z59
theorem at_T59 {w : World} {A : Option Addr} {n : Nat} {xs : List S59} (h : Kd.C k59 w A n xs) (i : Int) (h0 : 0 ≤ i) (h1 : i < n) : ∃ ad , A = some ad ∧ w.cell? (ad.add (i.toNat * 4)) = some (.bool (rd_T59 xs i).f0) ∧ w.cell? ⟨(ad.add (i.toNat * 4)).block, (ad.add (i.toNat * 4)).off + 1, none⟩ = some (.string (rd_T59 xs i).f1) ∧ w.cell? ⟨(ad.add (i.toNat * 4)).block, (ad.add (i.toNat * 4)).off + 2, none⟩ = some (.string (rd_T59 xs i).f2.f0) ∧ w.cell? ⟨(ad.add (i.toNat * 4)).block, (ad.add (i.toNat * 4)).off + 3, none⟩ = some (.int .i64 (rd_T59 xs i).f2.f1) := by
  obtain ⟨ad, c, e, _, hK, hc0⟩ := Kd.C_get h z59 i h0 h1
  have hc : ∀ j u, c[j]? = some u → w.cell? (ad.add (i.toNat * 4 + j)) = some u := hc0
  obtain rfl := k59_open hK
  exact ⟨ad, e, hc 0 _ rfl, by rw [← add_field _ _ 1 (by omega)]; exact hc 1 _ rfl, by rw [← add_field _ _ 2 (by omega)]; exact hc 2 _ rfl, by rw [← add_field _ _ 3 (by omega)]; exact hc 3 _ rfl⟩

def rd_L7 (xs : List (List S42)) (i : Int) : (List S42) := xs.getD i.toNat ([] : List S42)
theorem at_L7 {w : World} {A : Option Addr} {n : Nat} {xs : List (List S42)} (h : Kd.C (Kd.slice 42 k42) w A n xs) (i : Int) (h0 : 0 ≤ i) (h1 : i < n) : ∃ ad A0 c0, A = some ad ∧ w.cell? (ad.add i.toNat) = some (.slice A0 (rd_L7 xs i).length c0) ∧ (rd_L7 xs i).length ≤ c0 ∧ k42.C w A0 (rd_L7 xs i).length (rd_L7 xs i) := by
  obtain ⟨ad, c, e, _, hK, hc0⟩ := Kd.C_get h ([] : List S42) i h0 h1
  have hc : ∀ j u, c[j]? = some u → w.cell? (ad.add (i.toNat * 1 + j)) = some u := hc0
  obtain ⟨A0, c0, rfl, l0, g0⟩ := hK
  exact ⟨ad, A0, c0, e, by have hq := hc 0 _ rfl; rwa [Nat.mul_one, Nat.add_zero] at hq, l0, g0⟩

/-! #### struct type 47, nested in itself -/
structure S47 where
  f0 : Int
  f1 : S42
  f2 : S42
  f3 : S42
  f4 : S42
  f5 : ByteArray
  f6 : (List S47)
def z47 : S47 := ⟨(0 : Int), z42, z42, z42, z42, (⟨#[]⟩ : ByteArray), ([] : List S47)⟩
def F47 (d : Kd S47) : Kd S47 := Kd.iso (Kd.pair (Kd.int .i64) (Kd.pair k42 (Kd.pair k42 (Kd.pair k42 (Kd.pair k42 (Kd.pair Kd.string (Kd.slice 47 d))))))) (fun x : S47 => (x.f0, x.f1, x.f2, x.f3, x.f4, x.f5, x.f6))
theorem mono47 : Kd.Mono F47 := Kd.mono_iso _ (Kd.mono_pair (Kd.mono_const _) (Kd.mono_pair (Kd.mono_const _) (Kd.mono_pair (Kd.mono_const _) (Kd.mono_pair (Kd.mono_const _) (Kd.mono_pair (Kd.mono_const _) (Kd.mono_pair (Kd.mono_const _) (Kd.mono_slice 47 Kd.mono_id)))))))
theorem sub47 : Kd.Sub F47 [47] := Kd.sub_iso _ (Kd.sub_pair (Kd.sub_const _ (by decide)) (Kd.sub_pair (Kd.sub_const _ (by decide)) (Kd.sub_pair (Kd.sub_const _ (by decide)) (Kd.sub_pair (Kd.sub_const _ (by decide)) (Kd.sub_pair (Kd.sub_const _ (by decide)) (Kd.sub_pair (Kd.sub_const _ (by decide)) (Kd.sub_slice 47 (by decide) Kd.sub_id)))))))
theorem sz47 : ∀ n, (Kd.upto F47 11 [47] n).sz = 11 := Kd.upto_sz (fun _ => rfl)
def k47 : Kd S47 := Kd.fix F47 11 [47] sz47 (Kd.upto_E sub47)
theorem k47_heap : Kd.Heap k47 := Kd.heap_fix (fun _ h_ => Kd.heap_iso _ (Kd.heap_pair (Kd.heap_int .i64) (Kd.heap_pair k42_heap (Kd.heap_pair k42_heap (Kd.heap_pair k42_heap (Kd.heap_pair k42_heap (Kd.heap_pair Kd.heap_string (Kd.heap_slice 47 h_))))))))
theorem k47_open {w : World} {x : S47} {cs : List Value} (h : k47.K w x cs) : ∃ A10 c10, cs = [.int .i64 x.f0, .string x.f1.f0, .int .i64 x.f1.f1, .string x.f2.f0, .int .i64 x.f2.f1, .string x.f3.f0, .int .i64 x.f3.f1, .string x.f4.f0, .int .i64 x.f4.f1, .string x.f5, .slice A10 x.f6.length c10] ∧ x.f6.length ≤ c10 ∧ k47.C w A10 x.f6.length x.f6 := by
  obtain ⟨n, h⟩ := h
  cases n with
  | zero => exact h.elim
  | succ n =>
    obtain ⟨_, _, rfl, rfl, ⟨_, _, rfl, s1, ⟨_, _, rfl, s3, ⟨_, _, rfl, s5, ⟨_, _, rfl, s7, ⟨_, _, rfl, rfl, ⟨A10, c10, rfl, l10, g10⟩⟩⟩⟩⟩⟩⟩ := h
    obtain rfl := k42_open s1
    obtain rfl := k42_open s3
    obtain rfl := k42_open s5
    obtain rfl := k42_open s7
    exact ⟨A10, c10, rfl, l10, Kd.fix_C g10⟩
theorem k47_openM {w : World} {base : Nat} {ok : Nat → Prop} {x : S47} {cs : List Value} (h : k47.M w base ok x cs) : ∃ v10, cs = [.int .i64 x.f0, .string x.f1.f0, .int .i64 x.f1.f1, .string x.f2.f0, .int .i64 x.f2.f1, .string x.f3.f0, .int .i64 x.f3.f1, .string x.f4.f0, .int .i64 x.f4.f1, .string x.f5, v10] ∧ k47.R 47 w base ok v10 x.f6 := by
  obtain ⟨n, h⟩ := h
  cases n with
  | zero => exact h.elim
  | succ n =>
    obtain ⟨_, _, rfl, rfl, ⟨_, _, rfl, s1, ⟨_, _, rfl, s3, ⟨_, _, rfl, s5, ⟨_, _, rfl, s7, ⟨_, _, rfl, rfl, ⟨v10, rfl, g10⟩⟩⟩⟩⟩⟩⟩ := h
    obtain rfl := k42_openM s1
    obtain rfl := k42_openM s3
    obtain rfl := k42_openM s5
    obtain rfl := k42_openM s7
    exact ⟨v10, rfl, Kd.fix_R g10⟩
theorem k47_mk (w : World) (x : S47) {A10 : Option Addr} {c10 : Nat} (l10 : x.f6.length ≤ c10) (g10 : k47.C w A10 x.f6.length x.f6) : k47.K w x [.int .i64 x.f0, .string x.f1.f0, .int .i64 x.f1.f1, .string x.f2.f0, .int .i64 x.f2.f1, .string x.f3.f0, .int .i64 x.f3.f1, .string x.f4.f0, .int .i64 x.f4.f1, .string x.f5, .slice A10 x.f6.length c10] := by
  obtain ⟨n10, q10⟩ := Kd.fix_C_back mono47 g10
  have r10 := Kd.upto_C_le mono47 sz47 (show n10 ≤ n10 by omega) q10
  exact ⟨n10 + 1, ⟨[.int .i64 x.f0], [.string x.f1.f0, .int .i64 x.f1.f1, .string x.f2.f0, .int .i64 x.f2.f1, .string x.f3.f0, .int .i64 x.f3.f1, .string x.f4.f0, .int .i64 x.f4.f1, .string x.f5, .slice A10 x.f6.length c10], rfl, rfl, ⟨[.string x.f1.f0, .int .i64 x.f1.f1], [.string x.f2.f0, .int .i64 x.f2.f1, .string x.f3.f0, .int .i64 x.f3.f1, .string x.f4.f0, .int .i64 x.f4.f1, .string x.f5, .slice A10 x.f6.length c10], rfl, (k42_mk w x.f1 ), ⟨[.string x.f2.f0, .int .i64 x.f2.f1], [.string x.f3.f0, .int .i64 x.f3.f1, .string x.f4.f0, .int .i64 x.f4.f1, .string x.f5, .slice A10 x.f6.length c10], rfl, (k42_mk w x.f2 ), ⟨[.string x.f3.f0, .int .i64 x.f3.f1], [.string x.f4.f0, .int .i64 x.f4.f1, .string x.f5, .slice A10 x.f6.length c10], rfl, (k42_mk w x.f3 ), ⟨[.string x.f4.f0, .int .i64 x.f4.f1], [.string x.f5, .slice A10 x.f6.length c10], rfl, (k42_mk w x.f4 ), ⟨[.string x.f5], [.slice A10 x.f6.length c10], rfl, rfl, ⟨A10, c10, rfl, l10, r10⟩⟩⟩⟩⟩⟩⟩⟩
theorem k47_mkM (w : World) (base : Nat) (ok : Nat → Prop) (x : S47) {v10 : Value} (g10 : k47.R 47 w base ok v10 x.f6) : k47.M w base ok x [.int .i64 x.f0, .string x.f1.f0, .int .i64 x.f1.f1, .string x.f2.f0, .int .i64 x.f2.f1, .string x.f3.f0, .int .i64 x.f3.f1, .string x.f4.f0, .int .i64 x.f4.f1, .string x.f5, v10] := by
  obtain ⟨n10, q10⟩ := Kd.fix_R_back mono47 g10
  have r10 := Kd.upto_R_le mono47 sz47 (show n10 ≤ n10 by omega) q10
  exact ⟨n10 + 1, ⟨[.int .i64 x.f0], [.string x.f1.f0, .int .i64 x.f1.f1, .string x.f2.f0, .int .i64 x.f2.f1, .string x.f3.f0, .int .i64 x.f3.f1, .string x.f4.f0, .int .i64 x.f4.f1, .string x.f5, v10], rfl, rfl, ⟨[.string x.f1.f0, .int .i64 x.f1.f1], [.string x.f2.f0, .int .i64 x.f2.f1, .string x.f3.f0, .int .i64 x.f3.f1, .string x.f4.f0, .int .i64 x.f4.f1, .string x.f5, v10], rfl, (k42_mkM w base ok x.f1 ), ⟨[.string x.f2.f0, .int .i64 x.f2.f1], [.string x.f3.f0, .int .i64 x.f3.f1, .string x.f4.f0, .int .i64 x.f4.f1, .string x.f5, v10], rfl, (k42_mkM w base ok x.f2 ), ⟨[.string x.f3.f0, .int .i64 x.f3.f1], [.string x.f4.f0, .int .i64 x.f4.f1, .string x.f5, v10], rfl, (k42_mkM w base ok x.f3 ), ⟨[.string x.f4.f0, .int .i64 x.f4.f1], [.string x.f5, v10], rfl, (k42_mkM w base ok x.f4 ), ⟨[.string x.f5], [v10], rfl, rfl, ⟨v10, rfl, r10⟩⟩⟩⟩⟩⟩⟩⟩
theorem k47_openF {W : World} {ok : Nat → Prop} {x : S47} {cs : List Value} (h : Kd.FK k47 W ok x cs) : ∃ A10 c10, cs = [.int .i64 x.f0, .string x.f1.f0, .int .i64 x.f1.f1, .string x.f2.f0, .int .i64 x.f2.f1, .string x.f3.f0, .int .i64 x.f3.f1, .string x.f4.f0, .int .i64 x.f4.f1, .string x.f5, .slice A10 x.f6.length c10] ∧ x.f6.length ≤ c10 ∧ Kd.F k47 W ok A10 x.f6.length x.f6 := by
  obtain ⟨A10, c10, rfl, l10, _⟩ := k47_open (Kd.FK_now h)
  exact ⟨A10, c10, rfl, l10, (fun W' hW => by obtain ⟨A10_, c10_, he, l10_, g10_⟩ := k47_open (h W' hW); injection (Option.some.inj (show some (Value.slice A10 x.f6.length c10) = some (Value.slice A10_ x.f6.length c10_) from congrArg (fun l => l[10]?) he)) with ha_ _ _; rw [ha_]; exact g10_)⟩
theorem k47_mkF (W : World) (ok : Nat → Prop) (x : S47) {A10 : Option Addr} {c10 : Nat} (l10 : x.f6.length ≤ c10) (g10 : Kd.F k47 W ok A10 x.f6.length x.f6) : Kd.FK k47 W ok x [.int .i64 x.f0, .string x.f1.f0, .int .i64 x.f1.f1, .string x.f2.f0, .int .i64 x.f2.f1, .string x.f3.f0, .int .i64 x.f3.f1, .string x.f4.f0, .int .i64 x.f4.f1, .string x.f5, .slice A10 x.f6.length c10] := fun W2 hW => k47_mk W2 x l10 (g10 W2 hW)
def rd_T47 (xs : List S47) (i : Int) : S47 := xs.getD i.toNat z47
theorem at_T47 {w : World} {A : Option Addr} {n : Nat} {xs : List S47} (h : Kd.C k47 w A n xs) (i : Int) (h0 : 0 ≤ i) (h1 : i < n) : ∃ ad A10 c10, A = some ad ∧ w.cell? (ad.add (i.toNat * 11)) = some (.int .i64 (rd_T47 xs i).f0) ∧ w.cell? ⟨(ad.add (i.toNat * 11)).block, (ad.add (i.toNat * 11)).off + 1, none⟩ = some (.string (rd_T47 xs i).f1.f0) ∧ w.cell? ⟨(ad.add (i.toNat * 11)).block, (ad.add (i.toNat * 11)).off + 2, none⟩ = some (.int .i64 (rd_T47 xs i).f1.f1) ∧ w.cell? ⟨(ad.add (i.toNat * 11)).block, (ad.add (i.toNat * 11)).off + 3, none⟩ = some (.string (rd_T47 xs i).f2.f0) ∧ w.cell? ⟨(ad.add (i.toNat * 11)).block, (ad.add (i.toNat * 11)).off + 4, none⟩ = some (.int .i64 (rd_T47 xs i).f2.f1) ∧ w.cell? ⟨(ad.add (i.toNat * 11)).block, (ad.add (i.toNat * 11)).off + 5, none⟩ = some (.string (rd_T47 xs i).f3.f0) ∧ w.cell? ⟨(ad.add (i.toNat * 11)).block, (ad.add (i.toNat * 11)).off + 6, none⟩ = some (.int .i64 (rd_T47 xs i).f3.f1) ∧ w.cell? ⟨(ad.add (i.toNat * 11)).block, (ad.add (i.toNat * 11)).off + 7, none⟩ = some (.string (rd_T47 xs i).f4.f0) ∧ w.cell? ⟨(ad.add (i.toNat * 11)).block, (ad.add (i.toNat * 11)).off + 8, none⟩ = some (.int .i64 (rd_T47 xs i).f4.f1) ∧ w.cell? ⟨(ad.add (i.toNat * 11)).block, (ad.add (i.toNat * 11)).off + 9, none⟩ = some (.string (rd_T47 xs i).f5) ∧ w.cell? ⟨(ad.add (i.toNat * 11)).block, (ad.add (i.toNat * 11)).off + 10, none⟩ = some (.slice A10 (rd_T47 xs i).f6.length c10) ∧ (rd_T47 xs i).f6.length ≤ c10 ∧ k47.C w A10 (rd_T47 xs i).f6.length (rd_T47 xs i).f6 := by
  obtain ⟨ad, c, e, _, hK, hc0⟩ := Kd.C_get h z47 i h0 h1
  have hc : ∀ j u, c[j]? = some u → w.cell? (ad.add (i.toNat * 11 + j)) = some u := hc0
  obtain ⟨A10, c10, rfl, l10, g10⟩ := k47_open hK
  exact ⟨ad, A10, c10, e, hc 0 _ rfl, by rw [← add_field _ _ 1 (by omega)]; exact hc 1 _ rfl, by rw [← add_field _ _ 2 (by omega)]; exact hc 2 _ rfl, by rw [← add_field _ _ 3 (by omega)]; exact hc 3 _ rfl, by rw [← add_field _ _ 4 (by omega)]; exact hc 4 _ rfl, by rw [← add_field _ _ 5 (by omega)]; exact hc 5 _ rfl, by rw [← add_field _ _ 6 (by omega)]; exact hc 6 _ rfl, by rw [← add_field _ _ 7 (by omega)]; exact hc 7 _ rfl, by rw [← add_field _ _ 8 (by omega)]; exact hc 8 _ rfl, by rw [← add_field _ _ 9 (by omega)]; exact hc 9 _ rfl, by rw [← add_field _ _ 10 (by omega)]; exact hc 10 _ rfl, l10, g10⟩

/-! #### struct type 64 -/
structure S64 where
  f0 : ByteArray
  f1 : S47
def z64 : S64 := ⟨(⟨#[]⟩ : ByteArray), z47⟩
def k64 : Kd S64 := Kd.iso (Kd.pair Kd.string k47) (fun x : S64 => (x.f0, x.f1))
theorem k64_heap : Kd.Heap k64 := Kd.heap_iso _ (Kd.heap_pair Kd.heap_string k47_heap)
theorem k64_open {w : World} {x : S64} {cs : List Value} (h : k64.K w x cs) : ∃ A11 c11, cs = [.string x.f0, .int .i64 x.f1.f0, .string x.f1.f1.f0, .int .i64 x.f1.f1.f1, .string x.f1.f2.f0, .int .i64 x.f1.f2.f1, .string x.f1.f3.f0, .int .i64 x.f1.f3.f1, .string x.f1.f4.f0, .int .i64 x.f1.f4.f1, .string x.f1.f5, .slice A11 x.f1.f6.length c11] ∧ x.f1.f6.length ≤ c11 ∧ k47.C w A11 x.f1.f6.length x.f1.f6 := by
  obtain ⟨_, _, rfl, rfl, s1⟩ := h
  obtain ⟨A11, c11, rfl, l11, g11⟩ := k47_open s1
  exact ⟨A11, c11, rfl, l11, g11⟩
theorem k64_openM {w : World} {base : Nat} {ok : Nat → Prop} {x : S64} {cs : List Value} (h : k64.M w base ok x cs) : ∃ v11, cs = [.string x.f0, .int .i64 x.f1.f0, .string x.f1.f1.f0, .int .i64 x.f1.f1.f1, .string x.f1.f2.f0, .int .i64 x.f1.f2.f1, .string x.f1.f3.f0, .int .i64 x.f1.f3.f1, .string x.f1.f4.f0, .int .i64 x.f1.f4.f1, .string x.f1.f5, v11] ∧ k47.R 47 w base ok v11 x.f1.f6 := by
  obtain ⟨_, _, rfl, rfl, s1⟩ := h
  obtain ⟨v11, rfl, g11⟩ := k47_openM s1
  exact ⟨v11, rfl, g11⟩
theorem k64_mk (w : World) (x : S64) {A11 : Option Addr} {c11 : Nat} (l11 : x.f1.f6.length ≤ c11) (g11 : k47.C w A11 x.f1.f6.length x.f1.f6) : k64.K w x [.string x.f0, .int .i64 x.f1.f0, .string x.f1.f1.f0, .int .i64 x.f1.f1.f1, .string x.f1.f2.f0, .int .i64 x.f1.f2.f1, .string x.f1.f3.f0, .int .i64 x.f1.f3.f1, .string x.f1.f4.f0, .int .i64 x.f1.f4.f1, .string x.f1.f5, .slice A11 x.f1.f6.length c11] := ⟨[.string x.f0], [.int .i64 x.f1.f0, .string x.f1.f1.f0, .int .i64 x.f1.f1.f1, .string x.f1.f2.f0, .int .i64 x.f1.f2.f1, .string x.f1.f3.f0, .int .i64 x.f1.f3.f1, .string x.f1.f4.f0, .int .i64 x.f1.f4.f1, .string x.f1.f5, .slice A11 x.f1.f6.length c11], rfl, rfl, (k47_mk w x.f1 l11 g11)⟩
theorem k64_mkM (w : World) (base : Nat) (ok : Nat → Prop) (x : S64) {v11 : Value} (g11 : k47.R 47 w base ok v11 x.f1.f6) : k64.M w base ok x [.string x.f0, .int .i64 x.f1.f0, .string x.f1.f1.f0, .int .i64 x.f1.f1.f1, .string x.f1.f2.f0, .int .i64 x.f1.f2.f1, .string x.f1.f3.f0, .int .i64 x.f1.f3.f1, .string x.f1.f4.f0, .int .i64 x.f1.f4.f1, .string x.f1.f5, v11] := ⟨[.string x.f0], [.int .i64 x.f1.f0, .string x.f1.f1.f0, .int .i64 x.f1.f1.f1, .string x.f1.f2.f0, .int .i64 x.f1.f2.f1, .string x.f1.f3.f0, .int .i64 x.f1.f3.f1, .string x.f1.f4.f0, .int .i64 x.f1.f4.f1, .string x.f1.f5, v11], rfl, rfl, (k47_mkM w base ok x.f1 g11)⟩
theorem k64_openF {W : World} {ok : Nat → Prop} {x : S64} {cs : List Value} (h : Kd.FK k64 W ok x cs) : ∃ A11 c11, cs = [.string x.f0, .int .i64 x.f1.f0, .string x.f1.f1.f0, .int .i64 x.f1.f1.f1, .string x.f1.f2.f0, .int .i64 x.f1.f2.f1, .string x.f1.f3.f0, .int .i64 x.f1.f3.f1, .string x.f1.f4.f0, .int .i64 x.f1.f4.f1, .string x.f1.f5, .slice A11 x.f1.f6.length c11] ∧ x.f1.f6.length ≤ c11 ∧ Kd.F k47 W ok A11 x.f1.f6.length x.f1.f6 := by
  obtain ⟨A11, c11, rfl, l11, _⟩ := k64_open (Kd.FK_now h)
  exact ⟨A11, c11, rfl, l11, (fun W' hW => by obtain ⟨A11_, c11_, he, l11_, g11_⟩ := k64_open (h W' hW); injection (Option.some.inj (show some (Value.slice A11 x.f1.f6.length c11) = some (Value.slice A11_ x.f1.f6.length c11_) from congrArg (fun l => l[11]?) he)) with ha_ _ _; rw [ha_]; exact g11_)⟩
theorem k64_mkF (W : World) (ok : Nat → Prop) (x : S64) {A11 : Option Addr} {c11 : Nat} (l11 : x.f1.f6.length ≤ c11) (g11 : Kd.F k47 W ok A11 x.f1.f6.length x.f1.f6) : Kd.FK k64 W ok x [.string x.f0, .int .i64 x.f1.f0, .string x.f1.f1.f0, .int .i64 x.f1.f1.f1, .string x.f1.f2.f0, .int .i64 x.f1.f2.f1, .string x.f1.f3.f0, .int .i64 x.f1.f3.f1, .string x.f1.f4.f0, .int .i64 x.f1.f4.f1, .string x.f1.f5, .slice A11 x.f1.f6.length c11] := fun W2 hW => k64_mk W2 x l11 (g11 W2 hW)
def rd_T64 (xs : List S64) (i : Int) : S64 := xs.getD i.toNat z64
theorem at_T64 {w : World} {A : Option Addr} {n : Nat} {xs : List S64} (h : Kd.C k64 w A n xs) (i : Int) (h0 : 0 ≤ i) (h1 : i < n) : ∃ ad A11 c11, A = some ad ∧ w.cell? (ad.add (i.toNat * 12)) = some (.string (rd_T64 xs i).f0) ∧ w.cell? ⟨(ad.add (i.toNat * 12)).block, (ad.add (i.toNat * 12)).off + 1, none⟩ = some (.int .i64 (rd_T64 xs i).f1.f0) ∧ w.cell? ⟨(ad.add (i.toNat * 12)).block, (ad.add (i.toNat * 12)).off + 2, none⟩ = some (.string (rd_T64 xs i).f1.f1.f0) ∧ w.cell? ⟨(ad.add (i.toNat * 12)).block, (ad.add (i.toNat * 12)).off + 3, none⟩ = some (.int .i64 (rd_T64 xs i).f1.f1.f1) ∧ w.cell? ⟨(ad.add (i.toNat * 12)).block, (ad.add (i.toNat * 12)).off + 4, none⟩ = some (.string (rd_T64 xs i).f1.f2.f0) ∧ w.cell? ⟨(ad.add (i.toNat * 12)).block, (ad.add (i.toNat * 12)).off + 5, none⟩ = some (.int .i64 (rd_T64 xs i).f1.f2.f1) ∧ w.cell? ⟨(ad.add (i.toNat * 12)).block, (ad.add (i.toNat * 12)).off + 6, none⟩ = some (.string (rd_T64 xs i).f1.f3.f0) ∧ w.cell? ⟨(ad.add (i.toNat * 12)).block, (ad.add (i.toNat * 12)).off + 7, none⟩ = some (.int .i64 (rd_T64 xs i).f1.f3.f1) ∧ w.cell? ⟨(ad.add (i.toNat * 12)).block, (ad.add (i.toNat * 12)).off + 8, none⟩ = some (.string (rd_T64 xs i).f1.f4.f0) ∧ w.cell? ⟨(ad.add (i.toNat * 12)).block, (ad.add (i.toNat * 12)).off + 9, none⟩ = some (.int .i64 (rd_T64 xs i).f1.f4.f1) ∧ w.cell? ⟨(ad.add (i.toNat * 12)).block, (ad.add (i.toNat * 12)).off + 10, none⟩ = some (.string (rd_T64 xs i).f1.f5) ∧ w.cell? ⟨(ad.add (i.toNat * 12)).block, (ad.add (i.toNat * 12)).off + 11, none⟩ = some (.slice A11 (rd_T64 xs i).f1.f6.length c11) ∧ (rd_T64 xs i).f1.f6.length ≤ c11 ∧ k47.C w A11 (rd_T64 xs i).f1.f6.length (rd_T64 xs i).f1.f6 := by
  obtain ⟨ad, c, e, _, hK, hc0⟩ := Kd.C_get h z64 i h0 h1
  have hc : ∀ j u, c[j]? = some u → w.cell? (ad.add (i.toNat * 12 + j)) = some u := hc0
  obtain ⟨A11, c11, rfl, l11, g11⟩ := k64_open hK
  exact ⟨ad, A11, c11, e, hc 0 _ rfl, by rw [← add_field _ _ 1 (by omega)]; exact hc 1 _ rfl, by rw [← add_field _ _ 2 (by omega)]; exact hc 2 _ rfl, by rw [← add_field _ _ 3 (by omega)]; exact hc 3 _ rfl, by rw [← add_field _ _ 4 (by omega)]; exact hc 4 _ rfl, by rw [← add_field _ _ 5 (by omega)]; exact hc 5 _ rfl, by rw [← add_field _ _ 6 (by omega)]; exact hc 6 _ rfl, by rw [← add_field _ _ 7 (by omega)]; exact hc 7 _ rfl, by rw [← add_field _ _ 8 (by omega)]; exact hc 8 _ rfl, by rw [← add_field _ _ 9 (by omega)]; exact hc 9 _ rfl, by rw [← add_field _ _ 10 (by omega)]; exact hc 10 _ rfl, by rw [← add_field _ _ 11 (by omega)]; exact hc 11 _ rfl, l11, g11⟩

def rd_L10 (xs : List (List S64)) (i : Int) : (List S64) := xs.getD i.toNat ([] : List S64)
theorem at_L10 {w : World} {A : Option Addr} {n : Nat} {xs : List (List S64)} (h : Kd.C (Kd.slice 64 k64) w A n xs) (i : Int) (h0 : 0 ≤ i) (h1 : i < n) : ∃ ad A0 c0, A = some ad ∧ w.cell? (ad.add i.toNat) = some (.slice A0 (rd_L10 xs i).length c0) ∧ (rd_L10 xs i).length ≤ c0 ∧ k64.C w A0 (rd_L10 xs i).length (rd_L10 xs i) := by
  obtain ⟨ad, c, e, _, hK, hc0⟩ := Kd.C_get h ([] : List S64) i h0 h1
  have hc : ∀ j u, c[j]? = some u → w.cell? (ad.add (i.toNat * 1 + j)) = some u := hc0
  obtain ⟨A0, c0, rfl, l0, g0⟩ := hK
  exact ⟨ad, A0, c0, e, by have hq := hc 0 _ rfl; rwa [Nat.mul_one, Nat.add_zero] at hq, l0, g0⟩

/-! #### struct type 49 -/
structure S49 where
  f0 : Int
  f1 : ByteArray
  f2 : S42
  f3 : S42
  f4 : ByteArray
  f5 : (List S42)
  f6 : (List S64)
  f7 : S47
  f8 : S47
  f9 : S47
def z49 : S49 := ⟨(0 : Int), (⟨#[]⟩ : ByteArray), z42, z42, (⟨#[]⟩ : ByteArray), ([] : List S42), ([] : List S64), z47, z47, z47⟩
def k49 : Kd S49 := Kd.iso (Kd.pair (Kd.int .i64) (Kd.pair Kd.string (Kd.pair k42 (Kd.pair k42 (Kd.pair Kd.string (Kd.pair (Kd.slice 42 k42) (Kd.pair (Kd.slice 64 k64) (Kd.pair k47 (Kd.pair k47 k47))))))))) (fun x : S49 => (x.f0, x.f1, x.f2, x.f3, x.f4, x.f5, x.f6, x.f7, x.f8, x.f9))
theorem k49_heap : Kd.Heap k49 := Kd.heap_iso _ (Kd.heap_pair (Kd.heap_int .i64) (Kd.heap_pair Kd.heap_string (Kd.heap_pair k42_heap (Kd.heap_pair k42_heap (Kd.heap_pair Kd.heap_string (Kd.heap_pair (Kd.heap_slice 42 k42_heap) (Kd.heap_pair (Kd.heap_slice 64 k64_heap) (Kd.heap_pair k47_heap (Kd.heap_pair k47_heap k47_heap)))))))))
theorem k49_open {w : World} {x : S49} {cs : List Value} (h : k49.K w x cs) : ∃ A7 c7 A8 c8 A19 c19 A30 c30 A41 c41, cs = [.int .i64 x.f0, .string x.f1, .string x.f2.f0, .int .i64 x.f2.f1, .string x.f3.f0, .int .i64 x.f3.f1, .string x.f4, .slice A7 x.f5.length c7, .slice A8 x.f6.length c8, .int .i64 x.f7.f0, .string x.f7.f1.f0, .int .i64 x.f7.f1.f1, .string x.f7.f2.f0, .int .i64 x.f7.f2.f1, .string x.f7.f3.f0, .int .i64 x.f7.f3.f1, .string x.f7.f4.f0, .int .i64 x.f7.f4.f1, .string x.f7.f5, .slice A19 x.f7.f6.length c19, .int .i64 x.f8.f0, .string x.f8.f1.f0, .int .i64 x.f8.f1.f1, .string x.f8.f2.f0, .int .i64 x.f8.f2.f1, .string x.f8.f3.f0, .int .i64 x.f8.f3.f1, .string x.f8.f4.f0, .int .i64 x.f8.f4.f1, .string x.f8.f5, .slice A30 x.f8.f6.length c30, .int .i64 x.f9.f0, .string x.f9.f1.f0, .int .i64 x.f9.f1.f1, .string x.f9.f2.f0, .int .i64 x.f9.f2.f1, .string x.f9.f3.f0, .int .i64 x.f9.f3.f1, .string x.f9.f4.f0, .int .i64 x.f9.f4.f1, .string x.f9.f5, .slice A41 x.f9.f6.length c41] ∧ x.f5.length ≤ c7 ∧ k42.C w A7 x.f5.length x.f5 ∧ x.f6.length ≤ c8 ∧ k64.C w A8 x.f6.length x.f6 ∧ x.f7.f6.length ≤ c19 ∧ k47.C w A19 x.f7.f6.length x.f7.f6 ∧ x.f8.f6.length ≤ c30 ∧ k47.C w A30 x.f8.f6.length x.f8.f6 ∧ x.f9.f6.length ≤ c41 ∧ k47.C w A41 x.f9.f6.length x.f9.f6 := by
  obtain ⟨_, _, rfl, rfl, ⟨_, _, rfl, rfl, ⟨_, _, rfl, s2, ⟨_, _, rfl, s4, ⟨_, _, rfl, rfl, ⟨_, _, rfl, ⟨A7, c7, rfl, l7, g7⟩, ⟨_, _, rfl, ⟨A8, c8, rfl, l8, g8⟩, ⟨_, _, rfl, s9, ⟨_, _, rfl, s20, s31⟩⟩⟩⟩⟩⟩⟩⟩⟩ := h
  obtain rfl := k42_open s2
  obtain rfl := k42_open s4
  obtain ⟨A19, c19, rfl, l19, g19⟩ := k47_open s9
  obtain ⟨A30, c30, rfl, l30, g30⟩ := k47_open s20
  obtain ⟨A41, c41, rfl, l41, g41⟩ := k47_open s31
  exact ⟨A7, c7, A8, c8, A19, c19, A30, c30, A41, c41, rfl, l7, g7, l8, g8, l19, g19, l30, g30, l41, g41⟩
theorem k49_openM {w : World} {base : Nat} {ok : Nat → Prop} {x : S49} {cs : List Value} (h : k49.M w base ok x cs) : ∃ v7 v8 v19 v30 v41, cs = [.int .i64 x.f0, .string x.f1, .string x.f2.f0, .int .i64 x.f2.f1, .string x.f3.f0, .int .i64 x.f3.f1, .string x.f4, v7, v8, .int .i64 x.f7.f0, .string x.f7.f1.f0, .int .i64 x.f7.f1.f1, .string x.f7.f2.f0, .int .i64 x.f7.f2.f1, .string x.f7.f3.f0, .int .i64 x.f7.f3.f1, .string x.f7.f4.f0, .int .i64 x.f7.f4.f1, .string x.f7.f5, v19, .int .i64 x.f8.f0, .string x.f8.f1.f0, .int .i64 x.f8.f1.f1, .string x.f8.f2.f0, .int .i64 x.f8.f2.f1, .string x.f8.f3.f0, .int .i64 x.f8.f3.f1, .string x.f8.f4.f0, .int .i64 x.f8.f4.f1, .string x.f8.f5, v30, .int .i64 x.f9.f0, .string x.f9.f1.f0, .int .i64 x.f9.f1.f1, .string x.f9.f2.f0, .int .i64 x.f9.f2.f1, .string x.f9.f3.f0, .int .i64 x.f9.f3.f1, .string x.f9.f4.f0, .int .i64 x.f9.f4.f1, .string x.f9.f5, v41] ∧ k42.R 42 w base ok v7 x.f5 ∧ k64.R 64 w base ok v8 x.f6 ∧ k47.R 47 w base ok v19 x.f7.f6 ∧ k47.R 47 w base ok v30 x.f8.f6 ∧ k47.R 47 w base ok v41 x.f9.f6 := by
  obtain ⟨_, _, rfl, rfl, ⟨_, _, rfl, rfl, ⟨_, _, rfl, s2, ⟨_, _, rfl, s4, ⟨_, _, rfl, rfl, ⟨_, _, rfl, ⟨v7, rfl, g7⟩, ⟨_, _, rfl, ⟨v8, rfl, g8⟩, ⟨_, _, rfl, s9, ⟨_, _, rfl, s20, s31⟩⟩⟩⟩⟩⟩⟩⟩⟩ := h
  obtain rfl := k42_openM s2
  obtain rfl := k42_openM s4
  obtain ⟨v19, rfl, g19⟩ := k47_openM s9
  obtain ⟨v30, rfl, g30⟩ := k47_openM s20
  obtain ⟨v41, rfl, g41⟩ := k47_openM s31
  exact ⟨v7, v8, v19, v30, v41, rfl, g7, g8, g19, g30, g41⟩
theorem k49_mk (w : World) (x : S49) {A7 : Option Addr} {c7 : Nat} (l7 : x.f5.length ≤ c7) (g7 : k42.C w A7 x.f5.length x.f5) {A8 : Option Addr} {c8 : Nat} (l8 : x.f6.length ≤ c8) (g8 : k64.C w A8 x.f6.length x.f6) {A19 : Option Addr} {c19 : Nat} (l19 : x.f7.f6.length ≤ c19) (g19 : k47.C w A19 x.f7.f6.length x.f7.f6) {A30 : Option Addr} {c30 : Nat} (l30 : x.f8.f6.length ≤ c30) (g30 : k47.C w A30 x.f8.f6.length x.f8.f6) {A41 : Option Addr} {c41 : Nat} (l41 : x.f9.f6.length ≤ c41) (g41 : k47.C w A41 x.f9.f6.length x.f9.f6) : k49.K w x [.int .i64 x.f0, .string x.f1, .string x.f2.f0, .int .i64 x.f2.f1, .string x.f3.f0, .int .i64 x.f3.f1, .string x.f4, .slice A7 x.f5.length c7, .slice A8 x.f6.length c8, .int .i64 x.f7.f0, .string x.f7.f1.f0, .int .i64 x.f7.f1.f1, .string x.f7.f2.f0, .int .i64 x.f7.f2.f1, .string x.f7.f3.f0, .int .i64 x.f7.f3.f1, .string x.f7.f4.f0, .int .i64 x.f7.f4.f1, .string x.f7.f5, .slice A19 x.f7.f6.length c19, .int .i64 x.f8.f0, .string x.f8.f1.f0, .int .i64 x.f8.f1.f1, .string x.f8.f2.f0, .int .i64 x.f8.f2.f1, .string x.f8.f3.f0, .int .i64 x.f8.f3.f1, .string x.f8.f4.f0, .int .i64 x.f8.f4.f1, .string x.f8.f5, .slice A30 x.f8.f6.length c30, .int .i64 x.f9.f0, .string x.f9.f1.f0, .int .i64 x.f9.f1.f1, .string x.f9.f2.f0, .int .i64 x.f9.f2.f1, .string x.f9.f3.f0, .int .i64 x.f9.f3.f1, .string x.f9.f4.f0, .int .i64 x.f9.f4.f1, .string x.f9.f5, .slice A41 x.f9.f6.length c41] := ⟨[.int .i64 x.f0], [.string x.f1, .string x.f2.f0, .int .i64 x.f2.f1, .string x.f3.f0, .int .i64 x.f3.f1, .string x.f4, .slice A7 x.f5.length c7, .slice A8 x.f6.length c8, .int .i64 x.f7.f0, .string x.f7.f1.f0, .int .i64 x.f7.f1.f1, .string x.f7.f2.f0, .int .i64 x.f7.f2.f1, .string x.f7.f3.f0, .int .i64 x.f7.f3.f1, .string x.f7.f4.f0, .int .i64 x.f7.f4.f1, .string x.f7.f5, .slice A19 x.f7.f6.length c19, .int .i64 x.f8.f0, .string x.f8.f1.f0, .int .i64 x.f8.f1.f1, .string x.f8.f2.f0, .int .i64 x.f8.f2.f1, .string x.f8.f3.f0, .int .i64 x.f8.f3.f1, .string x.f8.f4.f0, .int .i64 x.f8.f4.f1, .string x.f8.f5, .slice A30 x.f8.f6.length c30, .int .i64 x.f9.f0, .string x.f9.f1.f0, .int .i64 x.f9.f1.f1, .string x.f9.f2.f0, .int .i64 x.f9.f2.f1, .string x.f9.f3.f0, .int .i64 x.f9.f3.f1, .string x.f9.f4.f0, .int .i64 x.f9.f4.f1, .string x.f9.f5, .slice A41 x.f9.f6.length c41], rfl, rfl, ⟨[.string x.f1], [.string x.f2.f0, .int .i64 x.f2.f1, .string x.f3.f0, .int .i64 x.f3.f1, .string x.f4, .slice A7 x.f5.length c7, .slice A8 x.f6.length c8, .int .i64 x.f7.f0, .string x.f7.f1.f0, .int .i64 x.f7.f1.f1, .string x.f7.f2.f0, .int .i64 x.f7.f2.f1, .string x.f7.f3.f0, .int .i64 x.f7.f3.f1, .string x.f7.f4.f0, .int .i64 x.f7.f4.f1, .string x.f7.f5, .slice A19 x.f7.f6.length c19, .int .i64 x.f8.f0, .string x.f8.f1.f0, .int .i64 x.f8.f1.f1, .string x.f8.f2.f0, .int .i64 x.f8.f2.f1, .string x.f8.f3.f0, .int .i64 x.f8.f3.f1, .string x.f8.f4.f0, .int .i64 x.f8.f4.f1, .string x.f8.f5, .slice A30 x.f8.f6.length c30, .int .i64 x.f9.f0, .string x.f9.f1.f0, .int .i64 x.f9.f1.f1, .string x.f9.f2.f0, .int .i64 x.f9.f2.f1, .string x.f9.f3.f0, .int .i64 x.f9.f3.f1, .string x.f9.f4.f0, .int .i64 x.f9.f4.f1, .string x.f9.f5, .slice A41 x.f9.f6.length c41], rfl, rfl, ⟨[.string x.f2.f0, .int .i64 x.f2.f1], [.string x.f3.f0, .int .i64 x.f3.f1, .string x.f4, .slice A7 x.f5.length c7, .slice A8 x.f6.length c8, .int .i64 x.f7.f0, .string x.f7.f1.f0, .int .i64 x.f7.f1.f1, .string x.f7.f2.f0, .int .i64 x.f7.f2.f1, .string x.f7.f3.f0, .int .i64 x.f7.f3.f1, .string x.f7.f4.f0, .int .i64 x.f7.f4.f1, .string x.f7.f5, .slice A19 x.f7.f6.length c19, .int .i64 x.f8.f0, .string x.f8.f1.f0, .int .i64 x.f8.f1.f1, .string x.f8.f2.f0, .int .i64 x.f8.f2.f1, .string x.f8.f3.f0, .int .i64 x.f8.f3.f1, .string x.f8.f4.f0, .int .i64 x.f8.f4.f1, .string x.f8.f5, .slice A30 x.f8.f6.length c30, .int .i64 x.f9.f0, .string x.f9.f1.f0, .int .i64 x.f9.f1.f1, .string x.f9.f2.f0, .int .i64 x.f9.f2.f1, .string x.f9.f3.f0, .int .i64 x.f9.f3.f1, .string x.f9.f4.f0, .int .i64 x.f9.f4.f1, .string x.f9.f5, .slice A41 x.f9.f6.length c41], rfl, (k42_mk w x.f2 ), ⟨[.string x.f3.f0, .int .i64 x.f3.f1], [.string x.f4, .slice A7 x.f5.length c7, .slice A8 x.f6.length c8, .int .i64 x.f7.f0, .string x.f7.f1.f0, .int .i64 x.f7.f1.f1, .string x.f7.f2.f0, .int .i64 x.f7.f2.f1, .string x.f7.f3.f0, .int .i64 x.f7.f3.f1, .string x.f7.f4.f0, .int .i64 x.f7.f4.f1, .string x.f7.f5, .slice A19 x.f7.f6.length c19, .int .i64 x.f8.f0, .string x.f8.f1.f0, .int .i64 x.f8.f1.f1, .string x.f8.f2.f0, .int .i64 x.f8.f2.f1, .string x.f8.f3.f0, .int .i64 x.f8.f3.f1, .string x.f8.f4.f0, .int .i64 x.f8.f4.f1, .string x.f8.f5, .slice A30 x.f8.f6.length c30, .int .i64 x.f9.f0, .string x.f9.f1.f0, .int .i64 x.f9.f1.f1, .string x.f9.f2.f0, .int .i64 x.f9.f2.f1, .string x.f9.f3.f0, .int .i64 x.f9.f3.f1, .string x.f9.f4.f0, .int .i64 x.f9.f4.f1, .string x.f9.f5, .slice A41 x.f9.f6.length c41], rfl, (k42_mk w x.f3 ), ⟨[.string x.f4], [.slice A7 x.f5.length c7, .slice A8 x.f6.length c8, .int .i64 x.f7.f0, .string x.f7.f1.f0, .int .i64 x.f7.f1.f1, .string x.f7.f2.f0, .int .i64 x.f7.f2.f1, .string x.f7.f3.f0, .int .i64 x.f7.f3.f1, .string x.f7.f4.f0, .int .i64 x.f7.f4.f1, .string x.f7.f5, .slice A19 x.f7.f6.length c19, .int .i64 x.f8.f0, .string x.f8.f1.f0, .int .i64 x.f8.f1.f1, .string x.f8.f2.f0, .int .i64 x.f8.f2.f1, .string x.f8.f3.f0, .int .i64 x.f8.f3.f1, .string x.f8.f4.f0, .int .i64 x.f8.f4.f1, .string x.f8.f5, .slice A30 x.f8.f6.length c30, .int .i64 x.f9.f0, .string x.f9.f1.f0, .int .i64 x.f9.f1.f1, .string x.f9.f2.f0, .int .i64 x.f9.f2.f1, .string x.f9.f3.f0, .int .i64 x.f9.f3.f1, .string x.f9.f4.f0, .int .i64 x.f9.f4.f1, .string x.f9.f5, .slice A41 x.f9.f6.length c41], rfl, rfl, ⟨[.slice A7 x.f5.length c7], [.slice A8 x.f6.length c8, .int .i64 x.f7.f0, .string x.f7.f1.f0, .int .i64 x.f7.f1.f1, .string x.f7.f2.f0, .int .i64 x.f7.f2.f1, .string x.f7.f3.f0, .int .i64 x.f7.f3.f1, .string x.f7.f4.f0, .int .i64 x.f7.f4.f1, .string x.f7.f5, .slice A19 x.f7.f6.length c19, .int .i64 x.f8.f0, .string x.f8.f1.f0, .int .i64 x.f8.f1.f1, .string x.f8.f2.f0, .int .i64 x.f8.f2.f1, .string x.f8.f3.f0, .int .i64 x.f8.f3.f1, .string x.f8.f4.f0, .int .i64 x.f8.f4.f1, .string x.f8.f5, .slice A30 x.f8.f6.length c30, .int .i64 x.f9.f0, .string x.f9.f1.f0, .int .i64 x.f9.f1.f1, .string x.f9.f2.f0, .int .i64 x.f9.f2.f1, .string x.f9.f3.f0, .int .i64 x.f9.f3.f1, .string x.f9.f4.f0, .int .i64 x.f9.f4.f1, .string x.f9.f5, .slice A41 x.f9.f6.length c41], rfl, ⟨A7, c7, rfl, l7, g7⟩, ⟨[.slice A8 x.f6.length c8], [.int .i64 x.f7.f0, .string x.f7.f1.f0, .int .i64 x.f7.f1.f1, .string x.f7.f2.f0, .int .i64 x.f7.f2.f1, .string x.f7.f3.f0, .int .i64 x.f7.f3.f1, .string x.f7.f4.f0, .int .i64 x.f7.f4.f1, .string x.f7.f5, .slice A19 x.f7.f6.length c19, .int .i64 x.f8.f0, .string x.f8.f1.f0, .int .i64 x.f8.f1.f1, .string x.f8.f2.f0, .int .i64 x.f8.f2.f1, .string x.f8.f3.f0, .int .i64 x.f8.f3.f1, .string x.f8.f4.f0, .int .i64 x.f8.f4.f1, .string x.f8.f5, .slice A30 x.f8.f6.length c30, .int .i64 x.f9.f0, .string x.f9.f1.f0, .int .i64 x.f9.f1.f1, .string x.f9.f2.f0, .int .i64 x.f9.f2.f1, .string x.f9.f3.f0, .int .i64 x.f9.f3.f1, .string x.f9.f4.f0, .int .i64 x.f9.f4.f1, .string x.f9.f5, .slice A41 x.f9.f6.length c41], rfl, ⟨A8, c8, rfl, l8, g8⟩, ⟨[.int .i64 x.f7.f0, .string x.f7.f1.f0, .int .i64 x.f7.f1.f1, .string x.f7.f2.f0, .int .i64 x.f7.f2.f1, .string x.f7.f3.f0, .int .i64 x.f7.f3.f1, .string x.f7.f4.f0, .int .i64 x.f7.f4.f1, .string x.f7.f5, .slice A19 x.f7.f6.length c19], [.int .i64 x.f8.f0, .string x.f8.f1.f0, .int .i64 x.f8.f1.f1, .string x.f8.f2.f0, .int .i64 x.f8.f2.f1, .string x.f8.f3.f0, .int .i64 x.f8.f3.f1, .string x.f8.f4.f0, .int .i64 x.f8.f4.f1, .string x.f8.f5, .slice A30 x.f8.f6.length c30, .int .i64 x.f9.f0, .string x.f9.f1.f0, .int .i64 x.f9.f1.f1, .string x.f9.f2.f0, .int .i64 x.f9.f2.f1, .string x.f9.f3.f0, .int .i64 x.f9.f3.f1, .string x.f9.f4.f0, .int .i64 x.f9.f4.f1, .string x.f9.f5, .slice A41 x.f9.f6.length c41], rfl, (k47_mk w x.f7 l19 g19), ⟨[.int .i64 x.f8.f0, .string x.f8.f1.f0, .int .i64 x.f8.f1.f1, .string x.f8.f2.f0, .int .i64 x.f8.f2.f1, .string x.f8.f3.f0, .int .i64 x.f8.f3.f1, .string x.f8.f4.f0, .int .i64 x.f8.f4.f1, .string x.f8.f5, .slice A30 x.f8.f6.length c30], [.int .i64 x.f9.f0, .string x.f9.f1.f0, .int .i64 x.f9.f1.f1, .string x.f9.f2.f0, .int .i64 x.f9.f2.f1, .string x.f9.f3.f0, .int .i64 x.f9.f3.f1, .string x.f9.f4.f0, .int .i64 x.f9.f4.f1, .string x.f9.f5, .slice A41 x.f9.f6.length c41], rfl, (k47_mk w x.f8 l30 g30), (k47_mk w x.f9 l41 g41)⟩⟩⟩⟩⟩⟩⟩⟩⟩
theorem k49_mkM (w : World) (base : Nat) (ok : Nat → Prop) (x : S49) {v7 : Value} (g7 : k42.R 42 w base ok v7 x.f5) {v8 : Value} (g8 : k64.R 64 w base ok v8 x.f6) {v19 : Value} (g19 : k47.R 47 w base ok v19 x.f7.f6) {v30 : Value} (g30 : k47.R 47 w base ok v30 x.f8.f6) {v41 : Value} (g41 : k47.R 47 w base ok v41 x.f9.f6) : k49.M w base ok x [.int .i64 x.f0, .string x.f1, .string x.f2.f0, .int .i64 x.f2.f1, .string x.f3.f0, .int .i64 x.f3.f1, .string x.f4, v7, v8, .int .i64 x.f7.f0, .string x.f7.f1.f0, .int .i64 x.f7.f1.f1, .string x.f7.f2.f0, .int .i64 x.f7.f2.f1, .string x.f7.f3.f0, .int .i64 x.f7.f3.f1, .string x.f7.f4.f0, .int .i64 x.f7.f4.f1, .string x.f7.f5, v19, .int .i64 x.f8.f0, .string x.f8.f1.f0, .int .i64 x.f8.f1.f1, .string x.f8.f2.f0, .int .i64 x.f8.f2.f1, .string x.f8.f3.f0, .int .i64 x.f8.f3.f1, .string x.f8.f4.f0, .int .i64 x.f8.f4.f1, .string x.f8.f5, v30, .int .i64 x.f9.f0, .string x.f9.f1.f0, .int .i64 x.f9.f1.f1, .string x.f9.f2.f0, .int .i64 x.f9.f2.f1, .string x.f9.f3.f0, .int .i64 x.f9.f3.f1, .string x.f9.f4.f0, .int .i64 x.f9.f4.f1, .string x.f9.f5, v41] := ⟨[.int .i64 x.f0], [.string x.f1, .string x.f2.f0, .int .i64 x.f2.f1, .string x.f3.f0, .int .i64 x.f3.f1, .string x.f4, v7, v8, .int .i64 x.f7.f0, .string x.f7.f1.f0, .int .i64 x.f7.f1.f1, .string x.f7.f2.f0, .int .i64 x.f7.f2.f1, .string x.f7.f3.f0, .int .i64 x.f7.f3.f1, .string x.f7.f4.f0, .int .i64 x.f7.f4.f1, .string x.f7.f5, v19, .int .i64 x.f8.f0, .string x.f8.f1.f0, .int .i64 x.f8.f1.f1, .string x.f8.f2.f0, .int .i64 x.f8.f2.f1, .string x.f8.f3.f0, .int .i64 x.f8.f3.f1, .string x.f8.f4.f0, .int .i64 x.f8.f4.f1, .string x.f8.f5, v30, .int .i64 x.f9.f0, .string x.f9.f1.f0, .int .i64 x.f9.f1.f1, .string x.f9.f2.f0, .int .i64 x.f9.f2.f1, .string x.f9.f3.f0, .int .i64 x.f9.f3.f1, .string x.f9.f4.f0, .int .i64 x.f9.f4.f1, .string x.f9.f5, v41], rfl, rfl, ⟨[.string x.f1], [.string x.f2.f0, .int .i64 x.f2.f1, .string x.f3.f0, .int .i64 x.f3.f1, .string x.f4, v7, v8, .int .i64 x.f7.f0, .string x.f7.f1.f0, .int .i64 x.f7.f1.f1, .string x.f7.f2.f0, .int .i64 x.f7.f2.f1, .string x.f7.f3.f0, .int .i64 x.f7.f3.f1, .string x.f7.f4.f0, .int .i64 x.f7.f4.f1, .string x.f7.f5, v19, .int .i64 x.f8.f0, .string x.f8.f1.f0, .int .i64 x.f8.f1.f1, .string x.f8.f2.f0, .int .i64 x.f8.f2.f1, .string x.f8.f3.f0, .int .i64 x.f8.f3.f1, .string x.f8.f4.f0, .int .i64 x.f8.f4.f1, .string x.f8.f5, v30, .int .i64 x.f9.f0, .string x.f9.f1.f0, .int .i64 x.f9.f1.f1, .string x.f9.f2.f0, .int .i64 x.f9.f2.f1, .string x.f9.f3.f0, .int .i64 x.f9.f3.f1, .string x.f9.f4.f0, .int .i64 x.f9.f4.f1, .string x.f9.f5, v41], rfl, rfl, ⟨[.string x.f2.f0, .int .i64 x.f2.f1], [.string x.f3.f0, .int .i64 x.f3.f1, .string x.f4, v7, v8, .int .i64 x.f7.f0, .string x.f7.f1.f0, .int .i64 x.f7.f1.f1, .string x.f7.f2.f0, .int .i64 x.f7.f2.f1, .string x.f7.f3.f0, .int .i64 x.f7.f3.f1, .string x.f7.f4.f0, .int .i64 x.f7.f4.f1, .string x.f7.f5, v19, .int .i64 x.f8.f0, .string x.f8.f1.f0, .int .i64 x.f8.f1.f1, .string x.f8.f2.f0, .int .i64 x.f8.f2.f1, .string x.f8.f3.f0, .int .i64 x.f8.f3.f1, .string x.f8.f4.f0, .int .i64 x.f8.f4.f1, .string x.f8.f5, v30, .int .i64 x.f9.f0, .string x.f9.f1.f0, .int .i64 x.f9.f1.f1, .string x.f9.f2.f0, .int .i64 x.f9.f2.f1, .string x.f9.f3.f0, .int .i64 x.f9.f3.f1, .string x.f9.f4.f0, .int .i64 x.f9.f4.f1, .string x.f9.f5, v41], rfl, (k42_mkM w base ok x.f2 ), ⟨[.string x.f3.f0, .int .i64 x.f3.f1], [.string x.f4, v7, v8, .int .i64 x.f7.f0, .string x.f7.f1.f0, .int .i64 x.f7.f1.f1, .string x.f7.f2.f0, .int .i64 x.f7.f2.f1, .string x.f7.f3.f0, .int .i64 x.f7.f3.f1, .string x.f7.f4.f0, .int .i64 x.f7.f4.f1, .string x.f7.f5, v19, .int .i64 x.f8.f0, .string x.f8.f1.f0, .int .i64 x.f8.f1.f1, .string x.f8.f2.f0, .int .i64 x.f8.f2.f1, .string x.f8.f3.f0, .int .i64 x.f8.f3.f1, .string x.f8.f4.f0, .int .i64 x.f8.f4.f1, .string x.f8.f5, v30, .int .i64 x.f9.f0, .string x.f9.f1.f0, .int .i64 x.f9.f1.f1, .string x.f9.f2.f0, .int .i64 x.f9.f2.f1, .string x.f9.f3.f0, .int .i64 x.f9.f3.f1, .string x.f9.f4.f0, .int .i64 x.f9.f4.f1, .string x.f9.f5, v41], rfl, (k42_mkM w base ok x.f3 ), ⟨[.string x.f4], [v7, v8, .int .i64 x.f7.f0, .string x.f7.f1.f0, .int .i64 x.f7.f1.f1, .string x.f7.f2.f0, .int .i64 x.f7.f2.f1, .string x.f7.f3.f0, .int .i64 x.f7.f3.f1, .string x.f7.f4.f0, .int .i64 x.f7.f4.f1, .string x.f7.f5, v19, .int .i64 x.f8.f0, .string x.f8.f1.f0, .int .i64 x.f8.f1.f1, .string x.f8.f2.f0, .int .i64 x.f8.f2.f1, .string x.f8.f3.f0, .int .i64 x.f8.f3.f1, .string x.f8.f4.f0, .int .i64 x.f8.f4.f1, .string x.f8.f5, v30, .int .i64 x.f9.f0, .string x.f9.f1.f0, .int .i64 x.f9.f1.f1, .string x.f9.f2.f0, .int .i64 x.f9.f2.f1, .string x.f9.f3.f0, .int .i64 x.f9.f3.f1, .string x.f9.f4.f0, .int .i64 x.f9.f4.f1, .string x.f9.f5, v41], rfl, rfl, ⟨[v7], [v8, .int .i64 x.f7.f0, .string x.f7.f1.f0, .int .i64 x.f7.f1.f1, .string x.f7.f2.f0, .int .i64 x.f7.f2.f1, .string x.f7.f3.f0, .int .i64 x.f7.f3.f1, .string x.f7.f4.f0, .int .i64 x.f7.f4.f1, .string x.f7.f5, v19, .int .i64 x.f8.f0, .string x.f8.f1.f0, .int .i64 x.f8.f1.f1, .string x.f8.f2.f0, .int .i64 x.f8.f2.f1, .string x.f8.f3.f0, .int .i64 x.f8.f3.f1, .string x.f8.f4.f0, .int .i64 x.f8.f4.f1, .string x.f8.f5, v30, .int .i64 x.f9.f0, .string x.f9.f1.f0, .int .i64 x.f9.f1.f1, .string x.f9.f2.f0, .int .i64 x.f9.f2.f1, .string x.f9.f3.f0, .int .i64 x.f9.f3.f1, .string x.f9.f4.f0, .int .i64 x.f9.f4.f1, .string x.f9.f5, v41], rfl, ⟨v7, rfl, g7⟩, ⟨[v8], [.int .i64 x.f7.f0, .string x.f7.f1.f0, .int .i64 x.f7.f1.f1, .string x.f7.f2.f0, .int .i64 x.f7.f2.f1, .string x.f7.f3.f0, .int .i64 x.f7.f3.f1, .string x.f7.f4.f0, .int .i64 x.f7.f4.f1, .string x.f7.f5, v19, .int .i64 x.f8.f0, .string x.f8.f1.f0, .int .i64 x.f8.f1.f1, .string x.f8.f2.f0, .int .i64 x.f8.f2.f1, .string x.f8.f3.f0, .int .i64 x.f8.f3.f1, .string x.f8.f4.f0, .int .i64 x.f8.f4.f1, .string x.f8.f5, v30, .int .i64 x.f9.f0, .string x.f9.f1.f0, .int .i64 x.f9.f1.f1, .string x.f9.f2.f0, .int .i64 x.f9.f2.f1, .string x.f9.f3.f0, .int .i64 x.f9.f3.f1, .string x.f9.f4.f0, .int .i64 x.f9.f4.f1, .string x.f9.f5, v41], rfl, ⟨v8, rfl, g8⟩, ⟨[.int .i64 x.f7.f0, .string x.f7.f1.f0, .int .i64 x.f7.f1.f1, .string x.f7.f2.f0, .int .i64 x.f7.f2.f1, .string x.f7.f3.f0, .int .i64 x.f7.f3.f1, .string x.f7.f4.f0, .int .i64 x.f7.f4.f1, .string x.f7.f5, v19], [.int .i64 x.f8.f0, .string x.f8.f1.f0, .int .i64 x.f8.f1.f1, .string x.f8.f2.f0, .int .i64 x.f8.f2.f1, .string x.f8.f3.f0, .int .i64 x.f8.f3.f1, .string x.f8.f4.f0, .int .i64 x.f8.f4.f1, .string x.f8.f5, v30, .int .i64 x.f9.f0, .string x.f9.f1.f0, .int .i64 x.f9.f1.f1, .string x.f9.f2.f0, .int .i64 x.f9.f2.f1, .string x.f9.f3.f0, .int .i64 x.f9.f3.f1, .string x.f9.f4.f0, .int .i64 x.f9.f4.f1, .string x.f9.f5, v41], rfl, (k47_mkM w base ok x.f7 g19), ⟨[.int .i64 x.f8.f0, .string x.f8.f1.f0, .int .i64 x.f8.f1.f1, .string x.f8.f2.f0, .int .i64 x.f8.f2.f1, .string x.f8.f3.f0, .int .i64 x.f8.f3.f1, .string x.f8.f4.f0, .int .i64 x.f8.f4.f1, .string x.f8.f5, v30], [.int .i64 x.f9.f0, .string x.f9.f1.f0, .int .i64 x.f9.f1.f1, .string x.f9.f2.f0, .int .i64 x.f9.f2.f1, .string x.f9.f3.f0, .int .i64 x.f9.f3.f1, .string x.f9.f4.f0, .int .i64 x.f9.f4.f1, .string x.f9.f5, v41], rfl, (k47_mkM w base ok x.f8 g30), (k47_mkM w base ok x.f9 g41)⟩⟩⟩⟩⟩⟩⟩⟩⟩
theorem k49_openF {W : World} {ok : Nat → Prop} {x : S49} {cs : List Value} (h : Kd.FK k49 W ok x cs) : ∃ A7 c7 A8 c8 A19 c19 A30 c30 A41 c41, cs = [.int .i64 x.f0, .string x.f1, .string x.f2.f0, .int .i64 x.f2.f1, .string x.f3.f0, .int .i64 x.f3.f1, .string x.f4, .slice A7 x.f5.length c7, .slice A8 x.f6.length c8, .int .i64 x.f7.f0, .string x.f7.f1.f0, .int .i64 x.f7.f1.f1, .string x.f7.f2.f0, .int .i64 x.f7.f2.f1, .string x.f7.f3.f0, .int .i64 x.f7.f3.f1, .string x.f7.f4.f0, .int .i64 x.f7.f4.f1, .string x.f7.f5, .slice A19 x.f7.f6.length c19, .int .i64 x.f8.f0, .string x.f8.f1.f0, .int .i64 x.f8.f1.f1, .string x.f8.f2.f0, .int .i64 x.f8.f2.f1, .string x.f8.f3.f0, .int .i64 x.f8.f3.f1, .string x.f8.f4.f0, .int .i64 x.f8.f4.f1, .string x.f8.f5, .slice A30 x.f8.f6.length c30, .int .i64 x.f9.f0, .string x.f9.f1.f0, .int .i64 x.f9.f1.f1, .string x.f9.f2.f0, .int .i64 x.f9.f2.f1, .string x.f9.f3.f0, .int .i64 x.f9.f3.f1, .string x.f9.f4.f0, .int .i64 x.f9.f4.f1, .string x.f9.f5, .slice A41 x.f9.f6.length c41] ∧ x.f5.length ≤ c7 ∧ Kd.F k42 W ok A7 x.f5.length x.f5 ∧ x.f6.length ≤ c8 ∧ Kd.F k64 W ok A8 x.f6.length x.f6 ∧ x.f7.f6.length ≤ c19 ∧ Kd.F k47 W ok A19 x.f7.f6.length x.f7.f6 ∧ x.f8.f6.length ≤ c30 ∧ Kd.F k47 W ok A30 x.f8.f6.length x.f8.f6 ∧ x.f9.f6.length ≤ c41 ∧ Kd.F k47 W ok A41 x.f9.f6.length x.f9.f6 := by
  obtain ⟨A7, c7, A8, c8, A19, c19, A30, c30, A41, c41, rfl, l7, _, l8, _, l19, _, l30, _, l41, _⟩ := k49_open (Kd.FK_now h)
  exact ⟨A7, c7, A8, c8, A19, c19, A30, c30, A41, c41, rfl, l7, (fun W' hW => by obtain ⟨A7_, c7_, A8_, c8_, A19_, c19_, A30_, c30_, A41_, c41_, he, l7_, g7_, l8_, g8_, l19_, g19_, l30_, g30_, l41_, g41_⟩ := k49_open (h W' hW); injection (Option.some.inj (show some (Value.slice A7 x.f5.length c7) = some (Value.slice A7_ x.f5.length c7_) from congrArg (fun l => l[7]?) he)) with ha_ _ _; rw [ha_]; exact g7_), l8, (fun W' hW => by obtain ⟨A7_, c7_, A8_, c8_, A19_, c19_, A30_, c30_, A41_, c41_, he, l7_, g7_, l8_, g8_, l19_, g19_, l30_, g30_, l41_, g41_⟩ := k49_open (h W' hW); injection (Option.some.inj (show some (Value.slice A8 x.f6.length c8) = some (Value.slice A8_ x.f6.length c8_) from congrArg (fun l => l[8]?) he)) with ha_ _ _; rw [ha_]; exact g8_), l19, (fun W' hW => by obtain ⟨A7_, c7_, A8_, c8_, A19_, c19_, A30_, c30_, A41_, c41_, he, l7_, g7_, l8_, g8_, l19_, g19_, l30_, g30_, l41_, g41_⟩ := k49_open (h W' hW); injection (Option.some.inj (show some (Value.slice A19 x.f7.f6.length c19) = some (Value.slice A19_ x.f7.f6.length c19_) from congrArg (fun l => l[19]?) he)) with ha_ _ _; rw [ha_]; exact g19_), l30, (fun W' hW => by obtain ⟨A7_, c7_, A8_, c8_, A19_, c19_, A30_, c30_, A41_, c41_, he, l7_, g7_, l8_, g8_, l19_, g19_, l30_, g30_, l41_, g41_⟩ := k49_open (h W' hW); injection (Option.some.inj (show some (Value.slice A30 x.f8.f6.length c30) = some (Value.slice A30_ x.f8.f6.length c30_) from congrArg (fun l => l[30]?) he)) with ha_ _ _; rw [ha_]; exact g30_), l41, (fun W' hW => by obtain ⟨A7_, c7_, A8_, c8_, A19_, c19_, A30_, c30_, A41_, c41_, he, l7_, g7_, l8_, g8_, l19_, g19_, l30_, g30_, l41_, g41_⟩ := k49_open (h W' hW); injection (Option.some.inj (show some (Value.slice A41 x.f9.f6.length c41) = some (Value.slice A41_ x.f9.f6.length c41_) from congrArg (fun l => l[41]?) he)) with ha_ _ _; rw [ha_]; exact g41_)⟩
theorem k49_mkF (W : World) (ok : Nat → Prop) (x : S49) {A7 : Option Addr} {c7 : Nat} (l7 : x.f5.length ≤ c7) (g7 : Kd.F k42 W ok A7 x.f5.length x.f5) {A8 : Option Addr} {c8 : Nat} (l8 : x.f6.length ≤ c8) (g8 : Kd.F k64 W ok A8 x.f6.length x.f6) {A19 : Option Addr} {c19 : Nat} (l19 : x.f7.f6.length ≤ c19) (g19 : Kd.F k47 W ok A19 x.f7.f6.length x.f7.f6) {A30 : Option Addr} {c30 : Nat} (l30 : x.f8.f6.length ≤ c30) (g30 : Kd.F k47 W ok A30 x.f8.f6.length x.f8.f6) {A41 : Option Addr} {c41 : Nat} (l41 : x.f9.f6.length ≤ c41) (g41 : Kd.F k47 W ok A41 x.f9.f6.length x.f9.f6) : Kd.FK k49 W ok x [.int .i64 x.f0, .string x.f1, .string x.f2.f0, .int .i64 x.f2.f1, .string x.f3.f0, .int .i64 x.f3.f1, .string x.f4, .slice A7 x.f5.length c7, .slice A8 x.f6.length c8, .int .i64 x.f7.f0, .string x.f7.f1.f0, .int .i64 x.f7.f1.f1, .string x.f7.f2.f0, .int .i64 x.f7.f2.f1, .string x.f7.f3.f0, .int .i64 x.f7.f3.f1, .string x.f7.f4.f0, .int .i64 x.f7.f4.f1, .string x.f7.f5, .slice A19 x.f7.f6.length c19, .int .i64 x.f8.f0, .string x.f8.f1.f0, .int .i64 x.f8.f1.f1, .string x.f8.f2.f0, .int .i64 x.f8.f2.f1, .string x.f8.f3.f0, .int .i64 x.f8.f3.f1, .string x.f8.f4.f0, .int .i64 x.f8.f4.f1, .string x.f8.f5, .slice A30 x.f8.f6.length c30, .int .i64 x.f9.f0, .string x.f9.f1.f0, .int .i64 x.f9.f1.f1, .string x.f9.f2.f0, .int .i64 x.f9.f2.f1, .string x.f9.f3.f0, .int .i64 x.f9.f3.f1, .string x.f9.f4.f0, .int .i64 x.f9.f4.f1, .string x.f9.f5, .slice A41 x.f9.f6.length c41] := fun W2 hW => k49_mk W2 x l7 (g7 W2 hW) l8 (g8 W2 hW) l19 (g19 W2 hW) l30 (g30 W2 hW) l41 (g41 W2 hW)
def rd_T49 (xs : List S49) (i : Int) : S49 := xs.getD i.toNat z49
theorem at_T49 {w : World} {A : Option Addr} {n : Nat} {xs : List S49} (h : Kd.C k49 w A n xs) (i : Int) (h0 : 0 ≤ i) (h1 : i < n) : ∃ ad A7 c7 A8 c8 A19 c19 A30 c30 A41 c41, A = some ad ∧ w.cell? (ad.add (i.toNat * 42)) = some (.int .i64 (rd_T49 xs i).f0) ∧ w.cell? ⟨(ad.add (i.toNat * 42)).block, (ad.add (i.toNat * 42)).off + 1, none⟩ = some (.string (rd_T49 xs i).f1) ∧ w.cell? ⟨(ad.add (i.toNat * 42)).block, (ad.add (i.toNat * 42)).off + 2, none⟩ = some (.string (rd_T49 xs i).f2.f0) ∧ w.cell? ⟨(ad.add (i.toNat * 42)).block, (ad.add (i.toNat * 42)).off + 3, none⟩ = some (.int .i64 (rd_T49 xs i).f2.f1) ∧ w.cell? ⟨(ad.add (i.toNat * 42)).block, (ad.add (i.toNat * 42)).off + 4, none⟩ = some (.string (rd_T49 xs i).f3.f0) ∧ w.cell? ⟨(ad.add (i.toNat * 42)).block, (ad.add (i.toNat * 42)).off + 5, none⟩ = some (.int .i64 (rd_T49 xs i).f3.f1) ∧ w.cell? ⟨(ad.add (i.toNat * 42)).block, (ad.add (i.toNat * 42)).off + 6, none⟩ = some (.string (rd_T49 xs i).f4) ∧ w.cell? ⟨(ad.add (i.toNat * 42)).block, (ad.add (i.toNat * 42)).off + 7, none⟩ = some (.slice A7 (rd_T49 xs i).f5.length c7) ∧ w.cell? ⟨(ad.add (i.toNat * 42)).block, (ad.add (i.toNat * 42)).off + 8, none⟩ = some (.slice A8 (rd_T49 xs i).f6.length c8) ∧ w.cell? ⟨(ad.add (i.toNat * 42)).block, (ad.add (i.toNat * 42)).off + 9, none⟩ = some (.int .i64 (rd_T49 xs i).f7.f0) ∧ w.cell? ⟨(ad.add (i.toNat * 42)).block, (ad.add (i.toNat * 42)).off + 10, none⟩ = some (.string (rd_T49 xs i).f7.f1.f0) ∧ w.cell? ⟨(ad.add (i.toNat * 42)).block, (ad.add (i.toNat * 42)).off + 11, none⟩ = some (.int .i64 (rd_T49 xs i).f7.f1.f1) ∧ w.cell? ⟨(ad.add (i.toNat * 42)).block, (ad.add (i.toNat * 42)).off + 12, none⟩ = some (.string (rd_T49 xs i).f7.f2.f0) ∧ w.cell? ⟨(ad.add (i.toNat * 42)).block, (ad.add (i.toNat * 42)).off + 13, none⟩ = some (.int .i64 (rd_T49 xs i).f7.f2.f1) ∧ w.cell? ⟨(ad.add (i.toNat * 42)).block, (ad.add (i.toNat * 42)).off + 14, none⟩ = some (.string (rd_T49 xs i).f7.f3.f0) ∧ w.cell? ⟨(ad.add (i.toNat * 42)).block, (ad.add (i.toNat * 42)).off + 15, none⟩ = some (.int .i64 (rd_T49 xs i).f7.f3.f1) ∧ w.cell? ⟨(ad.add (i.toNat * 42)).block, (ad.add (i.toNat * 42)).off + 16, none⟩ = some (.string (rd_T49 xs i).f7.f4.f0) ∧ w.cell? ⟨(ad.add (i.toNat * 42)).block, (ad.add (i.toNat * 42)).off + 17, none⟩ = some (.int .i64 (rd_T49 xs i).f7.f4.f1) ∧ w.cell? ⟨(ad.add (i.toNat * 42)).block, (ad.add (i.toNat * 42)).off + 18, none⟩ = some (.string (rd_T49 xs i).f7.f5) ∧ w.cell? ⟨(ad.add (i.toNat * 42)).block, (ad.add (i.toNat * 42)).off + 19, none⟩ = some (.slice A19 (rd_T49 xs i).f7.f6.length c19) ∧ w.cell? ⟨(ad.add (i.toNat * 42)).block, (ad.add (i.toNat * 42)).off + 20, none⟩ = some (.int .i64 (rd_T49 xs i).f8.f0) ∧ w.cell? ⟨(ad.add (i.toNat * 42)).block, (ad.add (i.toNat * 42)).off + 21, none⟩ = some (.string (rd_T49 xs i).f8.f1.f0) ∧ w.cell? ⟨(ad.add (i.toNat * 42)).block, (ad.add (i.toNat * 42)).off + 22, none⟩ = some (.int .i64 (rd_T49 xs i).f8.f1.f1) ∧ w.cell? ⟨(ad.add (i.toNat * 42)).block, (ad.add (i.toNat * 42)).off + 23, none⟩ = some (.string (rd_T49 xs i).f8.f2.f0) ∧ w.cell? ⟨(ad.add (i.toNat * 42)).block, (ad.add (i.toNat * 42)).off + 24, none⟩ = some (.int .i64 (rd_T49 xs i).f8.f2.f1) ∧ w.cell? ⟨(ad.add (i.toNat * 42)).block, (ad.add (i.toNat * 42)).off + 25, none⟩ = some (.string (rd_T49 xs i).f8.f3.f0) ∧ w.cell? ⟨(ad.add (i.toNat * 42)).block, (ad.add (i.toNat * 42)).off + 26, none⟩ = some (.int .i64 (rd_T49 xs i).f8.f3.f1) ∧ w.cell? ⟨(ad.add (i.toNat * 42)).block, (ad.add (i.toNat * 42)).off + 27, none⟩ = some (.string (rd_T49 xs i).f8.f4.f0) ∧ w.cell? ⟨(ad.add (i.toNat * 42)).block, (ad.add (i.toNat * 42)).off + 28, none⟩ = some (.int .i64 (rd_T49 xs i).f8.f4.f1) ∧ w.cell? ⟨(ad.add (i.toNat * 42)).block, (ad.add (i.toNat * 42)).off + 29, none⟩ = some (.string (rd_T49 xs i).f8.f5) ∧ w.cell? ⟨(ad.add (i.toNat * 42)).block, (ad.add (i.toNat * 42)).off + 30, none⟩ = some (.slice A30 (rd_T49 xs i).f8.f6.length c30) ∧ w.cell? ⟨(ad.add (i.toNat * 42)).block, (ad.add (i.toNat * 42)).off + 31, none⟩ = some (.int .i64 (rd_T49 xs i).f9.f0) ∧ w.cell? ⟨(ad.add (i.toNat * 42)).block, (ad.add (i.toNat * 42)).off + 32, none⟩ = some (.string (rd_T49 xs i).f9.f1.f0) ∧ w.cell? ⟨(ad.add (i.toNat * 42)).block, (ad.add (i.toNat * 42)).off + 33, none⟩ = some (.int .i64 (rd_T49 xs i).f9.f1.f1) ∧ w.cell? ⟨(ad.add (i.toNat * 42)).block, (ad.add (i.toNat * 42)).off + 34, none⟩ = some (.string (rd_T49 xs i).f9.f2.f0) ∧ w.cell? ⟨(ad.add (i.toNat * 42)).block, (ad.add (i.toNat * 42)).off + 35, none⟩ = some (.int .i64 (rd_T49 xs i).f9.f2.f1) ∧ w.cell? ⟨(ad.add (i.toNat * 42)).block, (ad.add (i.toNat * 42)).off + 36, none⟩ = some (.string (rd_T49 xs i).f9.f3.f0) ∧ w.cell? ⟨(ad.add (i.toNat * 42)).block, (ad.add (i.toNat * 42)).off + 37, none⟩ = some (.int .i64 (rd_T49 xs i).f9.f3.f1) ∧ w.cell? ⟨(ad.add (i.toNat * 42)).block, (ad.add (i.toNat * 42)).off + 38, none⟩ = some (.string (rd_T49 xs i).f9.f4.f0) ∧ w.cell? ⟨(ad.add (i.toNat * 42)).block, (ad.add (i.toNat * 42)).off + 39, none⟩ = some (.int .i64 (rd_T49 xs i).f9.f4.f1) ∧ w.cell? ⟨(ad.add (i.toNat * 42)).block, (ad.add (i.toNat * 42)).off + 40, none⟩ = some (.string (rd_T49 xs i).f9.f5) ∧ w.cell? ⟨(ad.add (i.toNat * 42)).block, (ad.add (i.toNat * 42)).off + 41, none⟩ = some (.slice A41 (rd_T49 xs i).f9.f6.length c41) ∧ (rd_T49 xs i).f5.length ≤ c7 ∧ k42.C w A7 (rd_T49 xs i).f5.length (rd_T49 xs i).f5 ∧ (rd_T49 xs i).f6.length ≤ c8 ∧ k64.C w A8 (rd_T49 xs i).f6.length (rd_T49 xs i).f6 ∧ (rd_T49 xs i).f7.f6.length ≤ c19 ∧ k47.C w A19 (rd_T49 xs i).f7.f6.length (rd_T49 xs i).f7.f6 ∧ (rd_T49 xs i).f8.f6.length ≤ c30 ∧ k47.C w A30 (rd_T49 xs i).f8.f6.length (rd_T49 xs i).f8.f6 ∧ (rd_T49 xs i).f9.f6.length ≤ c41 ∧ k47.C w A41 (rd_T49 xs i).f9.f6.length (rd_T49 xs i).f9.f6 := by
  obtain ⟨ad, c, e, _, hK, hc0⟩ := Kd.C_get h z49 i h0 h1
  have hc : ∀ j u, c[j]? = some u → w.cell? (ad.add (i.toNat * 42 + j)) = some u := hc0
  obtain ⟨A7, c7, A8, c8, A19, c19, A30, c30, A41, c41, rfl, l7, g7, l8, g8, l19, g19, l30, g30, l41, g41⟩ := k49_open hK
  exact ⟨ad, A7, c7, A8, c8, A19, c19, A30, c30, A41, c41, e, hc 0 _ rfl, by rw [← add_field _ _ 1 (by omega)]; exact hc 1 _ rfl, by rw [← add_field _ _ 2 (by omega)]; exact hc 2 _ rfl, by rw [← add_field _ _ 3 (by omega)]; exact hc 3 _ rfl, by rw [← add_field _ _ 4 (by omega)]; exact hc 4 _ rfl, by rw [← add_field _ _ 5 (by omega)]; exact hc 5 _ rfl, by rw [← add_field _ _ 6 (by omega)]; exact hc 6 _ rfl, by rw [← add_field _ _ 7 (by omega)]; exact hc 7 _ rfl, by rw [← add_field _ _ 8 (by omega)]; exact hc 8 _ rfl, by rw [← add_field _ _ 9 (by omega)]; exact hc 9 _ rfl, by rw [← add_field _ _ 10 (by omega)]; exact hc 10 _ rfl, by rw [← add_field _ _ 11 (by omega)]; exact hc 11 _ rfl, by rw [← add_field _ _ 12 (by omega)]; exact hc 12 _ rfl, by rw [← add_field _ _ 13 (by omega)]; exact hc 13 _ rfl, by rw [← add_field _ _ 14 (by omega)]; exact hc 14 _ rfl, by rw [← add_field _ _ 15 (by omega)]; exact hc 15 _ rfl, by rw [← add_field _ _ 16 (by omega)]; exact hc 16 _ rfl, by rw [← add_field _ _ 17 (by omega)]; exact hc 17 _ rfl, by rw [← add_field _ _ 18 (by omega)]; exact hc 18 _ rfl, by rw [← add_field _ _ 19 (by omega)]; exact hc 19 _ rfl, by rw [← add_field _ _ 20 (by omega)]; exact hc 20 _ rfl, by rw [← add_field _ _ 21 (by omega)]; exact hc 21 _ rfl, by rw [← add_field _ _ 22 (by omega)]; exact hc 22 _ rfl, by rw [← add_field _ _ 23 (by omega)]; exact hc 23 _ rfl, by rw [← add_field _ _ 24 (by omega)]; exact hc 24 _ rfl, by rw [← add_field _ _ 25 (by omega)]; exact hc 25 _ rfl, by rw [← add_field _ _ 26 (by omega)]; exact hc 26 _ rfl, by rw [← add_field _ _ 27 (by omega)]; exact hc 27 _ rfl, by rw [← add_field _ _ 28 (by omega)]; exact hc 28 _ rfl, by rw [← add_field _ _ 29 (by omega)]; exact hc 29 _ rfl, by rw [← add_field _ _ 30 (by omega)]; exact hc 30 _ rfl, by rw [← add_field _ _ 31 (by omega)]; exact hc 31 _ rfl, by rw [← add_field _ _ 32 (by omega)]; exact hc 32 _ rfl, by rw [← add_field _ _ 33 (by omega)]; exact hc 33 _ rfl, by rw [← add_field _ _ 34 (by omega)]; exact hc 34 _ rfl, by rw [← add_field _ _ 35 (by omega)]; exact hc 35 _ rfl, by rw [← add_field _ _ 36 (by omega)]; exact hc 36 _ rfl, by rw [← add_field _ _ 37 (by omega)]; exact hc 37 _ rfl, by rw [← add_field _ _ 38 (by omega)]; exact hc 38 _ rfl, by rw [← add_field _ _ 39 (by omega)]; exact hc 39 _ rfl, by rw [← add_field _ _ 40 (by omega)]; exact hc 40 _ rfl, by rw [← add_field _ _ 41 (by omega)]; exact hc 41 _ rfl, l7, g7, l8, g8, l19, g19, l30, g30, l41, g41⟩

def rd_L12 (xs : List (List S59)) (i : Int) : (List S59) := xs.getD i.toNat ([] : List S59)
theorem at_L12 {w : World} {A : Option Addr} {n : Nat} {xs : List (List S59)} (h : Kd.C (Kd.slice 59 k59) w A n xs) (i : Int) (h0 : 0 ≤ i) (h1 : i < n) : ∃ ad A0 c0, A = some ad ∧ w.cell? (ad.add i.toNat) = some (.slice A0 (rd_L12 xs i).length c0) ∧ (rd_L12 xs i).length ≤ c0 ∧ k59.C w A0 (rd_L12 xs i).length (rd_L12 xs i) := by
  obtain ⟨ad, c, e, _, hK, hc0⟩ := Kd.C_get h ([] : List S59) i h0 h1
  have hc : ∀ j u, c[j]? = some u → w.cell? (ad.add (i.toNat * 1 + j)) = some u := hc0
  obtain ⟨A0, c0, rfl, l0, g0⟩ := hK
  exact ⟨ad, A0, c0, e, by have hq := hc 0 _ rfl; rwa [Nat.mul_one, Nat.add_zero] at hq, l0, g0⟩

def rd_L13 (xs : List (List S49)) (i : Int) : (List S49) := xs.getD i.toNat ([] : List S49)
theorem at_L13 {w : World} {A : Option Addr} {n : Nat} {xs : List (List S49)} (h : Kd.C (Kd.slice 49 k49) w A n xs) (i : Int) (h0 : 0 ≤ i) (h1 : i < n) : ∃ ad A0 c0, A = some ad ∧ w.cell? (ad.add i.toNat) = some (.slice A0 (rd_L13 xs i).length c0) ∧ (rd_L13 xs i).length ≤ c0 ∧ k49.C w A0 (rd_L13 xs i).length (rd_L13 xs i) := by
  obtain ⟨ad, c, e, _, hK, hc0⟩ := Kd.C_get h ([] : List S49) i h0 h1
  have hc : ∀ j u, c[j]? = some u → w.cell? (ad.add (i.toNat * 1 + j)) = some u := hc0
  obtain ⟨A0, c0, rfl, l0, g0⟩ := hK
  exact ⟨ad, A0, c0, e, by have hq := hc 0 _ rfl; rwa [Nat.mul_one, Nat.add_zero] at hq, l0, g0⟩

/-! #### struct type 34 -/
structure S34 where
  f0 : ByteArray
  f1 : (List ByteArray)
  f2 : (List S59)
  f3 : (List S49)
def z34 : S34 := ⟨(⟨#[]⟩ : ByteArray), ([] : List ByteArray), ([] : List S59), ([] : List S49)⟩
def k34 : Kd S34 := Kd.iso (Kd.pair Kd.string (Kd.pair (Kd.slice 9 Kd.string) (Kd.pair (Kd.slice 59 k59) (Kd.slice 49 k49)))) (fun x : S34 => (x.f0, x.f1, x.f2, x.f3))
theorem k34_heap : Kd.Heap k34 := Kd.heap_iso _ (Kd.heap_pair Kd.heap_string (Kd.heap_pair (Kd.heap_slice 9 Kd.heap_string) (Kd.heap_pair (Kd.heap_slice 59 k59_heap) (Kd.heap_slice 49 k49_heap))))
theorem k34_open {w : World} {x : S34} {cs : List Value} (h : k34.K w x cs) : ∃ A1 c1 A2 c2 A3 c3, cs = [.string x.f0, .slice A1 x.f1.length c1, .slice A2 x.f2.length c2, .slice A3 x.f3.length c3] ∧ x.f1.length ≤ c1 ∧ Kd.string.C w A1 x.f1.length x.f1 ∧ x.f2.length ≤ c2 ∧ k59.C w A2 x.f2.length x.f2 ∧ x.f3.length ≤ c3 ∧ k49.C w A3 x.f3.length x.f3 := by
  obtain ⟨_, _, rfl, rfl, ⟨_, _, rfl, ⟨A1, c1, rfl, l1, g1⟩, ⟨_, _, rfl, ⟨A2, c2, rfl, l2, g2⟩, ⟨A3, c3, rfl, l3, g3⟩⟩⟩⟩ := h
  exact ⟨A1, c1, A2, c2, A3, c3, rfl, l1, g1, l2, g2, l3, g3⟩
theorem k34_openM {w : World} {base : Nat} {ok : Nat → Prop} {x : S34} {cs : List Value} (h : k34.M w base ok x cs) : ∃ v1 v2 v3, cs = [.string x.f0, v1, v2, v3] ∧ Kd.string.R 9 w base ok v1 x.f1 ∧ k59.R 59 w base ok v2 x.f2 ∧ k49.R 49 w base ok v3 x.f3 := by
  obtain ⟨_, _, rfl, rfl, ⟨_, _, rfl, ⟨v1, rfl, g1⟩, ⟨_, _, rfl, ⟨v2, rfl, g2⟩, ⟨v3, rfl, g3⟩⟩⟩⟩ := h
  exact ⟨v1, v2, v3, rfl, g1, g2, g3⟩
theorem k34_mk (w : World) (x : S34) {A1 : Option Addr} {c1 : Nat} (l1 : x.f1.length ≤ c1) (g1 : Kd.string.C w A1 x.f1.length x.f1) {A2 : Option Addr} {c2 : Nat} (l2 : x.f2.length ≤ c2) (g2 : k59.C w A2 x.f2.length x.f2) {A3 : Option Addr} {c3 : Nat} (l3 : x.f3.length ≤ c3) (g3 : k49.C w A3 x.f3.length x.f3) : k34.K w x [.string x.f0, .slice A1 x.f1.length c1, .slice A2 x.f2.length c2, .slice A3 x.f3.length c3] := ⟨[.string x.f0], [.slice A1 x.f1.length c1, .slice A2 x.f2.length c2, .slice A3 x.f3.length c3], rfl, rfl, ⟨[.slice A1 x.f1.length c1], [.slice A2 x.f2.length c2, .slice A3 x.f3.length c3], rfl, ⟨A1, c1, rfl, l1, g1⟩, ⟨[.slice A2 x.f2.length c2], [.slice A3 x.f3.length c3], rfl, ⟨A2, c2, rfl, l2, g2⟩, ⟨A3, c3, rfl, l3, g3⟩⟩⟩⟩
theorem k34_mkM (w : World) (base : Nat) (ok : Nat → Prop) (x : S34) {v1 : Value} (g1 : Kd.string.R 9 w base ok v1 x.f1) {v2 : Value} (g2 : k59.R 59 w base ok v2 x.f2) {v3 : Value} (g3 : k49.R 49 w base ok v3 x.f3) : k34.M w base ok x [.string x.f0, v1, v2, v3] := ⟨[.string x.f0], [v1, v2, v3], rfl, rfl, ⟨[v1], [v2, v3], rfl, ⟨v1, rfl, g1⟩, ⟨[v2], [v3], rfl, ⟨v2, rfl, g2⟩, ⟨v3, rfl, g3⟩⟩⟩⟩
theorem k34_openF {W : World} {ok : Nat → Prop} {x : S34} {cs : List Value} (h : Kd.FK k34 W ok x cs) : ∃ A1 c1 A2 c2 A3 c3, cs = [.string x.f0, .slice A1 x.f1.length c1, .slice A2 x.f2.length c2, .slice A3 x.f3.length c3] ∧ x.f1.length ≤ c1 ∧ Kd.F Kd.string W ok A1 x.f1.length x.f1 ∧ x.f2.length ≤ c2 ∧ Kd.F k59 W ok A2 x.f2.length x.f2 ∧ x.f3.length ≤ c3 ∧ Kd.F k49 W ok A3 x.f3.length x.f3 := by
  obtain ⟨A1, c1, A2, c2, A3, c3, rfl, l1, _, l2, _, l3, _⟩ := k34_open (Kd.FK_now h)
  exact ⟨A1, c1, A2, c2, A3, c3, rfl, l1, (fun W' hW => by obtain ⟨A1_, c1_, A2_, c2_, A3_, c3_, he, l1_, g1_, l2_, g2_, l3_, g3_⟩ := k34_open (h W' hW); injection (Option.some.inj (show some (Value.slice A1 x.f1.length c1) = some (Value.slice A1_ x.f1.length c1_) from congrArg (fun l => l[1]?) he)) with ha_ _ _; rw [ha_]; exact g1_), l2, (fun W' hW => by obtain ⟨A1_, c1_, A2_, c2_, A3_, c3_, he, l1_, g1_, l2_, g2_, l3_, g3_⟩ := k34_open (h W' hW); injection (Option.some.inj (show some (Value.slice A2 x.f2.length c2) = some (Value.slice A2_ x.f2.length c2_) from congrArg (fun l => l[2]?) he)) with ha_ _ _; rw [ha_]; exact g2_), l3, (fun W' hW => by obtain ⟨A1_, c1_, A2_, c2_, A3_, c3_, he, l1_, g1_, l2_, g2_, l3_, g3_⟩ := k34_open (h W' hW); injection (Option.some.inj (show some (Value.slice A3 x.f3.length c3) = some (Value.slice A3_ x.f3.length c3_) from congrArg (fun l => l[3]?) he)) with ha_ _ _; rw [ha_]; exact g3_)⟩
theorem k34_mkF (W : World) (ok : Nat → Prop) (x : S34) {A1 : Option Addr} {c1 : Nat} (l1 : x.f1.length ≤ c1) (g1 : Kd.F Kd.string W ok A1 x.f1.length x.f1) {A2 : Option Addr} {c2 : Nat} (l2 : x.f2.length ≤ c2) (g2 : Kd.F k59 W ok A2 x.f2.length x.f2) {A3 : Option Addr} {c3 : Nat} (l3 : x.f3.length ≤ c3) (g3 : Kd.F k49 W ok A3 x.f3.length x.f3) : Kd.FK k34 W ok x [.string x.f0, .slice A1 x.f1.length c1, .slice A2 x.f2.length c2, .slice A3 x.f3.length c3] := fun W2 hW => k34_mk W2 x l1 (g1 W2 hW) l2 (g2 W2 hW) l3 (g3 W2 hW)
def rd_T34 (xs : List S34) (i : Int) : S34 := xs.getD i.toNat z34
theorem at_T34 {w : World} {A : Option Addr} {n : Nat} {xs : List S34} (h : Kd.C k34 w A n xs) (i : Int) (h0 : 0 ≤ i) (h1 : i < n) : ∃ ad A1 c1 A2 c2 A3 c3, A = some ad ∧ w.cell? (ad.add (i.toNat * 4)) = some (.string (rd_T34 xs i).f0) ∧ w.cell? ⟨(ad.add (i.toNat * 4)).block, (ad.add (i.toNat * 4)).off + 1, none⟩ = some (.slice A1 (rd_T34 xs i).f1.length c1) ∧ w.cell? ⟨(ad.add (i.toNat * 4)).block, (ad.add (i.toNat * 4)).off + 2, none⟩ = some (.slice A2 (rd_T34 xs i).f2.length c2) ∧ w.cell? ⟨(ad.add (i.toNat * 4)).block, (ad.add (i.toNat * 4)).off + 3, none⟩ = some (.slice A3 (rd_T34 xs i).f3.length c3) ∧ (rd_T34 xs i).f1.length ≤ c1 ∧ Kd.string.C w A1 (rd_T34 xs i).f1.length (rd_T34 xs i).f1 ∧ (rd_T34 xs i).f2.length ≤ c2 ∧ k59.C w A2 (rd_T34 xs i).f2.length (rd_T34 xs i).f2 ∧ (rd_T34 xs i).f3.length ≤ c3 ∧ k49.C w A3 (rd_T34 xs i).f3.length (rd_T34 xs i).f3 := by
  obtain ⟨ad, c, e, _, hK, hc0⟩ := Kd.C_get h z34 i h0 h1
  have hc : ∀ j u, c[j]? = some u → w.cell? (ad.add (i.toNat * 4 + j)) = some u := hc0
  obtain ⟨A1, c1, A2, c2, A3, c3, rfl, l1, g1, l2, g2, l3, g3⟩ := k34_open hK
  exact ⟨ad, A1, c1, A2, c2, A3, c3, e, hc 0 _ rfl, by rw [← add_field _ _ 1 (by omega)]; exact hc 1 _ rfl, by rw [← add_field _ _ 2 (by omega)]; exact hc 2 _ rfl, by rw [← add_field _ _ 3 (by omega)]; exact hc 3 _ rfl, l1, g1, l2, g2, l3, g3⟩

def rd_L15 (xs : List (List S34)) (i : Int) : (List S34) := xs.getD i.toNat ([] : List S34)
theorem at_L15 {w : World} {A : Option Addr} {n : Nat} {xs : List (List S34)} (h : Kd.C (Kd.slice 34 k34) w A n xs) (i : Int) (h0 : 0 ≤ i) (h1 : i < n) : ∃ ad A0 c0, A = some ad ∧ w.cell? (ad.add i.toNat) = some (.slice A0 (rd_L15 xs i).length c0) ∧ (rd_L15 xs i).length ≤ c0 ∧ k34.C w A0 (rd_L15 xs i).length (rd_L15 xs i) := by
  obtain ⟨ad, c, e, _, hK, hc0⟩ := Kd.C_get h ([] : List S34) i h0 h1
  have hc : ∀ j u, c[j]? = some u → w.cell? (ad.add (i.toNat * 1 + j)) = some u := hc0
  obtain ⟨A0, c0, rfl, l0, g0⟩ := hK
  exact ⟨ad, A0, c0, e, by have hq := hc 0 _ rfl; rwa [Nat.mul_one, Nat.add_zero] at hq, l0, g0⟩

/-! #### struct type 24 -/
structure S24 where
  f0 : (List S34)
def z24 : S24 := ⟨([] : List S34)⟩
def k24 : Kd S24 := Kd.iso (Kd.slice 34 k34) (fun x : S24 => x.f0)
theorem k24_heap : Kd.Heap k24 := Kd.heap_iso _ (Kd.heap_slice 34 k34_heap)
theorem k24_open {w : World} {x : S24} {cs : List Value} (h : k24.K w x cs) : ∃ A0 c0, cs = [.slice A0 x.f0.length c0] ∧ x.f0.length ≤ c0 ∧ k34.C w A0 x.f0.length x.f0 := by
  obtain ⟨A0, c0, rfl, l0, g0⟩ := h
  exact ⟨A0, c0, rfl, l0, g0⟩
theorem k24_openM {w : World} {base : Nat} {ok : Nat → Prop} {x : S24} {cs : List Value} (h : k24.M w base ok x cs) : ∃ v0, cs = [v0] ∧ k34.R 34 w base ok v0 x.f0 := by
  obtain ⟨v0, rfl, g0⟩ := h
  exact ⟨v0, rfl, g0⟩
theorem k24_mk (w : World) (x : S24) {A0 : Option Addr} {c0 : Nat} (l0 : x.f0.length ≤ c0) (g0 : k34.C w A0 x.f0.length x.f0) : k24.K w x [.slice A0 x.f0.length c0] := ⟨A0, c0, rfl, l0, g0⟩
theorem k24_mkM (w : World) (base : Nat) (ok : Nat → Prop) (x : S24) {v0 : Value} (g0 : k34.R 34 w base ok v0 x.f0) : k24.M w base ok x [v0] := ⟨v0, rfl, g0⟩
theorem k24_openF {W : World} {ok : Nat → Prop} {x : S24} {cs : List Value} (h : Kd.FK k24 W ok x cs) : ∃ A0 c0, cs = [.slice A0 x.f0.length c0] ∧ x.f0.length ≤ c0 ∧ Kd.F k34 W ok A0 x.f0.length x.f0 := by
  obtain ⟨A0, c0, rfl, l0, _⟩ := k24_open (Kd.FK_now h)
  exact ⟨A0, c0, rfl, l0, (fun W' hW => by obtain ⟨A0_, c0_, he, l0_, g0_⟩ := k24_open (h W' hW); injection (Option.some.inj (show some (Value.slice A0 x.f0.length c0) = some (Value.slice A0_ x.f0.length c0_) from congrArg (fun l => l[0]?) he)) with ha_ _ _; rw [ha_]; exact g0_)⟩
theorem k24_mkF (W : World) (ok : Nat → Prop) (x : S24) {A0 : Option Addr} {c0 : Nat} (l0 : x.f0.length ≤ c0) (g0 : Kd.F k34 W ok A0 x.f0.length x.f0) : Kd.FK k24 W ok x [.slice A0 x.f0.length c0] := fun W2 hW => k24_mk W2 x l0 (g0 W2 hW)
def rd_T24 (xs : List S24) (i : Int) : S24 := xs.getD i.toNat z24
theorem at_T24 {w : World} {A : Option Addr} {n : Nat} {xs : List S24} (h : Kd.C k24 w A n xs) (i : Int) (h0 : 0 ≤ i) (h1 : i < n) : ∃ ad A0 c0, A = some ad ∧ w.cell? (ad.add i.toNat) = some (.slice A0 (rd_T24 xs i).f0.length c0) ∧ (rd_T24 xs i).f0.length ≤ c0 ∧ k34.C w A0 (rd_T24 xs i).f0.length (rd_T24 xs i).f0 := by
  obtain ⟨ad, c, e, _, hK, hc0⟩ := Kd.C_get h z24 i h0 h1
  have hc : ∀ j u, c[j]? = some u → w.cell? (ad.add (i.toNat * 1 + j)) = some u := hc0
  obtain ⟨A0, c0, rfl, l0, g0⟩ := k24_open hK
  exact ⟨ad, A0, c0, e, by have hq := hc 0 _ rfl; rwa [Nat.mul_one, Nat.add_zero] at hq, l0, g0⟩

/-! #### struct type 67 -/
structure S67 where
  f0 : S24
  f1 : S34
def z67 : S67 := ⟨z24, z34⟩
def k67 : Kd S67 := Kd.iso (Kd.pair k24 k34) (fun x : S67 => (x.f0, x.f1))
theorem k67_heap : Kd.Heap k67 := Kd.heap_iso _ (Kd.heap_pair k24_heap k34_heap)
theorem k67_open {w : World} {x : S67} {cs : List Value} (h : k67.K w x cs) : ∃ A0 c0 A2 c2 A3 c3 A4 c4, cs = [.slice A0 x.f0.f0.length c0, .string x.f1.f0, .slice A2 x.f1.f1.length c2, .slice A3 x.f1.f2.length c3, .slice A4 x.f1.f3.length c4] ∧ x.f0.f0.length ≤ c0 ∧ k34.C w A0 x.f0.f0.length x.f0.f0 ∧ x.f1.f1.length ≤ c2 ∧ Kd.string.C w A2 x.f1.f1.length x.f1.f1 ∧ x.f1.f2.length ≤ c3 ∧ k59.C w A3 x.f1.f2.length x.f1.f2 ∧ x.f1.f3.length ≤ c4 ∧ k49.C w A4 x.f1.f3.length x.f1.f3 := by
  obtain ⟨_, _, rfl, s0, s1⟩ := h
  obtain ⟨A0, c0, rfl, l0, g0⟩ := k24_open s0
  obtain ⟨A2, c2, A3, c3, A4, c4, rfl, l2, g2, l3, g3, l4, g4⟩ := k34_open s1
  exact ⟨A0, c0, A2, c2, A3, c3, A4, c4, rfl, l0, g0, l2, g2, l3, g3, l4, g4⟩
theorem k67_openM {w : World} {base : Nat} {ok : Nat → Prop} {x : S67} {cs : List Value} (h : k67.M w base ok x cs) : ∃ v0 v2 v3 v4, cs = [v0, .string x.f1.f0, v2, v3, v4] ∧ k34.R 34 w base ok v0 x.f0.f0 ∧ Kd.string.R 9 w base ok v2 x.f1.f1 ∧ k59.R 59 w base ok v3 x.f1.f2 ∧ k49.R 49 w base ok v4 x.f1.f3 := by
  obtain ⟨_, _, rfl, s0, s1⟩ := h
  obtain ⟨v0, rfl, g0⟩ := k24_openM s0
  obtain ⟨v2, v3, v4, rfl, g2, g3, g4⟩ := k34_openM s1
  exact ⟨v0, v2, v3, v4, rfl, g0, g2, g3, g4⟩
theorem k67_mk (w : World) (x : S67) {A0 : Option Addr} {c0 : Nat} (l0 : x.f0.f0.length ≤ c0) (g0 : k34.C w A0 x.f0.f0.length x.f0.f0) {A2 : Option Addr} {c2 : Nat} (l2 : x.f1.f1.length ≤ c2) (g2 : Kd.string.C w A2 x.f1.f1.length x.f1.f1) {A3 : Option Addr} {c3 : Nat} (l3 : x.f1.f2.length ≤ c3) (g3 : k59.C w A3 x.f1.f2.length x.f1.f2) {A4 : Option Addr} {c4 : Nat} (l4 : x.f1.f3.length ≤ c4) (g4 : k49.C w A4 x.f1.f3.length x.f1.f3) : k67.K w x [.slice A0 x.f0.f0.length c0, .string x.f1.f0, .slice A2 x.f1.f1.length c2, .slice A3 x.f1.f2.length c3, .slice A4 x.f1.f3.length c4] := ⟨[.slice A0 x.f0.f0.length c0], [.string x.f1.f0, .slice A2 x.f1.f1.length c2, .slice A3 x.f1.f2.length c3, .slice A4 x.f1.f3.length c4], rfl, (k24_mk w x.f0 l0 g0), (k34_mk w x.f1 l2 g2 l3 g3 l4 g4)⟩
theorem k67_mkM (w : World) (base : Nat) (ok : Nat → Prop) (x : S67) {v0 : Value} (g0 : k34.R 34 w base ok v0 x.f0.f0) {v2 : Value} (g2 : Kd.string.R 9 w base ok v2 x.f1.f1) {v3 : Value} (g3 : k59.R 59 w base ok v3 x.f1.f2) {v4 : Value} (g4 : k49.R 49 w base ok v4 x.f1.f3) : k67.M w base ok x [v0, .string x.f1.f0, v2, v3, v4] := ⟨[v0], [.string x.f1.f0, v2, v3, v4], rfl, (k24_mkM w base ok x.f0 g0), (k34_mkM w base ok x.f1 g2 g3 g4)⟩
theorem k67_openF {W : World} {ok : Nat → Prop} {x : S67} {cs : List Value} (h : Kd.FK k67 W ok x cs) : ∃ A0 c0 A2 c2 A3 c3 A4 c4, cs = [.slice A0 x.f0.f0.length c0, .string x.f1.f0, .slice A2 x.f1.f1.length c2, .slice A3 x.f1.f2.length c3, .slice A4 x.f1.f3.length c4] ∧ x.f0.f0.length ≤ c0 ∧ Kd.F k34 W ok A0 x.f0.f0.length x.f0.f0 ∧ x.f1.f1.length ≤ c2 ∧ Kd.F Kd.string W ok A2 x.f1.f1.length x.f1.f1 ∧ x.f1.f2.length ≤ c3 ∧ Kd.F k59 W ok A3 x.f1.f2.length x.f1.f2 ∧ x.f1.f3.length ≤ c4 ∧ Kd.F k49 W ok A4 x.f1.f3.length x.f1.f3 := by
  obtain ⟨A0, c0, A2, c2, A3, c3, A4, c4, rfl, l0, _, l2, _, l3, _, l4, _⟩ := k67_open (Kd.FK_now h)
  exact ⟨A0, c0, A2, c2, A3, c3, A4, c4, rfl, l0, (fun W' hW => by obtain ⟨A0_, c0_, A2_, c2_, A3_, c3_, A4_, c4_, he, l0_, g0_, l2_, g2_, l3_, g3_, l4_, g4_⟩ := k67_open (h W' hW); injection (Option.some.inj (show some (Value.slice A0 x.f0.f0.length c0) = some (Value.slice A0_ x.f0.f0.length c0_) from congrArg (fun l => l[0]?) he)) with ha_ _ _; rw [ha_]; exact g0_), l2, (fun W' hW => by obtain ⟨A0_, c0_, A2_, c2_, A3_, c3_, A4_, c4_, he, l0_, g0_, l2_, g2_, l3_, g3_, l4_, g4_⟩ := k67_open (h W' hW); injection (Option.some.inj (show some (Value.slice A2 x.f1.f1.length c2) = some (Value.slice A2_ x.f1.f1.length c2_) from congrArg (fun l => l[2]?) he)) with ha_ _ _; rw [ha_]; exact g2_), l3, (fun W' hW => by obtain ⟨A0_, c0_, A2_, c2_, A3_, c3_, A4_, c4_, he, l0_, g0_, l2_, g2_, l3_, g3_, l4_, g4_⟩ := k67_open (h W' hW); injection (Option.some.inj (show some (Value.slice A3 x.f1.f2.length c3) = some (Value.slice A3_ x.f1.f2.length c3_) from congrArg (fun l => l[3]?) he)) with ha_ _ _; rw [ha_]; exact g3_), l4, (fun W' hW => by obtain ⟨A0_, c0_, A2_, c2_, A3_, c3_, A4_, c4_, he, l0_, g0_, l2_, g2_, l3_, g3_, l4_, g4_⟩ := k67_open (h W' hW); injection (Option.some.inj (show some (Value.slice A4 x.f1.f3.length c4) = some (Value.slice A4_ x.f1.f3.length c4_) from congrArg (fun l => l[4]?) he)) with ha_ _ _; rw [ha_]; exact g4_)⟩
theorem k67_mkF (W : World) (ok : Nat → Prop) (x : S67) {A0 : Option Addr} {c0 : Nat} (l0 : x.f0.f0.length ≤ c0) (g0 : Kd.F k34 W ok A0 x.f0.f0.length x.f0.f0) {A2 : Option Addr} {c2 : Nat} (l2 : x.f1.f1.length ≤ c2) (g2 : Kd.F Kd.string W ok A2 x.f1.f1.length x.f1.f1) {A3 : Option Addr} {c3 : Nat} (l3 : x.f1.f2.length ≤ c3) (g3 : Kd.F k59 W ok A3 x.f1.f2.length x.f1.f2) {A4 : Option Addr} {c4 : Nat} (l4 : x.f1.f3.length ≤ c4) (g4 : Kd.F k49 W ok A4 x.f1.f3.length x.f1.f3) : Kd.FK k67 W ok x [.slice A0 x.f0.f0.length c0, .string x.f1.f0, .slice A2 x.f1.f1.length c2, .slice A3 x.f1.f2.length c3, .slice A4 x.f1.f3.length c4] := fun W2 hW => k67_mk W2 x l0 (g0 W2 hW) l2 (g2 W2 hW) l3 (g3 W2 hW) l4 (g4 W2 hW)
def rd_T67 (xs : List S67) (i : Int) : S67 := xs.getD i.toNat z67
theorem at_T67 {w : World} {A : Option Addr} {n : Nat} {xs : List S67} (h : Kd.C k67 w A n xs) (i : Int) (h0 : 0 ≤ i) (h1 : i < n) : ∃ ad A0 c0 A2 c2 A3 c3 A4 c4, A = some ad ∧ w.cell? (ad.add (i.toNat * 5)) = some (.slice A0 (rd_T67 xs i).f0.f0.length c0) ∧ w.cell? ⟨(ad.add (i.toNat * 5)).block, (ad.add (i.toNat * 5)).off + 1, none⟩ = some (.string (rd_T67 xs i).f1.f0) ∧ w.cell? ⟨(ad.add (i.toNat * 5)).block, (ad.add (i.toNat * 5)).off + 2, none⟩ = some (.slice A2 (rd_T67 xs i).f1.f1.length c2) ∧ w.cell? ⟨(ad.add (i.toNat * 5)).block, (ad.add (i.toNat * 5)).off + 3, none⟩ = some (.slice A3 (rd_T67 xs i).f1.f2.length c3) ∧ w.cell? ⟨(ad.add (i.toNat * 5)).block, (ad.add (i.toNat * 5)).off + 4, none⟩ = some (.slice A4 (rd_T67 xs i).f1.f3.length c4) ∧ (rd_T67 xs i).f0.f0.length ≤ c0 ∧ k34.C w A0 (rd_T67 xs i).f0.f0.length (rd_T67 xs i).f0.f0 ∧ (rd_T67 xs i).f1.f1.length ≤ c2 ∧ Kd.string.C w A2 (rd_T67 xs i).f1.f1.length (rd_T67 xs i).f1.f1 ∧ (rd_T67 xs i).f1.f2.length ≤ c3 ∧ k59.C w A3 (rd_T67 xs i).f1.f2.length (rd_T67 xs i).f1.f2 ∧ (rd_T67 xs i).f1.f3.length ≤ c4 ∧ k49.C w A4 (rd_T67 xs i).f1.f3.length (rd_T67 xs i).f1.f3 := by
  obtain ⟨ad, c, e, _, hK, hc0⟩ := Kd.C_get h z67 i h0 h1
  have hc : ∀ j u, c[j]? = some u → w.cell? (ad.add (i.toNat * 5 + j)) = some u := hc0
  obtain ⟨A0, c0, A2, c2, A3, c3, A4, c4, rfl, l0, g0, l2, g2, l3, g3, l4, g4⟩ := k67_open hK
  exact ⟨ad, A0, c0, A2, c2, A3, c3, A4, c4, e, hc 0 _ rfl, by rw [← add_field _ _ 1 (by omega)]; exact hc 1 _ rfl, by rw [← add_field _ _ 2 (by omega)]; exact hc 2 _ rfl, by rw [← add_field _ _ 3 (by omega)]; exact hc 3 _ rfl, by rw [← add_field _ _ 4 (by omega)]; exact hc 4 _ rfl, l0, g0, l2, g2, l3, g3, l4, g4⟩

def rd_L18 (xs : List (List S40)) (i : Int) : (List S40) := xs.getD i.toNat ([] : List S40)
theorem at_L18 {w : World} {A : Option Addr} {n : Nat} {xs : List (List S40)} (h : Kd.C (Kd.slice 40 k40) w A n xs) (i : Int) (h0 : 0 ≤ i) (h1 : i < n) : ∃ ad A0 c0, A = some ad ∧ w.cell? (ad.add i.toNat) = some (.slice A0 (rd_L18 xs i).length c0) ∧ (rd_L18 xs i).length ≤ c0 ∧ k40.C w A0 (rd_L18 xs i).length (rd_L18 xs i) := by
  obtain ⟨ad, c, e, _, hK, hc0⟩ := Kd.C_get h ([] : List S40) i h0 h1
  have hc : ∀ j u, c[j]? = some u → w.cell? (ad.add (i.toNat * 1 + j)) = some u := hc0
  obtain ⟨A0, c0, rfl, l0, g0⟩ := hK
  exact ⟨ad, A0, c0, e, by have hq := hc 0 _ rfl; rwa [Nat.mul_one, Nat.add_zero] at hq, l0, g0⟩

/-! #### struct type 57 -/
structure S57 where
  f0 : Int
  f1 : Int
def z57 : S57 := ⟨(0 : Int), (0 : Int)⟩
def k57 : Kd S57 := Kd.iso (Kd.pair (Kd.int .u8) (Kd.int .u8)) (fun x : S57 => (x.f0, x.f1))
theorem k57_heap : Kd.Heap k57 := Kd.heap_iso _ (Kd.heap_pair (Kd.heap_int .u8) (Kd.heap_int .u8))
theorem k57_open {w : World} {x : S57} {cs : List Value} (h : k57.K w x cs) : cs = [.int .u8 x.f0, .int .u8 x.f1] := by
  obtain ⟨_, _, rfl, rfl, rfl⟩ := h
  exact rfl
theorem k57_openM {w : World} {base : Nat} {ok : Nat → Prop} {x : S57} {cs : List Value} (h : k57.M w base ok x cs) : cs = [.int .u8 x.f0, .int .u8 x.f1] := by
  obtain ⟨_, _, rfl, rfl, rfl⟩ := h
  exact rfl
theorem k57_mk (w : World) (x : S57)  : k57.K w x [.int .u8 x.f0, .int .u8 x.f1] := ⟨[.int .u8 x.f0], [.int .u8 x.f1], rfl, rfl, rfl⟩
theorem k57_mkM (w : World) (base : Nat) (ok : Nat → Prop) (x : S57)  : k57.M w base ok x [.int .u8 x.f0, .int .u8 x.f1] := ⟨[.int .u8 x.f0], [.int .u8 x.f1], rfl, rfl, rfl⟩
theorem k57_mkF (W : World) (ok : Nat → Prop) (x : S57) : Kd.FK k57 W ok x [.int .u8 x.f0, .int .u8 x.f1] := fun W2 _ => k57_mk W2 x
def rd_T57 (xs : List S57) (i : Int) : S57 := xs.getD i.toNat z57
theorem at_T57 {w : World} {A : Option Addr} {n : Nat} {xs : List S57} (h : Kd.C k57 w A n xs) (i : Int) (h0 : 0 ≤ i) (h1 : i < n) : ∃ ad , A = some ad ∧ w.cell? (ad.add (i.toNat * 2)) = some (.int .u8 (rd_T57 xs i).f0) ∧ w.cell? ⟨(ad.add (i.toNat * 2)).block, (ad.add (i.toNat * 2)).off + 1, none⟩ = some (.int .u8 (rd_T57 xs i).f1) := by
  obtain ⟨ad, c, e, _, hK, hc0⟩ := Kd.C_get h z57 i h0 h1
  have hc : ∀ j u, c[j]? = some u → w.cell? (ad.add (i.toNat * 2 + j)) = some u := hc0
  obtain rfl := k57_open hK
  exact ⟨ad, e, hc 0 _ rfl, by rw [← add_field _ _ 1 (by omega)]; exact hc 1 _ rfl⟩

end
end Go.Proofs.Ytnfhlhjbmcofoaa.S
