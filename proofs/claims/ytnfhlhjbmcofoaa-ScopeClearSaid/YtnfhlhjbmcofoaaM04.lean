/- Scope: walks and plain laws of this seat's functions, merged out of smaller texts of this session (ScH, ScW). -/
import Derived.Test.YtnfhlhjbmcofoaaM03
import Derived.Test.YtnfhlhjbmcofoaaBase
namespace Go.Proofs.Ytnfhlhjbmcofoaa.S
open Go.RowKit Go.Proofs.YtnfhlhjbmcofoaaW.PrintWords Go.Proofs.YtnfhlhjbmcofoaaW.PrintLast
set_option linter.unusedVariables false
set_option linter.unusedSimpArgs false
/-- A row is handed back that reads as a list; what there was stands. -/
def RetC {α : Type} (d : Kd α) (l : List α) (w : World) (e : Ending) (w' : World) : Prop := ∃ A c, e = .returned (.slice A l.length c) ∧ l.length ≤ c ∧ d.C w' A l.length l ∧ Below w.heap.size w w'
theorem C_fixed {α : Type} {d : Kd α} {w w' : World} {A : Option Addr} {n : Nat} {xs : List α} (hb : Below w.heap.size w w') (h : (Kd.fixed d w).C w' A n xs) : d.C w' A n xs :=
  ReadsRow.imp_ (R := fun x cs => d.K w x cs) h (Below.refl _ _) (fun p c hp => d.K_below hb hp)
/-- The numbers of an item. -/
def dimsL (x : S49) : List S42 := if x.f0 = 1 then [x.f2] else if x.f0 = 2 ∨ x.f0 = 5 then [x.f2, x.f3] else if x.f0 = 7 then x.f5 else []
/-- The expressions of an item. -/
def exprsL (x : S49) : List S47 := if x.f0 = 2 ∨ x.f0 = 5 then [] else if x.f0 = 6 then [x.f8, x.f7, x.f9] else if x.f0 = 7 then x.f6.map (·.f1) else [x.f7]
set_option maxHeartbeats 16000000 in
set_option maxRecDepth 100000 in
theorem dims_1 (x : S49) (cs : List Value) (w : World) (h : k49.K w x cs) (hk : x.f0 = 1) :
    Calls Try.prog 51 #[.agg cs.toArray] w (RetC k42 ([x.f2]) w) := by
  have HX := Aside0.mk h
  obtain ⟨A7, c7, A8, c8, A19, c19, A30, c30, A41, c41, rfl, hl7, hC7, hl8, hC8, hl19, hC19, hl30, hC30, hl41, hC41⟩ := k49_open h
  have HL7 := Aside0.mk hl7
  have HL8 := Aside0.mk hl8
  have HC7 := Aside0.mk hC7
  have HC8 := Aside0.mk hC8
  have HE7 := Aside0.mk (k47_mk w x.f7 hl19 hC19)
  have HE8 := Aside0.mk (k47_mk w x.f8 hl30 hC30)
  have HE9 := Aside0.mk (k47_mk w x.f9 hl41 hC41)
  have hm8 : x.f6.length ≤ 9223372036854775807 := hC8.2.1
  have HB : Aside0 (Below w.heap.size w w) := ⟨Below.refl _ _⟩
  clear h hl7 hC7 hl8 hC8 hl19 hC19 hl30 hC30 hl41 hC41
  obtain ⟨kd, hkd⟩ : ∃ k, x.f0 = k := ⟨_, rfl⟩
  rw [hkd]
  obtain rfl : kd = 1 := hkd.symm.trans hk
  go_enter Try.func51, Try.ntmps51
  go_wp2_with (first | ((with_reducible refine gate_dst (N := 1) rfl ?_); refine box_event ?hg (N := 1) ?hd (cs := #[.int .i64 1, .string x.f1, .string x.f2.f0, .int .i64 x.f2.f1, .string x.f3.f0, .int .i64 x.f3.f1, .string x.f4, .slice A7 x.f5.length c7, .slice A8 x.f6.length c8, .int .i64 x.f7.f0, .string x.f7.f1.f0, .int .i64 x.f7.f1.f1, .string x.f7.f2.f0, .int .i64 x.f7.f2.f1, .string x.f7.f3.f0, .int .i64 x.f7.f3.f1, .string x.f7.f4.f0, .int .i64 x.f7.f4.f1, .string x.f7.f5, .slice A19 x.f7.f6.length c19, .int .i64 x.f8.f0, .string x.f8.f1.f0, .int .i64 x.f8.f1.f1, .string x.f8.f2.f0, .int .i64 x.f8.f2.f1, .string x.f8.f3.f0, .int .i64 x.f8.f3.f1, .string x.f8.f4.f0, .int .i64 x.f8.f4.f1, .string x.f8.f5, .slice A30 x.f8.f6.length c30, .int .i64 x.f9.f0, .string x.f9.f1.f0, .int .i64 x.f9.f1.f1, .string x.f9.f2.f0, .int .i64 x.f9.f2.f1, .string x.f9.f3.f0, .int .i64 x.f9.f3.f1, .string x.f9.f4.f0, .int .i64 x.f9.f4.f1, .string x.f9.f5, .slice A41 x.f9.f6.length c41]) (t := 49) ?hr ?_; (case hd => rfl); (case hg => rfl); (case hr => first | (go_simp; done) | (go_simp; rfl)); intro g1 hg_ w1 hbox_ hb_; have BK1 := Aside0.mk (hbox_); have GBK1 : Aside0 (w.heap.size ≤ g1) := ⟨by rw [hg_]; exact below_size HB.out⟩; replace HB : Aside0 (Below w.heap.size w w1) := ⟨below_step HB.out hb_⟩; clear hg_ hbox_ hb_; have hz0 : w1.cell? ⟨g1, 0, none⟩ = some (.int .i64 1) := blk_cell BK1.out 0; have hz2 : w1.cell? ⟨g1, 2, none⟩ = some (.string x.f2.f0) := blk_cell BK1.out 2; have hz3 : w1.cell? ⟨g1, 3, none⟩ = some (.int .i64 x.f2.f1) := blk_cell BK1.out 3) | ((with_reducible refine gate_dst (N := 9) rfl ?_); refine Kd.R_lit k42 _ 42 ?hg (N := 9) ?hd (xs := [x.f2]) (inner := [.string x.f2.f0, .int .i64 x.f2.f1]) (ok := fun _ => True) (okp := fun _ => True) ?hr ?hp (fun _ hk => hk) trivial (Below.refl _ _) (Nat.le_refl _) (by simp) ?_; (case hd => rfl); (case hg => rfl); (case hr => first | (go_simp; done) | (go_simp; rfl)); (case hp => exact (Reps.snoc (Reps.none _ _) (k42_mkM _ _ _ x.f2) rfl)); intro v_ wl ho_ hb_ hg_ hn_; have HO : Aside0 (k42.R 42 wl w1.heap.size (fun _ => True) v_ [x.f2]) := ⟨ho_⟩; have HBL : Aside0 (Below w.heap.size w wl) := ⟨below_step HB.out hb_⟩; clear ho_ hb_ hg_ hn_))
  go_ret
  obtain ⟨A, c, rfl, hle, hC⟩ := Kd.R_reads HO.out
  exact ⟨A, c, rfl, hle, hC, HBL.out⟩
set_option maxHeartbeats 16000000 in
set_option maxRecDepth 100000 in
theorem dims_2 (x : S49) (cs : List Value) (w : World) (h : k49.K w x cs) (hk : x.f0 = 2) :
    Calls Try.prog 51 #[.agg cs.toArray] w (RetC k42 ([x.f2, x.f3]) w) := by
  have HX := Aside0.mk h
  obtain ⟨A7, c7, A8, c8, A19, c19, A30, c30, A41, c41, rfl, hl7, hC7, hl8, hC8, hl19, hC19, hl30, hC30, hl41, hC41⟩ := k49_open h
  have HL7 := Aside0.mk hl7
  have HL8 := Aside0.mk hl8
  have HC7 := Aside0.mk hC7
  have HC8 := Aside0.mk hC8
  have HE7 := Aside0.mk (k47_mk w x.f7 hl19 hC19)
  have HE8 := Aside0.mk (k47_mk w x.f8 hl30 hC30)
  have HE9 := Aside0.mk (k47_mk w x.f9 hl41 hC41)
  have hm8 : x.f6.length ≤ 9223372036854775807 := hC8.2.1
  have HB : Aside0 (Below w.heap.size w w) := ⟨Below.refl _ _⟩
  clear h hl7 hC7 hl8 hC8 hl19 hC19 hl30 hC30 hl41 hC41
  obtain ⟨kd, hkd⟩ : ∃ k, x.f0 = k := ⟨_, rfl⟩
  rw [hkd]
  obtain rfl : kd = 2 := hkd.symm.trans hk
  go_enter Try.func51, Try.ntmps51
  go_wp2_with (first | ((with_reducible refine gate_dst (N := 1) rfl ?_); refine box_event ?hg (N := 1) ?hd (cs := #[.int .i64 2, .string x.f1, .string x.f2.f0, .int .i64 x.f2.f1, .string x.f3.f0, .int .i64 x.f3.f1, .string x.f4, .slice A7 x.f5.length c7, .slice A8 x.f6.length c8, .int .i64 x.f7.f0, .string x.f7.f1.f0, .int .i64 x.f7.f1.f1, .string x.f7.f2.f0, .int .i64 x.f7.f2.f1, .string x.f7.f3.f0, .int .i64 x.f7.f3.f1, .string x.f7.f4.f0, .int .i64 x.f7.f4.f1, .string x.f7.f5, .slice A19 x.f7.f6.length c19, .int .i64 x.f8.f0, .string x.f8.f1.f0, .int .i64 x.f8.f1.f1, .string x.f8.f2.f0, .int .i64 x.f8.f2.f1, .string x.f8.f3.f0, .int .i64 x.f8.f3.f1, .string x.f8.f4.f0, .int .i64 x.f8.f4.f1, .string x.f8.f5, .slice A30 x.f8.f6.length c30, .int .i64 x.f9.f0, .string x.f9.f1.f0, .int .i64 x.f9.f1.f1, .string x.f9.f2.f0, .int .i64 x.f9.f2.f1, .string x.f9.f3.f0, .int .i64 x.f9.f3.f1, .string x.f9.f4.f0, .int .i64 x.f9.f4.f1, .string x.f9.f5, .slice A41 x.f9.f6.length c41]) (t := 49) ?hr ?_; (case hd => rfl); (case hg => rfl); (case hr => first | (go_simp; done) | (go_simp; rfl)); intro g1 hg_ w1 hbox_ hb_; have BK1 := Aside0.mk (hbox_); have GBK1 : Aside0 (w.heap.size ≤ g1) := ⟨by rw [hg_]; exact below_size HB.out⟩; replace HB : Aside0 (Below w.heap.size w w1) := ⟨below_step HB.out hb_⟩; clear hg_ hbox_ hb_; have hz0 : w1.cell? ⟨g1, 0, none⟩ = some (.int .i64 2) := blk_cell BK1.out 0; have hz2 : w1.cell? ⟨g1, 2, none⟩ = some (.string x.f2.f0) := blk_cell BK1.out 2; have hz3 : w1.cell? ⟨g1, 3, none⟩ = some (.int .i64 x.f2.f1) := blk_cell BK1.out 3; have hz4 : w1.cell? ⟨g1, 4, none⟩ = some (.string x.f3.f0) := blk_cell BK1.out 4; have hz5 : w1.cell? ⟨g1, 5, none⟩ = some (.int .i64 x.f3.f1) := blk_cell BK1.out 5) | ((with_reducible refine gate_dst (N := 17) rfl ?_); refine Kd.R_lit k42 _ 42 ?hg (N := 17) ?hd (xs := [x.f2, x.f3]) (inner := [.string x.f2.f0, .int .i64 x.f2.f1, .string x.f3.f0, .int .i64 x.f3.f1]) (ok := fun _ => True) (okp := fun _ => True) ?hr ?hp (fun _ hk => hk) trivial (Below.refl _ _) (Nat.le_refl _) (by simp) ?_; (case hd => rfl); (case hg => rfl); (case hr => first | (go_simp; done) | (go_simp; rfl)); (case hp => exact (Reps.snoc (Reps.snoc (Reps.none _ _) (k42_mkM _ _ _ x.f2) rfl) (k42_mkM _ _ _ x.f3) rfl)); intro v_ wl ho_ hb_ hg_ hn_; have HO : Aside0 (k42.R 42 wl w1.heap.size (fun _ => True) v_ [x.f2, x.f3]) := ⟨ho_⟩; have HBL : Aside0 (Below w.heap.size w wl) := ⟨below_step HB.out hb_⟩; clear ho_ hb_ hg_ hn_))
  go_ret
  obtain ⟨A, c, rfl, hle, hC⟩ := Kd.R_reads HO.out
  exact ⟨A, c, rfl, hle, hC, HBL.out⟩
set_option maxHeartbeats 16000000 in
set_option maxRecDepth 100000 in
theorem dims_5 (x : S49) (cs : List Value) (w : World) (h : k49.K w x cs) (hk : x.f0 = 5) :
    Calls Try.prog 51 #[.agg cs.toArray] w (RetC k42 ([x.f2, x.f3]) w) := by
  have HX := Aside0.mk h
  obtain ⟨A7, c7, A8, c8, A19, c19, A30, c30, A41, c41, rfl, hl7, hC7, hl8, hC8, hl19, hC19, hl30, hC30, hl41, hC41⟩ := k49_open h
  have HL7 := Aside0.mk hl7
  have HL8 := Aside0.mk hl8
  have HC7 := Aside0.mk hC7
  have HC8 := Aside0.mk hC8
  have HE7 := Aside0.mk (k47_mk w x.f7 hl19 hC19)
  have HE8 := Aside0.mk (k47_mk w x.f8 hl30 hC30)
  have HE9 := Aside0.mk (k47_mk w x.f9 hl41 hC41)
  have hm8 : x.f6.length ≤ 9223372036854775807 := hC8.2.1
  have HB : Aside0 (Below w.heap.size w w) := ⟨Below.refl _ _⟩
  clear h hl7 hC7 hl8 hC8 hl19 hC19 hl30 hC30 hl41 hC41
  obtain ⟨kd, hkd⟩ : ∃ k, x.f0 = k := ⟨_, rfl⟩
  rw [hkd]
  obtain rfl : kd = 5 := hkd.symm.trans hk
  go_enter Try.func51, Try.ntmps51
  go_wp2_with (first | ((with_reducible refine gate_dst (N := 1) rfl ?_); refine box_event ?hg (N := 1) ?hd (cs := #[.int .i64 5, .string x.f1, .string x.f2.f0, .int .i64 x.f2.f1, .string x.f3.f0, .int .i64 x.f3.f1, .string x.f4, .slice A7 x.f5.length c7, .slice A8 x.f6.length c8, .int .i64 x.f7.f0, .string x.f7.f1.f0, .int .i64 x.f7.f1.f1, .string x.f7.f2.f0, .int .i64 x.f7.f2.f1, .string x.f7.f3.f0, .int .i64 x.f7.f3.f1, .string x.f7.f4.f0, .int .i64 x.f7.f4.f1, .string x.f7.f5, .slice A19 x.f7.f6.length c19, .int .i64 x.f8.f0, .string x.f8.f1.f0, .int .i64 x.f8.f1.f1, .string x.f8.f2.f0, .int .i64 x.f8.f2.f1, .string x.f8.f3.f0, .int .i64 x.f8.f3.f1, .string x.f8.f4.f0, .int .i64 x.f8.f4.f1, .string x.f8.f5, .slice A30 x.f8.f6.length c30, .int .i64 x.f9.f0, .string x.f9.f1.f0, .int .i64 x.f9.f1.f1, .string x.f9.f2.f0, .int .i64 x.f9.f2.f1, .string x.f9.f3.f0, .int .i64 x.f9.f3.f1, .string x.f9.f4.f0, .int .i64 x.f9.f4.f1, .string x.f9.f5, .slice A41 x.f9.f6.length c41]) (t := 49) ?hr ?_; (case hd => rfl); (case hg => rfl); (case hr => first | (go_simp; done) | (go_simp; rfl)); intro g1 hg_ w1 hbox_ hb_; have BK1 := Aside0.mk (hbox_); have GBK1 : Aside0 (w.heap.size ≤ g1) := ⟨by rw [hg_]; exact below_size HB.out⟩; replace HB : Aside0 (Below w.heap.size w w1) := ⟨below_step HB.out hb_⟩; clear hg_ hbox_ hb_; have hz0 : w1.cell? ⟨g1, 0, none⟩ = some (.int .i64 5) := blk_cell BK1.out 0; have hz2 : w1.cell? ⟨g1, 2, none⟩ = some (.string x.f2.f0) := blk_cell BK1.out 2; have hz3 : w1.cell? ⟨g1, 3, none⟩ = some (.int .i64 x.f2.f1) := blk_cell BK1.out 3; have hz4 : w1.cell? ⟨g1, 4, none⟩ = some (.string x.f3.f0) := blk_cell BK1.out 4; have hz5 : w1.cell? ⟨g1, 5, none⟩ = some (.int .i64 x.f3.f1) := blk_cell BK1.out 5) | ((with_reducible refine gate_dst (N := 17) rfl ?_); refine Kd.R_lit k42 _ 42 ?hg (N := 17) ?hd (xs := [x.f2, x.f3]) (inner := [.string x.f2.f0, .int .i64 x.f2.f1, .string x.f3.f0, .int .i64 x.f3.f1]) (ok := fun _ => True) (okp := fun _ => True) ?hr ?hp (fun _ hk => hk) trivial (Below.refl _ _) (Nat.le_refl _) (by simp) ?_; (case hd => rfl); (case hg => rfl); (case hr => first | (go_simp; done) | (go_simp; rfl)); (case hp => exact (Reps.snoc (Reps.snoc (Reps.none _ _) (k42_mkM _ _ _ x.f2) rfl) (k42_mkM _ _ _ x.f3) rfl)); intro v_ wl ho_ hb_ hg_ hn_; have HO : Aside0 (k42.R 42 wl w1.heap.size (fun _ => True) v_ [x.f2, x.f3]) := ⟨ho_⟩; have HBL : Aside0 (Below w.heap.size w wl) := ⟨below_step HB.out hb_⟩; clear ho_ hb_ hg_ hn_))
  go_ret
  obtain ⟨A, c, rfl, hle, hC⟩ := Kd.R_reads HO.out
  exact ⟨A, c, rfl, hle, hC, HBL.out⟩
set_option maxHeartbeats 16000000 in
set_option maxRecDepth 100000 in
theorem dims_7 (x : S49) (cs : List Value) (w : World) (h : k49.K w x cs) (hk : x.f0 = 7) :
    Calls Try.prog 51 #[.agg cs.toArray] w (RetC k42 (x.f5) w) := by
  have HX := Aside0.mk h
  obtain ⟨A7, c7, A8, c8, A19, c19, A30, c30, A41, c41, rfl, hl7, hC7, hl8, hC8, hl19, hC19, hl30, hC30, hl41, hC41⟩ := k49_open h
  have HL7 := Aside0.mk hl7
  have HL8 := Aside0.mk hl8
  have HC7 := Aside0.mk hC7
  have HC8 := Aside0.mk hC8
  have HE7 := Aside0.mk (k47_mk w x.f7 hl19 hC19)
  have HE8 := Aside0.mk (k47_mk w x.f8 hl30 hC30)
  have HE9 := Aside0.mk (k47_mk w x.f9 hl41 hC41)
  have hm8 : x.f6.length ≤ 9223372036854775807 := hC8.2.1
  have HB : Aside0 (Below w.heap.size w w) := ⟨Below.refl _ _⟩
  clear h hl7 hC7 hl8 hC8 hl19 hC19 hl30 hC30 hl41 hC41
  obtain ⟨kd, hkd⟩ : ∃ k, x.f0 = k := ⟨_, rfl⟩
  rw [hkd]
  obtain rfl : kd = 7 := hkd.symm.trans hk
  go_enter Try.func51, Try.ntmps51
  go_wp2_with (first | ((with_reducible refine gate_dst (N := 1) rfl ?_); refine box_event ?hg (N := 1) ?hd (cs := #[.int .i64 7, .string x.f1, .string x.f2.f0, .int .i64 x.f2.f1, .string x.f3.f0, .int .i64 x.f3.f1, .string x.f4, .slice A7 x.f5.length c7, .slice A8 x.f6.length c8, .int .i64 x.f7.f0, .string x.f7.f1.f0, .int .i64 x.f7.f1.f1, .string x.f7.f2.f0, .int .i64 x.f7.f2.f1, .string x.f7.f3.f0, .int .i64 x.f7.f3.f1, .string x.f7.f4.f0, .int .i64 x.f7.f4.f1, .string x.f7.f5, .slice A19 x.f7.f6.length c19, .int .i64 x.f8.f0, .string x.f8.f1.f0, .int .i64 x.f8.f1.f1, .string x.f8.f2.f0, .int .i64 x.f8.f2.f1, .string x.f8.f3.f0, .int .i64 x.f8.f3.f1, .string x.f8.f4.f0, .int .i64 x.f8.f4.f1, .string x.f8.f5, .slice A30 x.f8.f6.length c30, .int .i64 x.f9.f0, .string x.f9.f1.f0, .int .i64 x.f9.f1.f1, .string x.f9.f2.f0, .int .i64 x.f9.f2.f1, .string x.f9.f3.f0, .int .i64 x.f9.f3.f1, .string x.f9.f4.f0, .int .i64 x.f9.f4.f1, .string x.f9.f5, .slice A41 x.f9.f6.length c41]) (t := 49) ?hr ?_; (case hd => rfl); (case hg => rfl); (case hr => first | (go_simp; done) | (go_simp; rfl)); intro g1 hg_ w1 hbox_ hb_; have BK1 := Aside0.mk (hbox_); have GBK1 : Aside0 (w.heap.size ≤ g1) := ⟨by rw [hg_]; exact below_size HB.out⟩; replace HB : Aside0 (Below w.heap.size w w1) := ⟨below_step HB.out hb_⟩; clear hg_ hbox_ hb_; have hz0 : w1.cell? ⟨g1, 0, none⟩ = some (.int .i64 7) := blk_cell BK1.out 0; have hz7 : w1.cell? ⟨g1, 7, none⟩ = some (.slice A7 x.f5.length c7) := blk_cell BK1.out 7))
  go_ret
  exact ⟨A7, c7, rfl, HL7.out, Kd.C_below HC7.out HB.out, HB.out⟩
set_option maxHeartbeats 16000000 in
set_option maxRecDepth 100000 in
theorem dims_0 (x : S49) (cs : List Value) (w : World) (h : k49.K w x cs) (hk : x.f0 ≠ 1 ∧ x.f0 ≠ 2 ∧ x.f0 ≠ 5 ∧ x.f0 ≠ 7) :
    Calls Try.prog 51 #[.agg cs.toArray] w (RetC k42 (([] : List S42)) w) := by
  have HX := Aside0.mk h
  obtain ⟨A7, c7, A8, c8, A19, c19, A30, c30, A41, c41, rfl, hl7, hC7, hl8, hC8, hl19, hC19, hl30, hC30, hl41, hC41⟩ := k49_open h
  have HL7 := Aside0.mk hl7
  have HL8 := Aside0.mk hl8
  have HC7 := Aside0.mk hC7
  have HC8 := Aside0.mk hC8
  have HE7 := Aside0.mk (k47_mk w x.f7 hl19 hC19)
  have HE8 := Aside0.mk (k47_mk w x.f8 hl30 hC30)
  have HE9 := Aside0.mk (k47_mk w x.f9 hl41 hC41)
  have hm8 : x.f6.length ≤ 9223372036854775807 := hC8.2.1
  have HB : Aside0 (Below w.heap.size w w) := ⟨Below.refl _ _⟩
  clear h hl7 hC7 hl8 hC8 hl19 hC19 hl30 hC30 hl41 hC41
  obtain ⟨kd, hkd⟩ : ∃ k, x.f0 = k := ⟨_, rfl⟩
  rw [hkd]
  have e1 : (kd == 1) = false := by simp; omega
  have e2 : (kd == 2) = false := by simp; omega
  have e5 : (kd == 5) = false := by simp; omega
  have e7 : (kd == 7) = false := by simp; omega
  clear hk
  go_enter Try.func51, Try.ntmps51
  go_wp2_with (first | ((with_reducible refine gate_dst (N := 1) rfl ?_); refine box_event ?hg (N := 1) ?hd (cs := #[.int .i64 kd, .string x.f1, .string x.f2.f0, .int .i64 x.f2.f1, .string x.f3.f0, .int .i64 x.f3.f1, .string x.f4, .slice A7 x.f5.length c7, .slice A8 x.f6.length c8, .int .i64 x.f7.f0, .string x.f7.f1.f0, .int .i64 x.f7.f1.f1, .string x.f7.f2.f0, .int .i64 x.f7.f2.f1, .string x.f7.f3.f0, .int .i64 x.f7.f3.f1, .string x.f7.f4.f0, .int .i64 x.f7.f4.f1, .string x.f7.f5, .slice A19 x.f7.f6.length c19, .int .i64 x.f8.f0, .string x.f8.f1.f0, .int .i64 x.f8.f1.f1, .string x.f8.f2.f0, .int .i64 x.f8.f2.f1, .string x.f8.f3.f0, .int .i64 x.f8.f3.f1, .string x.f8.f4.f0, .int .i64 x.f8.f4.f1, .string x.f8.f5, .slice A30 x.f8.f6.length c30, .int .i64 x.f9.f0, .string x.f9.f1.f0, .int .i64 x.f9.f1.f1, .string x.f9.f2.f0, .int .i64 x.f9.f2.f1, .string x.f9.f3.f0, .int .i64 x.f9.f3.f1, .string x.f9.f4.f0, .int .i64 x.f9.f4.f1, .string x.f9.f5, .slice A41 x.f9.f6.length c41]) (t := 49) ?hr ?_; (case hd => rfl); (case hg => rfl); (case hr => first | (go_simp; done) | (go_simp; rfl)); intro g1 hg_ w1 hbox_ hb_; have BK1 := Aside0.mk (hbox_); have GBK1 : Aside0 (w.heap.size ≤ g1) := ⟨by rw [hg_]; exact below_size HB.out⟩; replace HB : Aside0 (Below w.heap.size w w1) := ⟨below_step HB.out hb_⟩; clear hg_ hbox_ hb_; have hz0 : w1.cell? ⟨g1, 0, none⟩ = some (.int .i64 kd) := blk_cell BK1.out 0))
  go_ret
  exact ⟨none, 0, rfl, Nat.le_refl _, Kd.C_nil _ _, HB.out⟩
theorem dims_any (x : S49) (cs : List Value) (w : World) (h : k49.K w x cs) : Calls Try.prog 51 #[.agg cs.toArray] w (RetC k42 (dimsL x) w) := by
  unfold dimsL
  by_cases h1 : x.f0 = 1
  · rw [if_pos h1]; exact dims_1 x cs w h h1
  rw [if_neg h1]
  by_cases h2 : x.f0 = 2
  · rw [if_pos (.inl h2)]; exact dims_2 x cs w h h2
  by_cases h5 : x.f0 = 5
  · rw [if_pos (.inr h5)]; exact dims_5 x cs w h h5
  rw [if_neg (by omega)]
  by_cases h7 : x.f0 = 7
  · rw [if_pos h7]; exact dims_7 x cs w h h7
  rw [if_neg h7]
  exact dims_0 x cs w h ⟨h1, h2, h5, h7⟩
set_option maxHeartbeats 16000000 in
set_option maxRecDepth 100000 in
theorem exprs_2 (x : S49) (cs : List Value) (w : World) (h : k49.K w x cs) (hk : x.f0 = 2) :
    Calls Try.prog 18 #[.agg cs.toArray] w (RetC k47 (([] : List S47)) w) := by
  have HX := Aside0.mk h
  obtain ⟨A7, c7, A8, c8, A19, c19, A30, c30, A41, c41, rfl, hl7, hC7, hl8, hC8, hl19, hC19, hl30, hC30, hl41, hC41⟩ := k49_open h
  have HL7 := Aside0.mk hl7
  have HL8 := Aside0.mk hl8
  have HC7 := Aside0.mk hC7
  have HC8 := Aside0.mk hC8
  have HE7 := Aside0.mk (k47_mk w x.f7 hl19 hC19)
  have HE8 := Aside0.mk (k47_mk w x.f8 hl30 hC30)
  have HE9 := Aside0.mk (k47_mk w x.f9 hl41 hC41)
  have hm8 : x.f6.length ≤ 9223372036854775807 := hC8.2.1
  have HB : Aside0 (Below w.heap.size w w) := ⟨Below.refl _ _⟩
  clear h hl7 hC7 hl8 hC8 hl19 hC19 hl30 hC30 hl41 hC41
  obtain ⟨kd, hkd⟩ : ∃ k, x.f0 = k := ⟨_, rfl⟩
  rw [hkd]
  obtain rfl : kd = 2 := hkd.symm.trans hk
  go_enter Try.func18, Try.ntmps18
  go_wp2_with (first | ((with_reducible refine gate_dst (N := 1) rfl ?_); refine box_event ?hg (N := 1) ?hd (cs := #[.int .i64 2, .string x.f1, .string x.f2.f0, .int .i64 x.f2.f1, .string x.f3.f0, .int .i64 x.f3.f1, .string x.f4, .slice A7 x.f5.length c7, .slice A8 x.f6.length c8, .int .i64 x.f7.f0, .string x.f7.f1.f0, .int .i64 x.f7.f1.f1, .string x.f7.f2.f0, .int .i64 x.f7.f2.f1, .string x.f7.f3.f0, .int .i64 x.f7.f3.f1, .string x.f7.f4.f0, .int .i64 x.f7.f4.f1, .string x.f7.f5, .slice A19 x.f7.f6.length c19, .int .i64 x.f8.f0, .string x.f8.f1.f0, .int .i64 x.f8.f1.f1, .string x.f8.f2.f0, .int .i64 x.f8.f2.f1, .string x.f8.f3.f0, .int .i64 x.f8.f3.f1, .string x.f8.f4.f0, .int .i64 x.f8.f4.f1, .string x.f8.f5, .slice A30 x.f8.f6.length c30, .int .i64 x.f9.f0, .string x.f9.f1.f0, .int .i64 x.f9.f1.f1, .string x.f9.f2.f0, .int .i64 x.f9.f2.f1, .string x.f9.f3.f0, .int .i64 x.f9.f3.f1, .string x.f9.f4.f0, .int .i64 x.f9.f4.f1, .string x.f9.f5, .slice A41 x.f9.f6.length c41]) (t := 49) ?hr ?_; (case hd => rfl); (case hg => rfl); (case hr => first | (go_simp; done) | (go_simp; rfl)); intro g1 hg_ w1 hbox_ hb_; have BK1 := Aside0.mk (hbox_); have GBK1 : Aside0 (w.heap.size ≤ g1) := ⟨by rw [hg_]; exact below_size HB.out⟩; replace HB : Aside0 (Below w.heap.size w w1) := ⟨below_step HB.out hb_⟩; clear hg_ hbox_ hb_; have hz0 : w1.cell? ⟨g1, 0, none⟩ = some (.int .i64 2) := blk_cell BK1.out 0))
  go_ret
  exact ⟨none, 0, rfl, Nat.le_refl _, Kd.C_nil _ _, HB.out⟩
set_option maxHeartbeats 16000000 in
set_option maxRecDepth 100000 in
theorem exprs_5 (x : S49) (cs : List Value) (w : World) (h : k49.K w x cs) (hk : x.f0 = 5) :
    Calls Try.prog 18 #[.agg cs.toArray] w (RetC k47 (([] : List S47)) w) := by
  have HX := Aside0.mk h
  obtain ⟨A7, c7, A8, c8, A19, c19, A30, c30, A41, c41, rfl, hl7, hC7, hl8, hC8, hl19, hC19, hl30, hC30, hl41, hC41⟩ := k49_open h
  have HL7 := Aside0.mk hl7
  have HL8 := Aside0.mk hl8
  have HC7 := Aside0.mk hC7
  have HC8 := Aside0.mk hC8
  have HE7 := Aside0.mk (k47_mk w x.f7 hl19 hC19)
  have HE8 := Aside0.mk (k47_mk w x.f8 hl30 hC30)
  have HE9 := Aside0.mk (k47_mk w x.f9 hl41 hC41)
  have hm8 : x.f6.length ≤ 9223372036854775807 := hC8.2.1
  have HB : Aside0 (Below w.heap.size w w) := ⟨Below.refl _ _⟩
  clear h hl7 hC7 hl8 hC8 hl19 hC19 hl30 hC30 hl41 hC41
  obtain ⟨kd, hkd⟩ : ∃ k, x.f0 = k := ⟨_, rfl⟩
  rw [hkd]
  obtain rfl : kd = 5 := hkd.symm.trans hk
  go_enter Try.func18, Try.ntmps18
  go_wp2_with (first | ((with_reducible refine gate_dst (N := 1) rfl ?_); refine box_event ?hg (N := 1) ?hd (cs := #[.int .i64 5, .string x.f1, .string x.f2.f0, .int .i64 x.f2.f1, .string x.f3.f0, .int .i64 x.f3.f1, .string x.f4, .slice A7 x.f5.length c7, .slice A8 x.f6.length c8, .int .i64 x.f7.f0, .string x.f7.f1.f0, .int .i64 x.f7.f1.f1, .string x.f7.f2.f0, .int .i64 x.f7.f2.f1, .string x.f7.f3.f0, .int .i64 x.f7.f3.f1, .string x.f7.f4.f0, .int .i64 x.f7.f4.f1, .string x.f7.f5, .slice A19 x.f7.f6.length c19, .int .i64 x.f8.f0, .string x.f8.f1.f0, .int .i64 x.f8.f1.f1, .string x.f8.f2.f0, .int .i64 x.f8.f2.f1, .string x.f8.f3.f0, .int .i64 x.f8.f3.f1, .string x.f8.f4.f0, .int .i64 x.f8.f4.f1, .string x.f8.f5, .slice A30 x.f8.f6.length c30, .int .i64 x.f9.f0, .string x.f9.f1.f0, .int .i64 x.f9.f1.f1, .string x.f9.f2.f0, .int .i64 x.f9.f2.f1, .string x.f9.f3.f0, .int .i64 x.f9.f3.f1, .string x.f9.f4.f0, .int .i64 x.f9.f4.f1, .string x.f9.f5, .slice A41 x.f9.f6.length c41]) (t := 49) ?hr ?_; (case hd => rfl); (case hg => rfl); (case hr => first | (go_simp; done) | (go_simp; rfl)); intro g1 hg_ w1 hbox_ hb_; have BK1 := Aside0.mk (hbox_); have GBK1 : Aside0 (w.heap.size ≤ g1) := ⟨by rw [hg_]; exact below_size HB.out⟩; replace HB : Aside0 (Below w.heap.size w w1) := ⟨below_step HB.out hb_⟩; clear hg_ hbox_ hb_; have hz0 : w1.cell? ⟨g1, 0, none⟩ = some (.int .i64 5) := blk_cell BK1.out 0))
  go_ret
  exact ⟨none, 0, rfl, Nat.le_refl _, Kd.C_nil _ _, HB.out⟩
set_option maxHeartbeats 16000000 in
set_option maxRecDepth 100000 in
theorem exprs_6 (x : S49) (cs : List Value) (w : World) (h : k49.K w x cs) (hk : x.f0 = 6) :
    Calls Try.prog 18 #[.agg cs.toArray] w (RetC k47 ([x.f8, x.f7, x.f9]) w) := by
  have HX := Aside0.mk h
  obtain ⟨A7, c7, A8, c8, A19, c19, A30, c30, A41, c41, rfl, hl7, hC7, hl8, hC8, hl19, hC19, hl30, hC30, hl41, hC41⟩ := k49_open h
  have HL7 := Aside0.mk hl7
  have HL8 := Aside0.mk hl8
  have HC7 := Aside0.mk hC7
  have HC8 := Aside0.mk hC8
  have HE7 := Aside0.mk (k47_mk w x.f7 hl19 hC19)
  have HE8 := Aside0.mk (k47_mk w x.f8 hl30 hC30)
  have HE9 := Aside0.mk (k47_mk w x.f9 hl41 hC41)
  have hm8 : x.f6.length ≤ 9223372036854775807 := hC8.2.1
  have HB : Aside0 (Below w.heap.size w w) := ⟨Below.refl _ _⟩
  clear h hl7 hC7 hl8 hC8 hl19 hC19 hl30 hC30 hl41 hC41
  obtain ⟨kd, hkd⟩ : ∃ k, x.f0 = k := ⟨_, rfl⟩
  rw [hkd]
  obtain rfl : kd = 6 := hkd.symm.trans hk
  go_enter Try.func18, Try.ntmps18
  go_wp2_with (first | ((with_reducible refine gate_dst (N := 1) rfl ?_); refine box_event ?hg (N := 1) ?hd (cs := #[.int .i64 6, .string x.f1, .string x.f2.f0, .int .i64 x.f2.f1, .string x.f3.f0, .int .i64 x.f3.f1, .string x.f4, .slice A7 x.f5.length c7, .slice A8 x.f6.length c8, .int .i64 x.f7.f0, .string x.f7.f1.f0, .int .i64 x.f7.f1.f1, .string x.f7.f2.f0, .int .i64 x.f7.f2.f1, .string x.f7.f3.f0, .int .i64 x.f7.f3.f1, .string x.f7.f4.f0, .int .i64 x.f7.f4.f1, .string x.f7.f5, .slice A19 x.f7.f6.length c19, .int .i64 x.f8.f0, .string x.f8.f1.f0, .int .i64 x.f8.f1.f1, .string x.f8.f2.f0, .int .i64 x.f8.f2.f1, .string x.f8.f3.f0, .int .i64 x.f8.f3.f1, .string x.f8.f4.f0, .int .i64 x.f8.f4.f1, .string x.f8.f5, .slice A30 x.f8.f6.length c30, .int .i64 x.f9.f0, .string x.f9.f1.f0, .int .i64 x.f9.f1.f1, .string x.f9.f2.f0, .int .i64 x.f9.f2.f1, .string x.f9.f3.f0, .int .i64 x.f9.f3.f1, .string x.f9.f4.f0, .int .i64 x.f9.f4.f1, .string x.f9.f5, .slice A41 x.f9.f6.length c41]) (t := 49) ?hr ?_; (case hd => rfl); (case hg => rfl); (case hr => first | (go_simp; done) | (go_simp; rfl)); intro g1 hg_ w1 hbox_ hb_; have BK1 := Aside0.mk (hbox_); have GBK1 : Aside0 (w.heap.size ≤ g1) := ⟨by rw [hg_]; exact below_size HB.out⟩; replace HB : Aside0 (Below w.heap.size w w1) := ⟨below_step HB.out hb_⟩; clear hg_ hbox_ hb_; have hz0 : w1.cell? ⟨g1, 0, none⟩ = some (.int .i64 6) := blk_cell BK1.out 0; have hz9 : w1.cell? ⟨g1, 9, none⟩ = some (.int .i64 x.f7.f0) := blk_cell BK1.out 9; have hz10 : w1.cell? ⟨g1, 10, none⟩ = some (.string x.f7.f1.f0) := blk_cell BK1.out 10; have hz11 : w1.cell? ⟨g1, 11, none⟩ = some (.int .i64 x.f7.f1.f1) := blk_cell BK1.out 11; have hz12 : w1.cell? ⟨g1, 12, none⟩ = some (.string x.f7.f2.f0) := blk_cell BK1.out 12; have hz13 : w1.cell? ⟨g1, 13, none⟩ = some (.int .i64 x.f7.f2.f1) := blk_cell BK1.out 13; have hz14 : w1.cell? ⟨g1, 14, none⟩ = some (.string x.f7.f3.f0) := blk_cell BK1.out 14; have hz15 : w1.cell? ⟨g1, 15, none⟩ = some (.int .i64 x.f7.f3.f1) := blk_cell BK1.out 15; have hz16 : w1.cell? ⟨g1, 16, none⟩ = some (.string x.f7.f4.f0) := blk_cell BK1.out 16; have hz17 : w1.cell? ⟨g1, 17, none⟩ = some (.int .i64 x.f7.f4.f1) := blk_cell BK1.out 17; have hz18 : w1.cell? ⟨g1, 18, none⟩ = some (.string x.f7.f5) := blk_cell BK1.out 18; have hz19 : w1.cell? ⟨g1, 19, none⟩ = some (.slice A19 x.f7.f6.length c19) := blk_cell BK1.out 19; have hz20 : w1.cell? ⟨g1, 20, none⟩ = some (.int .i64 x.f8.f0) := blk_cell BK1.out 20; have hz21 : w1.cell? ⟨g1, 21, none⟩ = some (.string x.f8.f1.f0) := blk_cell BK1.out 21; have hz22 : w1.cell? ⟨g1, 22, none⟩ = some (.int .i64 x.f8.f1.f1) := blk_cell BK1.out 22; have hz23 : w1.cell? ⟨g1, 23, none⟩ = some (.string x.f8.f2.f0) := blk_cell BK1.out 23; have hz24 : w1.cell? ⟨g1, 24, none⟩ = some (.int .i64 x.f8.f2.f1) := blk_cell BK1.out 24; have hz25 : w1.cell? ⟨g1, 25, none⟩ = some (.string x.f8.f3.f0) := blk_cell BK1.out 25; have hz26 : w1.cell? ⟨g1, 26, none⟩ = some (.int .i64 x.f8.f3.f1) := blk_cell BK1.out 26; have hz27 : w1.cell? ⟨g1, 27, none⟩ = some (.string x.f8.f4.f0) := blk_cell BK1.out 27; have hz28 : w1.cell? ⟨g1, 28, none⟩ = some (.int .i64 x.f8.f4.f1) := blk_cell BK1.out 28; have hz29 : w1.cell? ⟨g1, 29, none⟩ = some (.string x.f8.f5) := blk_cell BK1.out 29; have hz30 : w1.cell? ⟨g1, 30, none⟩ = some (.slice A30 x.f8.f6.length c30) := blk_cell BK1.out 30; have hz31 : w1.cell? ⟨g1, 31, none⟩ = some (.int .i64 x.f9.f0) := blk_cell BK1.out 31; have hz32 : w1.cell? ⟨g1, 32, none⟩ = some (.string x.f9.f1.f0) := blk_cell BK1.out 32; have hz33 : w1.cell? ⟨g1, 33, none⟩ = some (.int .i64 x.f9.f1.f1) := blk_cell BK1.out 33; have hz34 : w1.cell? ⟨g1, 34, none⟩ = some (.string x.f9.f2.f0) := blk_cell BK1.out 34; have hz35 : w1.cell? ⟨g1, 35, none⟩ = some (.int .i64 x.f9.f2.f1) := blk_cell BK1.out 35; have hz36 : w1.cell? ⟨g1, 36, none⟩ = some (.string x.f9.f3.f0) := blk_cell BK1.out 36; have hz37 : w1.cell? ⟨g1, 37, none⟩ = some (.int .i64 x.f9.f3.f1) := blk_cell BK1.out 37; have hz38 : w1.cell? ⟨g1, 38, none⟩ = some (.string x.f9.f4.f0) := blk_cell BK1.out 38; have hz39 : w1.cell? ⟨g1, 39, none⟩ = some (.int .i64 x.f9.f4.f1) := blk_cell BK1.out 39; have hz40 : w1.cell? ⟨g1, 40, none⟩ = some (.string x.f9.f5) := blk_cell BK1.out 40; have hz41 : w1.cell? ⟨g1, 41, none⟩ = some (.slice A41 x.f9.f6.length c41) := blk_cell BK1.out 41) | ((with_reducible refine gate_dst (N := 18) rfl ?_); refine Kd.R_lit (Kd.fixed k47 w) _ 47 ?hg (N := 18) ?hd (xs := [x.f8, x.f7, x.f9]) (inner := [.int .i64 x.f8.f0, .string x.f8.f1.f0, .int .i64 x.f8.f1.f1, .string x.f8.f2.f0, .int .i64 x.f8.f2.f1, .string x.f8.f3.f0, .int .i64 x.f8.f3.f1, .string x.f8.f4.f0, .int .i64 x.f8.f4.f1, .string x.f8.f5, .slice A30 x.f8.f6.length c30, .int .i64 x.f7.f0, .string x.f7.f1.f0, .int .i64 x.f7.f1.f1, .string x.f7.f2.f0, .int .i64 x.f7.f2.f1, .string x.f7.f3.f0, .int .i64 x.f7.f3.f1, .string x.f7.f4.f0, .int .i64 x.f7.f4.f1, .string x.f7.f5, .slice A19 x.f7.f6.length c19, .int .i64 x.f9.f0, .string x.f9.f1.f0, .int .i64 x.f9.f1.f1, .string x.f9.f2.f0, .int .i64 x.f9.f2.f1, .string x.f9.f3.f0, .int .i64 x.f9.f3.f1, .string x.f9.f4.f0, .int .i64 x.f9.f4.f1, .string x.f9.f5, .slice A41 x.f9.f6.length c41]) (ok := fun _ => True) (okp := fun _ => True) ?hr ?hp (fun _ hk => hk) trivial (Below.refl _ _) (Nat.le_refl _) (by simp) ?_; (case hd => rfl); (case hg => rfl); (case hr => first | (go_simp; done) | (go_simp; rfl)); (case hp => exact (Reps.snoc (Reps.snoc (Reps.snoc (Reps.none _ _) (show k47.K w x.f8 _ from HE8.out) rfl) (show k47.K w x.f7 _ from HE7.out) rfl) (show k47.K w x.f9 _ from HE9.out) rfl)); intro v_ wl ho_ hb_ hg_ hn_; have HO : Aside0 ((Kd.fixed k47 w).R 47 wl w1.heap.size (fun _ => True) v_ [x.f8, x.f7, x.f9]) := ⟨ho_⟩; have HBL : Aside0 (Below w.heap.size w wl) := ⟨below_step HB.out hb_⟩; clear ho_ hb_ hg_ hn_))
  go_ret
  obtain ⟨A, c, rfl, hle, hC⟩ := Kd.R_reads HO.out
  exact ⟨A, c, rfl, hle, C_fixed HBL.out hC, HBL.out⟩
set_option maxHeartbeats 16000000 in
set_option maxRecDepth 100000 in
theorem exprs_0 (x : S49) (cs : List Value) (w : World) (h : k49.K w x cs) (hk : x.f0 ≠ 2 ∧ x.f0 ≠ 5 ∧ x.f0 ≠ 6 ∧ x.f0 ≠ 7) :
    Calls Try.prog 18 #[.agg cs.toArray] w (RetC k47 ([x.f7]) w) := by
  have HX := Aside0.mk h
  obtain ⟨A7, c7, A8, c8, A19, c19, A30, c30, A41, c41, rfl, hl7, hC7, hl8, hC8, hl19, hC19, hl30, hC30, hl41, hC41⟩ := k49_open h
  have HL7 := Aside0.mk hl7
  have HL8 := Aside0.mk hl8
  have HC7 := Aside0.mk hC7
  have HC8 := Aside0.mk hC8
  have HE7 := Aside0.mk (k47_mk w x.f7 hl19 hC19)
  have HE8 := Aside0.mk (k47_mk w x.f8 hl30 hC30)
  have HE9 := Aside0.mk (k47_mk w x.f9 hl41 hC41)
  have hm8 : x.f6.length ≤ 9223372036854775807 := hC8.2.1
  have HB : Aside0 (Below w.heap.size w w) := ⟨Below.refl _ _⟩
  clear h hl7 hC7 hl8 hC8 hl19 hC19 hl30 hC30 hl41 hC41
  obtain ⟨kd, hkd⟩ : ∃ k, x.f0 = k := ⟨_, rfl⟩
  rw [hkd]
  have e2 : (kd == 2) = false := by simp; omega
  have e5 : (kd == 5) = false := by simp; omega
  have e6 : (kd == 6) = false := by simp; omega
  have e7 : (kd == 7) = false := by simp; omega
  clear hk
  go_enter Try.func18, Try.ntmps18
  go_wp2_with (first | ((with_reducible refine gate_dst (N := 1) rfl ?_); refine box_event ?hg (N := 1) ?hd (cs := #[.int .i64 kd, .string x.f1, .string x.f2.f0, .int .i64 x.f2.f1, .string x.f3.f0, .int .i64 x.f3.f1, .string x.f4, .slice A7 x.f5.length c7, .slice A8 x.f6.length c8, .int .i64 x.f7.f0, .string x.f7.f1.f0, .int .i64 x.f7.f1.f1, .string x.f7.f2.f0, .int .i64 x.f7.f2.f1, .string x.f7.f3.f0, .int .i64 x.f7.f3.f1, .string x.f7.f4.f0, .int .i64 x.f7.f4.f1, .string x.f7.f5, .slice A19 x.f7.f6.length c19, .int .i64 x.f8.f0, .string x.f8.f1.f0, .int .i64 x.f8.f1.f1, .string x.f8.f2.f0, .int .i64 x.f8.f2.f1, .string x.f8.f3.f0, .int .i64 x.f8.f3.f1, .string x.f8.f4.f0, .int .i64 x.f8.f4.f1, .string x.f8.f5, .slice A30 x.f8.f6.length c30, .int .i64 x.f9.f0, .string x.f9.f1.f0, .int .i64 x.f9.f1.f1, .string x.f9.f2.f0, .int .i64 x.f9.f2.f1, .string x.f9.f3.f0, .int .i64 x.f9.f3.f1, .string x.f9.f4.f0, .int .i64 x.f9.f4.f1, .string x.f9.f5, .slice A41 x.f9.f6.length c41]) (t := 49) ?hr ?_; (case hd => rfl); (case hg => rfl); (case hr => first | (go_simp; done) | (go_simp; rfl)); intro g1 hg_ w1 hbox_ hb_; have BK1 := Aside0.mk (hbox_); have GBK1 : Aside0 (w.heap.size ≤ g1) := ⟨by rw [hg_]; exact below_size HB.out⟩; replace HB : Aside0 (Below w.heap.size w w1) := ⟨below_step HB.out hb_⟩; clear hg_ hbox_ hb_; have hz0 : w1.cell? ⟨g1, 0, none⟩ = some (.int .i64 kd) := blk_cell BK1.out 0; have hz9 : w1.cell? ⟨g1, 9, none⟩ = some (.int .i64 x.f7.f0) := blk_cell BK1.out 9; have hz10 : w1.cell? ⟨g1, 10, none⟩ = some (.string x.f7.f1.f0) := blk_cell BK1.out 10; have hz11 : w1.cell? ⟨g1, 11, none⟩ = some (.int .i64 x.f7.f1.f1) := blk_cell BK1.out 11; have hz12 : w1.cell? ⟨g1, 12, none⟩ = some (.string x.f7.f2.f0) := blk_cell BK1.out 12; have hz13 : w1.cell? ⟨g1, 13, none⟩ = some (.int .i64 x.f7.f2.f1) := blk_cell BK1.out 13; have hz14 : w1.cell? ⟨g1, 14, none⟩ = some (.string x.f7.f3.f0) := blk_cell BK1.out 14; have hz15 : w1.cell? ⟨g1, 15, none⟩ = some (.int .i64 x.f7.f3.f1) := blk_cell BK1.out 15; have hz16 : w1.cell? ⟨g1, 16, none⟩ = some (.string x.f7.f4.f0) := blk_cell BK1.out 16; have hz17 : w1.cell? ⟨g1, 17, none⟩ = some (.int .i64 x.f7.f4.f1) := blk_cell BK1.out 17; have hz18 : w1.cell? ⟨g1, 18, none⟩ = some (.string x.f7.f5) := blk_cell BK1.out 18; have hz19 : w1.cell? ⟨g1, 19, none⟩ = some (.slice A19 x.f7.f6.length c19) := blk_cell BK1.out 19) | ((with_reducible refine gate_dst (N := 40) rfl ?_); refine Kd.R_lit (Kd.fixed k47 w) _ 47 ?hg (N := 40) ?hd (xs := [x.f7]) (inner := [.int .i64 x.f7.f0, .string x.f7.f1.f0, .int .i64 x.f7.f1.f1, .string x.f7.f2.f0, .int .i64 x.f7.f2.f1, .string x.f7.f3.f0, .int .i64 x.f7.f3.f1, .string x.f7.f4.f0, .int .i64 x.f7.f4.f1, .string x.f7.f5, .slice A19 x.f7.f6.length c19]) (ok := fun _ => True) (okp := fun _ => True) ?hr ?hp (fun _ hk => hk) trivial (Below.refl _ _) (Nat.le_refl _) (by simp) ?_; (case hd => rfl); (case hg => rfl); (case hr => first | (go_simp; done) | (go_simp; rfl)); (case hp => exact (Reps.snoc (Reps.none _ _) (show k47.K w x.f7 _ from HE7.out) rfl)); intro v_ wl ho_ hb_ hg_ hn_; have HO : Aside0 ((Kd.fixed k47 w).R 47 wl w1.heap.size (fun _ => True) v_ [x.f7]) := ⟨ho_⟩; have HBL : Aside0 (Below w.heap.size w wl) := ⟨below_step HB.out hb_⟩; clear ho_ hb_ hg_ hn_))
  go_ret
  obtain ⟨A, c, rfl, hle, hC⟩ := Kd.R_reads HO.out
  exact ⟨A, c, rfl, hle, C_fixed HBL.out hC, HBL.out⟩
set_option maxHeartbeats 16000000 in
set_option maxRecDepth 100000 in
theorem exprs_7 (x : S49) (cs : List Value) (w : World) (h : k49.K w x cs) (hk : x.f0 = 7) (hlen : x.f6.length * 160 ≤ 140737488351232) :
    Calls Try.prog 18 #[.agg cs.toArray] w (RetC k47 (x.f6.map (·.f1)) w) := by
  have HX := Aside0.mk h
  obtain ⟨A7, c7, A8, c8, A19, c19, A30, c30, A41, c41, rfl, hl7, hC7, hl8, hC8, hl19, hC19, hl30, hC30, hl41, hC41⟩ := k49_open h
  have HL7 := Aside0.mk hl7
  have HL8 := Aside0.mk hl8
  have HC7 := Aside0.mk hC7
  have HC8 := Aside0.mk hC8
  have HE7 := Aside0.mk (k47_mk w x.f7 hl19 hC19)
  have HE8 := Aside0.mk (k47_mk w x.f8 hl30 hC30)
  have HE9 := Aside0.mk (k47_mk w x.f9 hl41 hC41)
  have hm8 : x.f6.length ≤ 9223372036854775807 := hC8.2.1
  have HB : Aside0 (Below w.heap.size w w) := ⟨Below.refl _ _⟩
  clear h hl7 hC7 hl8 hC8 hl19 hC19 hl30 hC30 hl41 hC41
  obtain ⟨kd, hkd⟩ : ∃ k, x.f0 = k := ⟨_, rfl⟩
  rw [hkd]
  obtain rfl : kd = 7 := hkd.symm.trans hk
  obtain ⟨L, hL⟩ : ∃ L, x.f6.map (·.f1) = L := ⟨_, rfl⟩
  rw [hL]
  have HLL := Aside0.mk hL
  clear hL
  go_enter Try.func18, Try.ntmps18
  go_wp2_with (first | ((with_reducible refine gate_dst (N := 1) rfl ?_); refine box_event ?hg (N := 1) ?hd (cs := #[.int .i64 7, .string x.f1, .string x.f2.f0, .int .i64 x.f2.f1, .string x.f3.f0, .int .i64 x.f3.f1, .string x.f4, .slice A7 x.f5.length c7, .slice A8 x.f6.length c8, .int .i64 x.f7.f0, .string x.f7.f1.f0, .int .i64 x.f7.f1.f1, .string x.f7.f2.f0, .int .i64 x.f7.f2.f1, .string x.f7.f3.f0, .int .i64 x.f7.f3.f1, .string x.f7.f4.f0, .int .i64 x.f7.f4.f1, .string x.f7.f5, .slice A19 x.f7.f6.length c19, .int .i64 x.f8.f0, .string x.f8.f1.f0, .int .i64 x.f8.f1.f1, .string x.f8.f2.f0, .int .i64 x.f8.f2.f1, .string x.f8.f3.f0, .int .i64 x.f8.f3.f1, .string x.f8.f4.f0, .int .i64 x.f8.f4.f1, .string x.f8.f5, .slice A30 x.f8.f6.length c30, .int .i64 x.f9.f0, .string x.f9.f1.f0, .int .i64 x.f9.f1.f1, .string x.f9.f2.f0, .int .i64 x.f9.f2.f1, .string x.f9.f3.f0, .int .i64 x.f9.f3.f1, .string x.f9.f4.f0, .int .i64 x.f9.f4.f1, .string x.f9.f5, .slice A41 x.f9.f6.length c41]) (t := 49) ?hr ?_; (case hd => rfl); (case hg => rfl); (case hr => first | (go_simp; done) | (go_simp; rfl)); intro g1 hg_ w1 hbox_ hb_; have BK1 := Aside0.mk (hbox_); have GBK1 : Aside0 (w.heap.size ≤ g1) := ⟨by rw [hg_]; exact below_size HB.out⟩; replace HB : Aside0 (Below w.heap.size w w1) := ⟨below_step HB.out hb_⟩; clear hg_ hbox_ hb_; have hz0 : w1.cell? ⟨g1, 0, none⟩ = some (.int .i64 7) := blk_cell BK1.out 0))
  clear hz0
  have HO : Aside0 ((Kd.fixed k47 w).R 47 w1 w.heap.size (fun _ => True) (.slice none 0 0) ((x.f6.take 0).map (·.f1))) := ⟨Kd.R_nil _ _ _ _ _⟩
  go_loopw [3, 4] (fun a b wr => ∃ i : Nat, b = .int .i64 (i : Int) ∧ i ≤ x.f6.length ∧ Aside0 ((Kd.fixed k47 w).R 47 wr w.heap.size (fun _ => True) a ((x.f6.take i).map (·.f1))) ∧ Aside0 (wr.heap[g1]? = some (.cells #[.int .i64 7, .string x.f1, .string x.f2.f0, .int .i64 x.f2.f1, .string x.f3.f0, .int .i64 x.f3.f1, .string x.f4, .slice A7 x.f5.length c7, .slice A8 x.f6.length c8, .int .i64 x.f7.f0, .string x.f7.f1.f0, .int .i64 x.f7.f1.f1, .string x.f7.f2.f0, .int .i64 x.f7.f2.f1, .string x.f7.f3.f0, .int .i64 x.f7.f3.f1, .string x.f7.f4.f0, .int .i64 x.f7.f4.f1, .string x.f7.f5, .slice A19 x.f7.f6.length c19, .int .i64 x.f8.f0, .string x.f8.f1.f0, .int .i64 x.f8.f1.f1, .string x.f8.f2.f0, .int .i64 x.f8.f2.f1, .string x.f8.f3.f0, .int .i64 x.f8.f3.f1, .string x.f8.f4.f0, .int .i64 x.f8.f4.f1, .string x.f8.f5, .slice A30 x.f8.f6.length c30, .int .i64 x.f9.f0, .string x.f9.f1.f0, .int .i64 x.f9.f1.f1, .string x.f9.f2.f0, .int .i64 x.f9.f2.f1, .string x.f9.f3.f0, .int .i64 x.f9.f3.f1, .string x.f9.f4.f0, .int .i64 x.f9.f4.f1, .string x.f9.f5, .slice A41 x.f9.f6.length c41] 49 (0, 0))) ∧ Aside0 (Below w.heap.size w wr)) (fun _ b _ => x.f6.length - (intOf b).toNat)
  case atStart => exact ⟨0, rfl, Nat.zero_le _, HO, BK1, HB⟩
  case round =>

    clear HO BK1 HB
    obtain ⟨i, rfl, hi, HO, BK1, HB⟩ := hrel
    have hz8 : wr.cell? ⟨g1, 8, none⟩ = some (.slice A8 x.f6.length c8) := blk_cell BK1.out 8
    have hg1 : g1 < wr.heap.size := blk_lt BK1.out
    by_cases hlt : i < x.f6.length
    · obtain ⟨ad, E11, e11, rfl, hx0, hx1, hx2, hx3, hx4, hx5, hx6, hx7, hx8, hx9, hx10, hx11, hle, hCe⟩ := at64 HC8.out i hlt
      replace hx1 := pw_cell_below HB.out hx1
      replace hx2 := pw_cell_below HB.out hx2
      replace hx3 := pw_cell_below HB.out hx3
      replace hx4 := pw_cell_below HB.out hx4
      replace hx5 := pw_cell_below HB.out hx5
      replace hx6 := pw_cell_below HB.out hx6
      replace hx7 := pw_cell_below HB.out hx7
      replace hx8 := pw_cell_below HB.out hx8
      replace hx9 := pw_cell_below HB.out hx9
      replace hx10 := pw_cell_below HB.out hx10
      replace hx11 := pw_cell_below HB.out hx11
      have HK := Aside0.mk (k47_mk w x.f6[i].f1 hle hCe)
      have hst : (x.f6.take (i + 1)).map (·.f1) = (x.f6.take i).map (·.f1) ++ [x.f6[i].f1] := by rw [List.take_succ_eq_append_getElem hlt, List.map_append]; rfl
      have hll : ((x.f6.take i).map (·.f1)).length = i := by rw [List.length_map, List.length_take]; omega
      obtain ⟨y, hy⟩ : ∃ y, x.f6[i].f1 = y := ⟨_, rfl⟩
      rw [hy] at hx1 hx2 hx3 hx4 hx5 hx6 hx7 hx8 hx9 hx10 hx11 HK hst
      obtain ⟨T, hT⟩ : ∃ T, (x.f6.take i).map (·.f1) = T := ⟨_, rfl⟩
      rw [hT] at HO hst hll
      have HST := Aside0.mk hst
      have HTL : Aside0 ((T.length + 1) * 144 ≤ 140737488355328) := ⟨by omega⟩
      clear hle hCe hx0 hy hT hst hll
      go_wp2_with (first | (at_builtin; refine Kd.R_append (Kd.fixed k47 w) (w0 := w) w.heap.size rfl (.tmp 28) (.tmp 35) 45 47 _ 144 rfl Try.underlying45 info47 rfl (show 0 < 11 by decide) (by omega) u3 T y [.int .i64 y.f0, .string y.f1.f0, .int .i64 y.f1.f1, .string y.f2.f0, .int .i64 y.f2.f1, .string y.f3.f0, .int .i64 y.f3.f1, .string y.f4.f0, .int .i64 y.f4.f1, .string y.f5, .slice E11 y.f6.length e11] (fun _ => True) (fun _ => False) rfl rfl ?hp (fun _ h => h.elim) (fun _ _ => trivial) ?hO ?hB ?hs ?hl ?_; (case hp => exact HK.out); (case hO => exact HO.out); (case hB => exact HB.out); (case hs => exact below_size HB.out); (case hl => exact HTL.out); intro v1 w2 ho hb hgr hat; have HO2 := Aside0.mk ho; have HB2 := Aside0.mk hb; have BK2 : Aside0 (w2.heap[g1]? = some (.cells #[.int .i64 7, .string x.f1, .string x.f2.f0, .int .i64 x.f2.f1, .string x.f3.f0, .int .i64 x.f3.f1, .string x.f4, .slice A7 x.f5.length c7, .slice (some ad) x.f6.length c8, .int .i64 x.f7.f0, .string x.f7.f1.f0, .int .i64 x.f7.f1.f1, .string x.f7.f2.f0, .int .i64 x.f7.f2.f1, .string x.f7.f3.f0, .int .i64 x.f7.f3.f1, .string x.f7.f4.f0, .int .i64 x.f7.f4.f1, .string x.f7.f5, .slice A19 x.f7.f6.length c19, .int .i64 x.f8.f0, .string x.f8.f1.f0, .int .i64 x.f8.f1.f1, .string x.f8.f2.f0, .int .i64 x.f8.f2.f1, .string x.f8.f3.f0, .int .i64 x.f8.f3.f1, .string x.f8.f4.f0, .int .i64 x.f8.f4.f1, .string x.f8.f5, .slice A30 x.f8.f6.length c30, .int .i64 x.f9.f0, .string x.f9.f1.f0, .int .i64 x.f9.f1.f1, .string x.f9.f2.f0, .int .i64 x.f9.f2.f1, .string x.f9.f3.f0, .int .i64 x.f9.f3.f1, .string x.f9.f4.f0, .int .i64 x.f9.f4.f1, .string x.f9.f5, .slice A41 x.f9.f6.length c41] 49 (0, 0))) := ⟨blk_grown BK1.out hgr (Kd.R_ne HO.out BK1.out (by decide))⟩; clear ho hb hgr hat))
      go_roundw
      case rel => exact ⟨i + 1, by go_num, by omega, ⟨by rw [HST.out]; exact HO2.out⟩, BK2, HB2⟩
      case measure => simp [intOf]; omega
    · obtain rfl : i = x.f6.length := by omega
      rw [List.take_length] at HO
      rw [HLL.out] at HO
      obtain ⟨A, c, rfl, hle, hC⟩ := Kd.R_reads HO.out
      have HLE := Aside0.mk hle
      have HCC := Aside0.mk (C_fixed HB.out hC)
      clear hle hC
      go_wp2
      go_ret
      exact ⟨A, c, rfl, HLE.out, HCC.out, HB.out⟩
section
variable {P : Program} {ops : Array Oper} {rest : List Oper} {o : Oper} {a : Act} {Q : Exit → Act → World → Prop}
theorem run_loadVar_cells (w : World) (a0 : Addr) (ty : TypeId) (cs : List Value) (d : TypeDesc) (hc : ∀ (j : Nat) v, cs[j]? = some v → w.cell? (a0.add j) = some v)
    (hu : P.underlying ty = some d) (hd : (match d with | .struct _ | .array _ _ => true | _ => false) = true) (hi : (P.info? ty).map (·.size) = some cs.length) :
    (loadVar ty a0).run P w = .ok (.agg cs.toArray) w := by
  have hl : (loadCells a0 cs.length).run P w = .ok cs.toArray w := run_loadCells_list (P := P) w a0 cs hc
  cases hq : P.info? ty with
  | none => simp [hq] at hi
  | some i =>
    have hs : i.size = cs.length := by simpa [hq] using hi
    have hagg : (isAgg ty).run P w = .ok true w := by
      unfold isAgg
      rw [Sem.run_bind, run_underlying hu w]
      cases d <;> simp_all
    simp [loadVar, Sem.run_bind, hagg, Go.sizeOf, typeInfo, hq, hs, hl]
/-- A struct is read out of its cells. -/
theorem wpList_load_cells {w : World} (hgd : o.guard = none) (ty : TypeId) (x : Operand) (ho : o.op = .load ty x)
    (a0 : Addr) (hx : a.eval x = .pointer (some a0)) (cs : List Value) (hc : ∀ (j : Nat) v, cs[j]? = some v → w.cell? (a0.add j) = some v) (d : TypeDesc)
    (hu : P.underlying ty = some d) (hd : (match d with | .struct _ | .array _ _ => true | _ => false) = true) (hi : (P.info? ty).map (·.size) = some cs.length)
    (h : wpList P ops Q rest (a.put o.dst (.agg cs.toArray)) w) : wpList P ops Q (o :: rest) a w :=
  wpList_plain hgd fun _ hK => by
    unfold Oper.wp execOp
    simp only [ho, hx, Instr.loadAt, Instr.sureAddr, Sem.run_bind, Sem.run_pure, Result.andThen_ok, run_loadVar_cells w a0 ty cs d hc hu hd hi]
    exact hK _ _ h
/-- A struct is stored into a block of its own. -/
theorem wpList_store_box {W : World} (hN : o.dst = none) (hgd : o.guard = none) (t : TypeId) (p x : Operand) (ho : o.op = .store t p x) {g : Nat} {e : TypeId} {cur : Array Value} (cs : List Value) (hp : a.eval p = .pointer (some ⟨g, 0, none⟩)) (hx : a.eval x = .agg cs.toArray)
    (hg : W.heap[g]? = some (.cells cur e (0, 0))) (hsz : cur.size = cs.length) (ht : (P.info? t).map (·.size) = some cs.length) (h1 : ∀ q ∈ cs, q.oneCell' = true)
    (h : ∀ w1, w1.heap[g]? = some (.cells cs.toArray e (0, 0)) → (∀ k, k ≠ g → w1.heap[k]? = W.heap[k]?) → w1.heap.size = W.heap.size → (∀ B, B ≤ g → ∀ w0, Below B w0 W → Below B w0 w1) → wpList P ops Q rest a w1) : wpList P ops Q (o :: rest) a W := by
  have hrun := run_store_run (P := P) (w := W) (o := 0) t (.agg cs.toArray) cs hg rfl ht (by omega) h1
  obtain ⟨cur', h3, h4, h5⟩ := setCells_row cs 0 W cur hg (by omega)
  have hcur : cur' = cs.toArray := by
    apply Array.ext'
    rw [h5, List.take_zero, List.nil_append, List.drop_eq_nil_of_le (by rw [Array.length_toList]; omega), List.append_nil]
  subst hcur
  obtain ⟨s1, s2, s3, s4⟩ := setCells_same g cs 0 W
  have hfar := fun k hk => setCells_far (g := g) cs 0 (w := W) k hk
  refine wpList_plain hgd fun K hK => ?_
  unfold Oper.wp execOp
  simp only [ho, hp, hx, Sem.run_bind, Sem.run_pure, Result.andThen_ok, hrun]
  show K (a.put o.dst undef) _
  rw [hN]
  refine hK a _ (h _ h3 hfar s4 (fun B hB w0 hb => ⟨s1.trans hb.os, s2.trans hb.tape, s3.trans hb.output, by rw [s4]; exact hb.size, fun k hk => (hfar k (by omega)).trans (hb.block k hk)⟩))
/-- A value is stored into a block of its own. -/
theorem wpList_store_val {W : World} (hN : o.dst = none) (hgd : o.guard = none) (t : TypeId) (p x : Operand) (ho : o.op = .store t p x) {g : Nat} {e : TypeId} {cur : Array Value} (u : Value) (cs : List Value) (hu : u.cells.toList = cs) (hp : a.eval p = .pointer (some ⟨g, 0, none⟩)) (hx : a.eval x = u)
    (hg : W.heap[g]? = some (.cells cur e (0, 0))) (hsz : cur.size = cs.length) (ht : (P.info? t).map (·.size) = some cs.length) (h1 : ∀ q ∈ cs, q.oneCell' = true)
    (h : ∀ w1, w1.heap[g]? = some (.cells cs.toArray e (0, 0)) → (∀ k, k ≠ g → w1.heap[k]? = W.heap[k]?) → w1.heap.size = W.heap.size → (∀ B, B ≤ g → ∀ w0, Below B w0 W → Below B w0 w1) → wpList P ops Q rest a w1) : wpList P ops Q (o :: rest) a W := by
  have hrun := run_store_run (P := P) (w := W) (o := 0) t u cs hg hu ht (by omega) h1
  obtain ⟨cur', h3, h4, h5⟩ := setCells_row cs 0 W cur hg (by omega)
  have hcur : cur' = cs.toArray := by
    apply Array.ext'
    rw [h5, List.take_zero, List.nil_append, List.drop_eq_nil_of_le (by rw [Array.length_toList]; omega), List.append_nil]
  subst hcur
  obtain ⟨s1, s2, s3, s4⟩ := setCells_same g cs 0 W
  have hfar := fun k hk => setCells_far (g := g) cs 0 (w := W) k hk
  refine wpList_plain hgd fun K hK => ?_
  unfold Oper.wp execOp
  simp only [ho, hp, hx, Sem.run_bind, Sem.run_pure, Result.andThen_ok, hrun]
  show K (a.put o.dst undef) _
  rw [hN]
  refine hK a _ (h _ h3 hfar s4 (fun B hB w0 hb => ⟨s1.trans hb.os, s2.trans hb.tape, s3.trans hb.output, by rw [s4]; exact hb.size, fun k hk => (hfar k (by omega)).trans (hb.block k hk)⟩))
end
end Go.Proofs.Ytnfhlhjbmcofoaa.S
