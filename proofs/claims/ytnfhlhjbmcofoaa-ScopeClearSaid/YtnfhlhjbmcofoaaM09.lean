/- Scope: walks and plain laws of this seat's functions, merged out of smaller texts of this session (ScZ). -/
import Derived.Test.YtnfhlhjbmcofoaaM08
namespace Go.Proofs.Ytnfhlhjbmcofoaa.S
open Go.RowKit Go.Proofs.YtnfhlhjbmcofoaaW.PrintWords Go.Proofs.YtnfhlhjbmcofoaaW.PrintLast
set_option linter.unusedVariables false
set_option linter.unusedSimpArgs false
/-- What is wrong with an item by its kind, with its numbers. -/
def skindS (l : List S34) (n : Int) (m : S34) (x : S49) : Int := if kindOfS l n m x ≠ 0 then kindOfS l n m x else dimsS m.f1 (dimsL x)
theorem dims_nil (ps : List ByteArray) : dimsS ps [] = 0 := rfl
set_option maxHeartbeats 16000000 in
set_option maxRecDepth 100000 in
theorem skind_k1 (A0 : Option Addr) (c0 : Nat) (l : List S34) (m : S34) (cs cx : List Value) (x : S49) (n : Int) (w : World) (h : LookAt w A0 c0 l m cs) (hx : k49.K w x cx) (hsm : ∀ m ∈ l, m.f2.length ≤ 1000) (hbl : x.f6.length * 160 ≤ 140737488351232) (hk : x.f0 = 1) :
    Calls Try.prog 45 #[.agg cs.toArray, .agg cx.toArray, .int .i64 n] w fun e w' => e = .returned (.int .i64 (skindS l n m x)) ∧ Below w.heap.size w w' := by
  obtain ⟨hc0, A1, c1, A2, c2, A3, c3, rfl, hKm, hl1, hC1, hl2, hC2, hl3, hC3⟩ := h
  have HC := Aside0.mk hc0
  have HMK := Aside0.mk hKm
  have HC1 := Aside0.mk hC1
  have HC2 := Aside0.mk hC2
  have HC3 := Aside0.mk hC3
  have HB : Aside0 (Below w.heap.size w w) := ⟨Below.refl _ _⟩
  have HLE := Aside0.mk (And.intro hl1 (And.intro hl2 hl3))
  have HXK := Aside0.mk hx
  obtain ⟨X7, y7, X8, y8, X19, y19, X30, y30, X41, y41, rfl, _⟩ := k49_open hx
  obtain ⟨r, hr⟩ : ∃ r, skindS l n m x = r := ⟨_, rfl⟩
  rw [hr]
  unfold skindS at hr
  have HSM := Aside0.mk hsm
  have hxf := HXK
  obtain ⟨kd, hkd⟩ : ∃ k, x.f0 = k := ⟨_, rfl⟩
  have HKD := Aside0.mk hkd
  rw [kindOf_n hkd] at hr
  unfold dimsL at hr
  rw [hkd] at hr HXK ⊢
  clear hxf hkd hx
  clear hc0 hKm hl1 hC1 hl2 hC2 hl3 hC3
  obtain rfl : kd = 1 := HKD.out.symm.trans hk
  have K1 := Aside0.mk (fun (cs' : List Value) w' (hLK : LookAt w' A0 c0 l m cs') DA dc hd => sdims_any A0 c0 l m cs' DA dc [x.f2] w' hLK hd)
  have HE : Aside0 (dimsS m.f1 [x.f2] = r) := ⟨hr⟩
  rw [HE.out] at K1
  clear hr hk HE
  go_enter Try.func45, Try.ntmps45
  go_wp2_with (first | ((with_reducible refine gate_dst (N := 3) rfl ?_); refine box_event ?hg (N := 3) ?hd (cs := #[.slice A0 l.length c0, .string m.f0, .slice A1 m.f1.length c1, .slice A2 m.f2.length c2, .slice A3 m.f3.length c3]) (t := 67) ?hr ?_; (case hd => rfl); (case hg => rfl); (case hr => first | (go_simp; done) | (go_simp; rfl)); intro g3 hg_ w3 hbox_ hb_; have BK3 := Aside0.mk (hbox_); have GBK3 : Aside0 (w.heap.size ≤ g3) := ⟨by rw [hg_]; exact below_size HB.out⟩; replace HB : Aside0 (Below w.heap.size w w3) := ⟨below_step HB.out hb_⟩; clear hg_ hbox_ hb_) | ((with_reducible refine gate_dst (N := 4) rfl ?_); refine box_event ?hg (N := 4) ?hd (cs := #[.int .i64 1, .string x.f1, .string x.f2.f0, .int .i64 x.f2.f1, .string x.f3.f0, .int .i64 x.f3.f1, .string x.f4, .slice X7 x.f5.length y7, .slice X8 x.f6.length y8, .int .i64 x.f7.f0, .string x.f7.f1.f0, .int .i64 x.f7.f1.f1, .string x.f7.f2.f0, .int .i64 x.f7.f2.f1, .string x.f7.f3.f0, .int .i64 x.f7.f3.f1, .string x.f7.f4.f0, .int .i64 x.f7.f4.f1, .string x.f7.f5, .slice X19 x.f7.f6.length y19, .int .i64 x.f8.f0, .string x.f8.f1.f0, .int .i64 x.f8.f1.f1, .string x.f8.f2.f0, .int .i64 x.f8.f2.f1, .string x.f8.f3.f0, .int .i64 x.f8.f3.f1, .string x.f8.f4.f0, .int .i64 x.f8.f4.f1, .string x.f8.f5, .slice X30 x.f8.f6.length y30, .int .i64 x.f9.f0, .string x.f9.f1.f0, .int .i64 x.f9.f1.f1, .string x.f9.f2.f0, .int .i64 x.f9.f2.f1, .string x.f9.f3.f0, .int .i64 x.f9.f3.f1, .string x.f9.f4.f0, .int .i64 x.f9.f4.f1, .string x.f9.f5, .slice X41 x.f9.f6.length y41]) (t := 49) ?hr ?_; (case hd => rfl); (case hg => rfl); (case hr => first | (go_simp; done) | (go_simp; rfl)); intro g4 hg_ w4 hbox_ hb_; replace BK3 := Aside0.mk (blk_below BK3.out hb_); have BK4 := Aside0.mk (hbox_); have GBK4 : Aside0 (w.heap.size ≤ g4) := ⟨by rw [hg_]; exact below_size HB.out⟩; replace HB : Aside0 (Below w.heap.size w w4) := ⟨below_step HB.out hb_⟩; clear hg_ hbox_ hb_; have hk0 : w4.cell? ⟨g4, 0, none⟩ = some (.int .i64 1) := blk_cell BK4.out 0; have hk2 : w4.cell? ⟨g4, 2, none⟩ = some (.string x.f2.f0) := blk_cell BK4.out 2; have hk3 : w4.cell? ⟨g4, 3, none⟩ = some (.int .i64 x.f2.f1) := blk_cell BK4.out 3) | ((with_reducible refine gate_dst (N := 11) rfl ?_); refine wpList_load_row rfl 67 (.tmp 3) rfl g3 rfl 67 #[.slice A0 l.length c0, .string m.f0, .slice A1 m.f1.length c1, .slice A2 m.f2.length c2, .slice A3 m.f3.length c3] (0, 0) _ ?hg Try.underlying67 rfl ?hi ?_; (case hg => exact BK3.out); (case hi => kernel_rfl)) | ((with_reducible refine gate_dst (N := 14) rfl ?_); refine Kd.R_lit k42 _ 42 ?hg (N := 14) ?hd (xs := [x.f2]) (inner := [.string x.f2.f0, .int .i64 x.f2.f1]) (ok := fun _ => True) (okp := fun _ => True) ?hr ?hp (fun _ hk => hk) trivial (Below.refl _ _) (Nat.le_refl _) (by simp) ?_; (case hd => rfl); (case hg => rfl); (case hr => first | (go_simp; done) | (go_simp; rfl)); (case hp => exact (Reps.snoc (Reps.none _ _) (k42_mkM _ _ _ x.f2) rfl)); intro v_ wl ho_ hb_ hg_ hn_; obtain ⟨KA, kc, rfl, hkl_, hkC_⟩ := Kd.R_reads ho_; have KL := Aside0.mk hkC_; replace BK3 := Aside0.mk (blk_below BK3.out hb_); replace BK4 := Aside0.mk (blk_below BK4.out hb_); replace HB := Aside0.mk (below_step HB.out hb_); clear ho_ hb_ hg_ hn_ hkl_ hkC_))
  refine (K1.out _ _ ⟨Kd.C_below HC.out HB.out, A1, c1, A2, c2, A3, c3, rfl, k34.K_below HB.out HMK.out, HLE.out.1, Kd.C_below HC1.out HB.out, HLE.out.2.1, Kd.C_below HC2.out HB.out, HLE.out.2.2, Kd.C_below HC3.out HB.out⟩ KA kc KL.out).mono ?_
  rintro e w5 ⟨rfl, hb⟩
  go_wp2
  go_ret
  exact ⟨rfl, below_step HB.out hb⟩
set_option maxHeartbeats 16000000 in
set_option maxRecDepth 100000 in
theorem skind_k2 (A0 : Option Addr) (c0 : Nat) (l : List S34) (m : S34) (cs cx : List Value) (x : S49) (n : Int) (w : World) (h : LookAt w A0 c0 l m cs) (hx : k49.K w x cx) (hsm : ∀ m ∈ l, m.f2.length ≤ 1000) (hbl : x.f6.length * 160 ≤ 140737488351232) (hk : x.f0 = 2) :
    Calls Try.prog 45 #[.agg cs.toArray, .agg cx.toArray, .int .i64 n] w fun e w' => e = .returned (.int .i64 (skindS l n m x)) ∧ Below w.heap.size w w' := by
  obtain ⟨hc0, A1, c1, A2, c2, A3, c3, rfl, hKm, hl1, hC1, hl2, hC2, hl3, hC3⟩ := h
  have HC := Aside0.mk hc0
  have HMK := Aside0.mk hKm
  have HC1 := Aside0.mk hC1
  have HC2 := Aside0.mk hC2
  have HC3 := Aside0.mk hC3
  have HB : Aside0 (Below w.heap.size w w) := ⟨Below.refl _ _⟩
  have HLE := Aside0.mk (And.intro hl1 (And.intro hl2 hl3))
  have HXK := Aside0.mk hx
  obtain ⟨X7, y7, X8, y8, X19, y19, X30, y30, X41, y41, rfl, _⟩ := k49_open hx
  obtain ⟨r, hr⟩ : ∃ r, skindS l n m x = r := ⟨_, rfl⟩
  rw [hr]
  unfold skindS at hr
  have HSM := Aside0.mk hsm
  have hxf := HXK
  obtain ⟨kd, hkd⟩ : ∃ k, x.f0 = k := ⟨_, rfl⟩
  have HKD := Aside0.mk hkd
  rw [kindOf_n hkd] at hr
  unfold dimsL at hr
  rw [hkd] at hr HXK ⊢
  clear hxf hkd hx
  clear hc0 hKm hl1 hC1 hl2 hC2 hl3 hC3
  obtain rfl : kd = 2 := HKD.out.symm.trans hk
  have K1 := Aside0.mk (fun (cs' : List Value) w' (hLK : LookAt w' A0 c0 l m cs') DA dc hd => sdims_any A0 c0 l m cs' DA dc [x.f2, x.f3] w' hLK hd)
  have HE : Aside0 (dimsS m.f1 [x.f2, x.f3] = r) := ⟨hr⟩
  rw [HE.out] at K1
  clear hr hk HE
  go_enter Try.func45, Try.ntmps45
  go_wp2_with (first | ((with_reducible refine gate_dst (N := 3) rfl ?_); refine box_event ?hg (N := 3) ?hd (cs := #[.slice A0 l.length c0, .string m.f0, .slice A1 m.f1.length c1, .slice A2 m.f2.length c2, .slice A3 m.f3.length c3]) (t := 67) ?hr ?_; (case hd => rfl); (case hg => rfl); (case hr => first | (go_simp; done) | (go_simp; rfl)); intro g3 hg_ w3 hbox_ hb_; have BK3 := Aside0.mk (hbox_); have GBK3 : Aside0 (w.heap.size ≤ g3) := ⟨by rw [hg_]; exact below_size HB.out⟩; replace HB : Aside0 (Below w.heap.size w w3) := ⟨below_step HB.out hb_⟩; clear hg_ hbox_ hb_) | ((with_reducible refine gate_dst (N := 4) rfl ?_); refine box_event ?hg (N := 4) ?hd (cs := #[.int .i64 2, .string x.f1, .string x.f2.f0, .int .i64 x.f2.f1, .string x.f3.f0, .int .i64 x.f3.f1, .string x.f4, .slice X7 x.f5.length y7, .slice X8 x.f6.length y8, .int .i64 x.f7.f0, .string x.f7.f1.f0, .int .i64 x.f7.f1.f1, .string x.f7.f2.f0, .int .i64 x.f7.f2.f1, .string x.f7.f3.f0, .int .i64 x.f7.f3.f1, .string x.f7.f4.f0, .int .i64 x.f7.f4.f1, .string x.f7.f5, .slice X19 x.f7.f6.length y19, .int .i64 x.f8.f0, .string x.f8.f1.f0, .int .i64 x.f8.f1.f1, .string x.f8.f2.f0, .int .i64 x.f8.f2.f1, .string x.f8.f3.f0, .int .i64 x.f8.f3.f1, .string x.f8.f4.f0, .int .i64 x.f8.f4.f1, .string x.f8.f5, .slice X30 x.f8.f6.length y30, .int .i64 x.f9.f0, .string x.f9.f1.f0, .int .i64 x.f9.f1.f1, .string x.f9.f2.f0, .int .i64 x.f9.f2.f1, .string x.f9.f3.f0, .int .i64 x.f9.f3.f1, .string x.f9.f4.f0, .int .i64 x.f9.f4.f1, .string x.f9.f5, .slice X41 x.f9.f6.length y41]) (t := 49) ?hr ?_; (case hd => rfl); (case hg => rfl); (case hr => first | (go_simp; done) | (go_simp; rfl)); intro g4 hg_ w4 hbox_ hb_; replace BK3 := Aside0.mk (blk_below BK3.out hb_); have BK4 := Aside0.mk (hbox_); have GBK4 : Aside0 (w.heap.size ≤ g4) := ⟨by rw [hg_]; exact below_size HB.out⟩; replace HB : Aside0 (Below w.heap.size w w4) := ⟨below_step HB.out hb_⟩; clear hg_ hbox_ hb_; have hk0 : w4.cell? ⟨g4, 0, none⟩ = some (.int .i64 2) := blk_cell BK4.out 0; have hk2 : w4.cell? ⟨g4, 2, none⟩ = some (.string x.f2.f0) := blk_cell BK4.out 2; have hk3 : w4.cell? ⟨g4, 3, none⟩ = some (.int .i64 x.f2.f1) := blk_cell BK4.out 3; have hk4 : w4.cell? ⟨g4, 4, none⟩ = some (.string x.f3.f0) := blk_cell BK4.out 4; have hk5 : w4.cell? ⟨g4, 5, none⟩ = some (.int .i64 x.f3.f1) := blk_cell BK4.out 5) | ((with_reducible refine gate_dst (N := 19) rfl ?_); refine wpList_load_row rfl 67 (.tmp 3) rfl g3 rfl 67 #[.slice A0 l.length c0, .string m.f0, .slice A1 m.f1.length c1, .slice A2 m.f2.length c2, .slice A3 m.f3.length c3] (0, 0) _ ?hg Try.underlying67 rfl ?hi ?_; (case hg => exact BK3.out); (case hi => kernel_rfl)) | ((with_reducible refine gate_dst (N := 24) rfl ?_); refine Kd.R_lit k42 _ 42 ?hg (N := 24) ?hd (xs := [x.f2, x.f3]) (inner := [.string x.f2.f0, .int .i64 x.f2.f1, .string x.f3.f0, .int .i64 x.f3.f1]) (ok := fun _ => True) (okp := fun _ => True) ?hr ?hp (fun _ hk => hk) trivial (Below.refl _ _) (Nat.le_refl _) (by simp) ?_; (case hd => rfl); (case hg => rfl); (case hr => first | (go_simp; done) | (go_simp; rfl)); (case hp => exact (Reps.snoc (Reps.snoc (Reps.none _ _) (k42_mkM _ _ _ x.f2) rfl) (k42_mkM _ _ _ x.f3) rfl)); intro v_ wl ho_ hb_ hg_ hn_; obtain ⟨KA, kc, rfl, hkl_, hkC_⟩ := Kd.R_reads ho_; have KL := Aside0.mk hkC_; replace BK3 := Aside0.mk (blk_below BK3.out hb_); replace BK4 := Aside0.mk (blk_below BK4.out hb_); replace HB := Aside0.mk (below_step HB.out hb_); clear ho_ hb_ hg_ hn_ hkl_ hkC_))
  refine (K1.out _ _ ⟨Kd.C_below HC.out HB.out, A1, c1, A2, c2, A3, c3, rfl, k34.K_below HB.out HMK.out, HLE.out.1, Kd.C_below HC1.out HB.out, HLE.out.2.1, Kd.C_below HC2.out HB.out, HLE.out.2.2, Kd.C_below HC3.out HB.out⟩ KA kc KL.out).mono ?_
  rintro e w5 ⟨rfl, hb⟩
  go_wp2
  go_ret
  exact ⟨rfl, below_step HB.out hb⟩
set_option maxHeartbeats 16000000 in
set_option maxRecDepth 100000 in
theorem skind_k5 (A0 : Option Addr) (c0 : Nat) (l : List S34) (m : S34) (cs cx : List Value) (x : S49) (n : Int) (w : World) (h : LookAt w A0 c0 l m cs) (hx : k49.K w x cx) (hsm : ∀ m ∈ l, m.f2.length ≤ 1000) (hbl : x.f6.length * 160 ≤ 140737488351232) (hk : x.f0 = 5) :
    Calls Try.prog 45 #[.agg cs.toArray, .agg cx.toArray, .int .i64 n] w fun e w' => e = .returned (.int .i64 (skindS l n m x)) ∧ Below w.heap.size w w' := by
  obtain ⟨hc0, A1, c1, A2, c2, A3, c3, rfl, hKm, hl1, hC1, hl2, hC2, hl3, hC3⟩ := h
  have HC := Aside0.mk hc0
  have HMK := Aside0.mk hKm
  have HC1 := Aside0.mk hC1
  have HC2 := Aside0.mk hC2
  have HC3 := Aside0.mk hC3
  have HB : Aside0 (Below w.heap.size w w) := ⟨Below.refl _ _⟩
  have HLE := Aside0.mk (And.intro hl1 (And.intro hl2 hl3))
  have HXK := Aside0.mk hx
  obtain ⟨X7, y7, X8, y8, X19, y19, X30, y30, X41, y41, rfl, _⟩ := k49_open hx
  obtain ⟨r, hr⟩ : ∃ r, skindS l n m x = r := ⟨_, rfl⟩
  rw [hr]
  unfold skindS at hr
  have HSM := Aside0.mk hsm
  have hxf := HXK
  obtain ⟨kd, hkd⟩ : ∃ k, x.f0 = k := ⟨_, rfl⟩
  have HKD := Aside0.mk hkd
  rw [kindOf_n hkd] at hr
  unfold dimsL at hr
  rw [hkd] at hr HXK ⊢
  clear hxf hkd hx
  clear hc0 hKm hl1 hC1 hl2 hC2 hl3 hC3
  obtain rfl : kd = 5 := HKD.out.symm.trans hk
  have K1 := Aside0.mk (fun (cs' : List Value) w' (hLK : LookAt w' A0 c0 l m cs') DA dc hd => sdims_any A0 c0 l m cs' DA dc [x.f2, x.f3] w' hLK hd)
  have HE : Aside0 (dimsS m.f1 [x.f2, x.f3] = r) := ⟨hr⟩
  rw [HE.out] at K1
  clear hr hk HE
  go_enter Try.func45, Try.ntmps45
  go_wp2_with (first | ((with_reducible refine gate_dst (N := 3) rfl ?_); refine box_event ?hg (N := 3) ?hd (cs := #[.slice A0 l.length c0, .string m.f0, .slice A1 m.f1.length c1, .slice A2 m.f2.length c2, .slice A3 m.f3.length c3]) (t := 67) ?hr ?_; (case hd => rfl); (case hg => rfl); (case hr => first | (go_simp; done) | (go_simp; rfl)); intro g3 hg_ w3 hbox_ hb_; have BK3 := Aside0.mk (hbox_); have GBK3 : Aside0 (w.heap.size ≤ g3) := ⟨by rw [hg_]; exact below_size HB.out⟩; replace HB : Aside0 (Below w.heap.size w w3) := ⟨below_step HB.out hb_⟩; clear hg_ hbox_ hb_) | ((with_reducible refine gate_dst (N := 4) rfl ?_); refine box_event ?hg (N := 4) ?hd (cs := #[.int .i64 5, .string x.f1, .string x.f2.f0, .int .i64 x.f2.f1, .string x.f3.f0, .int .i64 x.f3.f1, .string x.f4, .slice X7 x.f5.length y7, .slice X8 x.f6.length y8, .int .i64 x.f7.f0, .string x.f7.f1.f0, .int .i64 x.f7.f1.f1, .string x.f7.f2.f0, .int .i64 x.f7.f2.f1, .string x.f7.f3.f0, .int .i64 x.f7.f3.f1, .string x.f7.f4.f0, .int .i64 x.f7.f4.f1, .string x.f7.f5, .slice X19 x.f7.f6.length y19, .int .i64 x.f8.f0, .string x.f8.f1.f0, .int .i64 x.f8.f1.f1, .string x.f8.f2.f0, .int .i64 x.f8.f2.f1, .string x.f8.f3.f0, .int .i64 x.f8.f3.f1, .string x.f8.f4.f0, .int .i64 x.f8.f4.f1, .string x.f8.f5, .slice X30 x.f8.f6.length y30, .int .i64 x.f9.f0, .string x.f9.f1.f0, .int .i64 x.f9.f1.f1, .string x.f9.f2.f0, .int .i64 x.f9.f2.f1, .string x.f9.f3.f0, .int .i64 x.f9.f3.f1, .string x.f9.f4.f0, .int .i64 x.f9.f4.f1, .string x.f9.f5, .slice X41 x.f9.f6.length y41]) (t := 49) ?hr ?_; (case hd => rfl); (case hg => rfl); (case hr => first | (go_simp; done) | (go_simp; rfl)); intro g4 hg_ w4 hbox_ hb_; replace BK3 := Aside0.mk (blk_below BK3.out hb_); have BK4 := Aside0.mk (hbox_); have GBK4 : Aside0 (w.heap.size ≤ g4) := ⟨by rw [hg_]; exact below_size HB.out⟩; replace HB : Aside0 (Below w.heap.size w w4) := ⟨below_step HB.out hb_⟩; clear hg_ hbox_ hb_; have hk0 : w4.cell? ⟨g4, 0, none⟩ = some (.int .i64 5) := blk_cell BK4.out 0; have hk2 : w4.cell? ⟨g4, 2, none⟩ = some (.string x.f2.f0) := blk_cell BK4.out 2; have hk3 : w4.cell? ⟨g4, 3, none⟩ = some (.int .i64 x.f2.f1) := blk_cell BK4.out 3; have hk4 : w4.cell? ⟨g4, 4, none⟩ = some (.string x.f3.f0) := blk_cell BK4.out 4; have hk5 : w4.cell? ⟨g4, 5, none⟩ = some (.int .i64 x.f3.f1) := blk_cell BK4.out 5) | ((with_reducible refine gate_dst (N := 19) rfl ?_); refine wpList_load_row rfl 67 (.tmp 3) rfl g3 rfl 67 #[.slice A0 l.length c0, .string m.f0, .slice A1 m.f1.length c1, .slice A2 m.f2.length c2, .slice A3 m.f3.length c3] (0, 0) _ ?hg Try.underlying67 rfl ?hi ?_; (case hg => exact BK3.out); (case hi => kernel_rfl)) | ((with_reducible refine gate_dst (N := 24) rfl ?_); refine Kd.R_lit k42 _ 42 ?hg (N := 24) ?hd (xs := [x.f2, x.f3]) (inner := [.string x.f2.f0, .int .i64 x.f2.f1, .string x.f3.f0, .int .i64 x.f3.f1]) (ok := fun _ => True) (okp := fun _ => True) ?hr ?hp (fun _ hk => hk) trivial (Below.refl _ _) (Nat.le_refl _) (by simp) ?_; (case hd => rfl); (case hg => rfl); (case hr => first | (go_simp; done) | (go_simp; rfl)); (case hp => exact (Reps.snoc (Reps.snoc (Reps.none _ _) (k42_mkM _ _ _ x.f2) rfl) (k42_mkM _ _ _ x.f3) rfl)); intro v_ wl ho_ hb_ hg_ hn_; obtain ⟨KA, kc, rfl, hkl_, hkC_⟩ := Kd.R_reads ho_; have KL := Aside0.mk hkC_; replace BK3 := Aside0.mk (blk_below BK3.out hb_); replace BK4 := Aside0.mk (blk_below BK4.out hb_); replace HB := Aside0.mk (below_step HB.out hb_); clear ho_ hb_ hg_ hn_ hkl_ hkC_))
  refine (K1.out _ _ ⟨Kd.C_below HC.out HB.out, A1, c1, A2, c2, A3, c3, rfl, k34.K_below HB.out HMK.out, HLE.out.1, Kd.C_below HC1.out HB.out, HLE.out.2.1, Kd.C_below HC2.out HB.out, HLE.out.2.2, Kd.C_below HC3.out HB.out⟩ KA kc KL.out).mono ?_
  rintro e w5 ⟨rfl, hb⟩
  go_wp2
  go_ret
  exact ⟨rfl, below_step HB.out hb⟩
set_option maxHeartbeats 16000000 in
set_option maxRecDepth 100000 in
theorem skind_k3 (A0 : Option Addr) (c0 : Nat) (l : List S34) (m : S34) (cs cx : List Value) (x : S49) (n : Int) (w : World) (h : LookAt w A0 c0 l m cs) (hx : k49.K w x cx) (hsm : ∀ m ∈ l, m.f2.length ≤ 1000) (hbl : x.f6.length * 160 ≤ 140737488351232) (hk : x.f0 = 3) :
    Calls Try.prog 45 #[.agg cs.toArray, .agg cx.toArray, .int .i64 n] w fun e w' => e = .returned (.int .i64 (skindS l n m x)) ∧ Below w.heap.size w w' := by
  obtain ⟨hc0, A1, c1, A2, c2, A3, c3, rfl, hKm, hl1, hC1, hl2, hC2, hl3, hC3⟩ := h
  have HC := Aside0.mk hc0
  have HMK := Aside0.mk hKm
  have HC1 := Aside0.mk hC1
  have HC2 := Aside0.mk hC2
  have HC3 := Aside0.mk hC3
  have HB : Aside0 (Below w.heap.size w w) := ⟨Below.refl _ _⟩
  have HLE := Aside0.mk (And.intro hl1 (And.intro hl2 hl3))
  have HXK := Aside0.mk hx
  obtain ⟨X7, y7, X8, y8, X19, y19, X30, y30, X41, y41, rfl, _⟩ := k49_open hx
  obtain ⟨r, hr⟩ : ∃ r, skindS l n m x = r := ⟨_, rfl⟩
  rw [hr]
  unfold skindS at hr
  have HSM := Aside0.mk hsm
  have hxf := HXK
  obtain ⟨kd, hkd⟩ : ∃ k, x.f0 = k := ⟨_, rfl⟩
  have HKD := Aside0.mk hkd
  rw [kindOf_n hkd] at hr
  unfold dimsL at hr
  rw [hkd] at hr HXK ⊢
  clear hxf hkd hx
  clear hc0 hKm hl1 hC1 hl2 hC2 hl3 hC3
  obtain rfl : kd = 3 := HKD.out.symm.trans hk
  have K1 := Aside0.mk (fun (cs' : List Value) w' (hLK : LookAt w' A0 c0 l m cs') DA dc hd => sis_any A0 c0 l m cs' x.f1 DA dc [5] w' hLK hd)
  rw [is_1] at K1
  obtain ⟨a, ha⟩ : ∃ a, amongS (kindS m x.f1).1 5 5 5 = a := ⟨_, rfl⟩
  have HE : Aside0 (a = r) := ⟨by rw [← hr]; simp only [ha]; simp [dims_nil]⟩
  rw [ha] at K1
  clear hr hk ha
  obtain rfl := HE.out
  clear HE
  go_enter Try.func45, Try.ntmps45
  go_wp2_with (first | ((with_reducible refine gate_dst (N := 3) rfl ?_); refine box_event ?hg (N := 3) ?hd (cs := #[.slice A0 l.length c0, .string m.f0, .slice A1 m.f1.length c1, .slice A2 m.f2.length c2, .slice A3 m.f3.length c3]) (t := 67) ?hr ?_; (case hd => rfl); (case hg => rfl); (case hr => first | (go_simp; done) | (go_simp; rfl)); intro g3 hg_ w3 hbox_ hb_; have BK3 := Aside0.mk (hbox_); have GBK3 : Aside0 (w.heap.size ≤ g3) := ⟨by rw [hg_]; exact below_size HB.out⟩; replace HB : Aside0 (Below w.heap.size w w3) := ⟨below_step HB.out hb_⟩; clear hg_ hbox_ hb_) | ((with_reducible refine gate_dst (N := 4) rfl ?_); refine box_event ?hg (N := 4) ?hd (cs := #[.int .i64 3, .string x.f1, .string x.f2.f0, .int .i64 x.f2.f1, .string x.f3.f0, .int .i64 x.f3.f1, .string x.f4, .slice X7 x.f5.length y7, .slice X8 x.f6.length y8, .int .i64 x.f7.f0, .string x.f7.f1.f0, .int .i64 x.f7.f1.f1, .string x.f7.f2.f0, .int .i64 x.f7.f2.f1, .string x.f7.f3.f0, .int .i64 x.f7.f3.f1, .string x.f7.f4.f0, .int .i64 x.f7.f4.f1, .string x.f7.f5, .slice X19 x.f7.f6.length y19, .int .i64 x.f8.f0, .string x.f8.f1.f0, .int .i64 x.f8.f1.f1, .string x.f8.f2.f0, .int .i64 x.f8.f2.f1, .string x.f8.f3.f0, .int .i64 x.f8.f3.f1, .string x.f8.f4.f0, .int .i64 x.f8.f4.f1, .string x.f8.f5, .slice X30 x.f8.f6.length y30, .int .i64 x.f9.f0, .string x.f9.f1.f0, .int .i64 x.f9.f1.f1, .string x.f9.f2.f0, .int .i64 x.f9.f2.f1, .string x.f9.f3.f0, .int .i64 x.f9.f3.f1, .string x.f9.f4.f0, .int .i64 x.f9.f4.f1, .string x.f9.f5, .slice X41 x.f9.f6.length y41]) (t := 49) ?hr ?_; (case hd => rfl); (case hg => rfl); (case hr => first | (go_simp; done) | (go_simp; rfl)); intro g4 hg_ w4 hbox_ hb_; replace BK3 := Aside0.mk (blk_below BK3.out hb_); have BK4 := Aside0.mk (hbox_); have GBK4 : Aside0 (w.heap.size ≤ g4) := ⟨by rw [hg_]; exact below_size HB.out⟩; replace HB : Aside0 (Below w.heap.size w w4) := ⟨below_step HB.out hb_⟩; clear hg_ hbox_ hb_; have hk0 : w4.cell? ⟨g4, 0, none⟩ = some (.int .i64 3) := blk_cell BK4.out 0; have hk1 : w4.cell? ⟨g4, 1, none⟩ = some (.string x.f1) := blk_cell BK4.out 1) | ((with_reducible refine gate_dst (N := 34) rfl ?_); refine wpList_load_row rfl 67 (.tmp 3) rfl g3 rfl 67 #[.slice A0 l.length c0, .string m.f0, .slice A1 m.f1.length c1, .slice A2 m.f2.length c2, .slice A3 m.f3.length c3] (0, 0) _ ?hg Try.underlying67 rfl ?hi ?_; (case hg => exact BK3.out); (case hi => kernel_rfl)) | ((with_reducible refine gate_dst (N := 37) rfl ?_); refine Kd.R_lit (Kd.int .i64) _ 3 ?hg (N := 37) ?hd (xs := [5]) (inner := [.int .i64 5]) (ok := fun _ => True) (okp := fun _ => True) ?hr ?hp (fun _ hk => hk) trivial (Below.refl _ _) (Nat.le_refl _) (by simp) ?_; (case hd => rfl); (case hg => rfl); (case hr => first | (go_simp; done) | (go_simp; rfl)); (case hp => exact (Reps.snoc (Reps.none _ _) (iM 5 _ _ _) rfl)); intro v_ wl ho_ hb_ hg_ hn_; obtain ⟨KA, kc, rfl, hkl_, hkC_⟩ := Kd.R_reads ho_; have KL := Aside0.mk hkC_; replace BK3 := Aside0.mk (blk_below BK3.out hb_); replace BK4 := Aside0.mk (blk_below BK4.out hb_); replace HB := Aside0.mk (below_step HB.out hb_); clear ho_ hb_ hg_ hn_ hkl_ hkC_))
  refine (K1.out _ _ ⟨Kd.C_below HC.out HB.out, A1, c1, A2, c2, A3, c3, rfl, k34.K_below HB.out HMK.out, HLE.out.1, Kd.C_below HC1.out HB.out, HLE.out.2.1, Kd.C_below HC2.out HB.out, HLE.out.2.2, Kd.C_below HC3.out HB.out⟩ KA kc KL.out).mono ?_
  rintro e w5 ⟨rfl, hb⟩
  go_wp2
  go_ret
  exact ⟨rfl, below_step HB.out hb⟩
set_option maxHeartbeats 16000000 in
set_option maxRecDepth 100000 in
theorem skind_k4 (A0 : Option Addr) (c0 : Nat) (l : List S34) (m : S34) (cs cx : List Value) (x : S49) (n : Int) (w : World) (h : LookAt w A0 c0 l m cs) (hx : k49.K w x cx) (hsm : ∀ m ∈ l, m.f2.length ≤ 1000) (hbl : x.f6.length * 160 ≤ 140737488351232) (hk : x.f0 = 4) :
    Calls Try.prog 45 #[.agg cs.toArray, .agg cx.toArray, .int .i64 n] w fun e w' => e = .returned (.int .i64 (skindS l n m x)) ∧ Below w.heap.size w w' := by
  obtain ⟨hc0, A1, c1, A2, c2, A3, c3, rfl, hKm, hl1, hC1, hl2, hC2, hl3, hC3⟩ := h
  have HC := Aside0.mk hc0
  have HMK := Aside0.mk hKm
  have HC1 := Aside0.mk hC1
  have HC2 := Aside0.mk hC2
  have HC3 := Aside0.mk hC3
  have HB : Aside0 (Below w.heap.size w w) := ⟨Below.refl _ _⟩
  have HLE := Aside0.mk (And.intro hl1 (And.intro hl2 hl3))
  have HXK := Aside0.mk hx
  obtain ⟨X7, y7, X8, y8, X19, y19, X30, y30, X41, y41, rfl, _⟩ := k49_open hx
  obtain ⟨r, hr⟩ : ∃ r, skindS l n m x = r := ⟨_, rfl⟩
  rw [hr]
  unfold skindS at hr
  have HSM := Aside0.mk hsm
  have hxf := HXK
  obtain ⟨kd, hkd⟩ : ∃ k, x.f0 = k := ⟨_, rfl⟩
  have HKD := Aside0.mk hkd
  rw [kindOf_n hkd] at hr
  unfold dimsL at hr
  rw [hkd] at hr HXK ⊢
  clear hxf hkd hx
  clear hc0 hKm hl1 hC1 hl2 hC2 hl3 hC3
  obtain rfl : kd = 4 := HKD.out.symm.trans hk
  have K1 := Aside0.mk (fun (cs' : List Value) w' (hLK : LookAt w' A0 c0 l m cs') DA dc hd => sis_any A0 c0 l m cs' x.f1 DA dc [3] w' hLK hd)
  rw [is_1] at K1
  obtain ⟨a, ha⟩ : ∃ a, amongS (kindS m x.f1).1 3 3 3 = a := ⟨_, rfl⟩
  have HE : Aside0 (a = r) := ⟨by rw [← hr]; simp only [ha]; simp [dims_nil]⟩
  rw [ha] at K1
  clear hr hk ha
  obtain rfl := HE.out
  clear HE
  go_enter Try.func45, Try.ntmps45
  go_wp2_with (first | ((with_reducible refine gate_dst (N := 3) rfl ?_); refine box_event ?hg (N := 3) ?hd (cs := #[.slice A0 l.length c0, .string m.f0, .slice A1 m.f1.length c1, .slice A2 m.f2.length c2, .slice A3 m.f3.length c3]) (t := 67) ?hr ?_; (case hd => rfl); (case hg => rfl); (case hr => first | (go_simp; done) | (go_simp; rfl)); intro g3 hg_ w3 hbox_ hb_; have BK3 := Aside0.mk (hbox_); have GBK3 : Aside0 (w.heap.size ≤ g3) := ⟨by rw [hg_]; exact below_size HB.out⟩; replace HB : Aside0 (Below w.heap.size w w3) := ⟨below_step HB.out hb_⟩; clear hg_ hbox_ hb_) | ((with_reducible refine gate_dst (N := 4) rfl ?_); refine box_event ?hg (N := 4) ?hd (cs := #[.int .i64 4, .string x.f1, .string x.f2.f0, .int .i64 x.f2.f1, .string x.f3.f0, .int .i64 x.f3.f1, .string x.f4, .slice X7 x.f5.length y7, .slice X8 x.f6.length y8, .int .i64 x.f7.f0, .string x.f7.f1.f0, .int .i64 x.f7.f1.f1, .string x.f7.f2.f0, .int .i64 x.f7.f2.f1, .string x.f7.f3.f0, .int .i64 x.f7.f3.f1, .string x.f7.f4.f0, .int .i64 x.f7.f4.f1, .string x.f7.f5, .slice X19 x.f7.f6.length y19, .int .i64 x.f8.f0, .string x.f8.f1.f0, .int .i64 x.f8.f1.f1, .string x.f8.f2.f0, .int .i64 x.f8.f2.f1, .string x.f8.f3.f0, .int .i64 x.f8.f3.f1, .string x.f8.f4.f0, .int .i64 x.f8.f4.f1, .string x.f8.f5, .slice X30 x.f8.f6.length y30, .int .i64 x.f9.f0, .string x.f9.f1.f0, .int .i64 x.f9.f1.f1, .string x.f9.f2.f0, .int .i64 x.f9.f2.f1, .string x.f9.f3.f0, .int .i64 x.f9.f3.f1, .string x.f9.f4.f0, .int .i64 x.f9.f4.f1, .string x.f9.f5, .slice X41 x.f9.f6.length y41]) (t := 49) ?hr ?_; (case hd => rfl); (case hg => rfl); (case hr => first | (go_simp; done) | (go_simp; rfl)); intro g4 hg_ w4 hbox_ hb_; replace BK3 := Aside0.mk (blk_below BK3.out hb_); have BK4 := Aside0.mk (hbox_); have GBK4 : Aside0 (w.heap.size ≤ g4) := ⟨by rw [hg_]; exact below_size HB.out⟩; replace HB : Aside0 (Below w.heap.size w w4) := ⟨below_step HB.out hb_⟩; clear hg_ hbox_ hb_; have hk0 : w4.cell? ⟨g4, 0, none⟩ = some (.int .i64 4) := blk_cell BK4.out 0; have hk1 : w4.cell? ⟨g4, 1, none⟩ = some (.string x.f1) := blk_cell BK4.out 1) | ((with_reducible refine gate_dst (N := 41) rfl ?_); refine wpList_load_row rfl 67 (.tmp 3) rfl g3 rfl 67 #[.slice A0 l.length c0, .string m.f0, .slice A1 m.f1.length c1, .slice A2 m.f2.length c2, .slice A3 m.f3.length c3] (0, 0) _ ?hg Try.underlying67 rfl ?hi ?_; (case hg => exact BK3.out); (case hi => kernel_rfl)) | ((with_reducible refine gate_dst (N := 44) rfl ?_); refine Kd.R_lit (Kd.int .i64) _ 3 ?hg (N := 44) ?hd (xs := [3]) (inner := [.int .i64 3]) (ok := fun _ => True) (okp := fun _ => True) ?hr ?hp (fun _ hk => hk) trivial (Below.refl _ _) (Nat.le_refl _) (by simp) ?_; (case hd => rfl); (case hg => rfl); (case hr => first | (go_simp; done) | (go_simp; rfl)); (case hp => exact (Reps.snoc (Reps.none _ _) (iM 3 _ _ _) rfl)); intro v_ wl ho_ hb_ hg_ hn_; obtain ⟨KA, kc, rfl, hkl_, hkC_⟩ := Kd.R_reads ho_; have KL := Aside0.mk hkC_; replace BK3 := Aside0.mk (blk_below BK3.out hb_); replace BK4 := Aside0.mk (blk_below BK4.out hb_); replace HB := Aside0.mk (below_step HB.out hb_); clear ho_ hb_ hg_ hn_ hkl_ hkC_))
  refine (K1.out _ _ ⟨Kd.C_below HC.out HB.out, A1, c1, A2, c2, A3, c3, rfl, k34.K_below HB.out HMK.out, HLE.out.1, Kd.C_below HC1.out HB.out, HLE.out.2.1, Kd.C_below HC2.out HB.out, HLE.out.2.2, Kd.C_below HC3.out HB.out⟩ KA kc KL.out).mono ?_
  rintro e w5 ⟨rfl, hb⟩
  go_wp2
  go_ret
  exact ⟨rfl, below_step HB.out hb⟩
set_option maxHeartbeats 16000000 in
set_option maxRecDepth 100000 in
theorem skind_k6 (A0 : Option Addr) (c0 : Nat) (l : List S34) (m : S34) (cs cx : List Value) (x : S49) (n : Int) (w : World) (h : LookAt w A0 c0 l m cs) (hx : k49.K w x cx) (hsm : ∀ m ∈ l, m.f2.length ≤ 1000) (hbl : x.f6.length * 160 ≤ 140737488351232) (hk : x.f0 = 6) :
    Calls Try.prog 45 #[.agg cs.toArray, .agg cx.toArray, .int .i64 n] w fun e w' => e = .returned (.int .i64 (skindS l n m x)) ∧ Below w.heap.size w w' := by
  obtain ⟨hc0, A1, c1, A2, c2, A3, c3, rfl, hKm, hl1, hC1, hl2, hC2, hl3, hC3⟩ := h
  have HC := Aside0.mk hc0
  have HMK := Aside0.mk hKm
  have HC1 := Aside0.mk hC1
  have HC2 := Aside0.mk hC2
  have HC3 := Aside0.mk hC3
  have HB : Aside0 (Below w.heap.size w w) := ⟨Below.refl _ _⟩
  have HLE := Aside0.mk (And.intro hl1 (And.intro hl2 hl3))
  have HXK := Aside0.mk hx
  obtain ⟨X7, y7, X8, y8, X19, y19, X30, y30, X41, y41, rfl, _⟩ := k49_open hx
  obtain ⟨r, hr⟩ : ∃ r, skindS l n m x = r := ⟨_, rfl⟩
  rw [hr]
  unfold skindS at hr
  have HSM := Aside0.mk hsm
  have hxf := HXK
  obtain ⟨kd, hkd⟩ : ∃ k, x.f0 = k := ⟨_, rfl⟩
  have HKD := Aside0.mk hkd
  rw [kindOf_n hkd] at hr
  unfold dimsL at hr
  rw [hkd] at hr HXK ⊢
  clear hxf hkd hx
  clear hc0 hKm hl1 hC1 hl2 hC2 hl3 hC3
  obtain rfl : kd = 6 := HKD.out.symm.trans hk
  have K1 := Aside0.mk (fun (cs' : List Value) w' (hLK : LookAt w' A0 c0 l m cs') DA dc hd => sis_any A0 c0 l m cs' x.f1 DA dc [6] w' hLK hd)
  rw [is_1] at K1
  obtain ⟨a, ha⟩ : ∃ a, amongS (kindS m x.f1).1 6 6 6 = a := ⟨_, rfl⟩
  have HE : Aside0 (a = r) := ⟨by rw [← hr]; simp only [ha]; simp [dims_nil]⟩
  rw [ha] at K1
  clear hr hk ha
  obtain rfl := HE.out
  clear HE
  go_enter Try.func45, Try.ntmps45
  go_wp2_with (first | ((with_reducible refine gate_dst (N := 3) rfl ?_); refine box_event ?hg (N := 3) ?hd (cs := #[.slice A0 l.length c0, .string m.f0, .slice A1 m.f1.length c1, .slice A2 m.f2.length c2, .slice A3 m.f3.length c3]) (t := 67) ?hr ?_; (case hd => rfl); (case hg => rfl); (case hr => first | (go_simp; done) | (go_simp; rfl)); intro g3 hg_ w3 hbox_ hb_; have BK3 := Aside0.mk (hbox_); have GBK3 : Aside0 (w.heap.size ≤ g3) := ⟨by rw [hg_]; exact below_size HB.out⟩; replace HB : Aside0 (Below w.heap.size w w3) := ⟨below_step HB.out hb_⟩; clear hg_ hbox_ hb_) | ((with_reducible refine gate_dst (N := 4) rfl ?_); refine box_event ?hg (N := 4) ?hd (cs := #[.int .i64 6, .string x.f1, .string x.f2.f0, .int .i64 x.f2.f1, .string x.f3.f0, .int .i64 x.f3.f1, .string x.f4, .slice X7 x.f5.length y7, .slice X8 x.f6.length y8, .int .i64 x.f7.f0, .string x.f7.f1.f0, .int .i64 x.f7.f1.f1, .string x.f7.f2.f0, .int .i64 x.f7.f2.f1, .string x.f7.f3.f0, .int .i64 x.f7.f3.f1, .string x.f7.f4.f0, .int .i64 x.f7.f4.f1, .string x.f7.f5, .slice X19 x.f7.f6.length y19, .int .i64 x.f8.f0, .string x.f8.f1.f0, .int .i64 x.f8.f1.f1, .string x.f8.f2.f0, .int .i64 x.f8.f2.f1, .string x.f8.f3.f0, .int .i64 x.f8.f3.f1, .string x.f8.f4.f0, .int .i64 x.f8.f4.f1, .string x.f8.f5, .slice X30 x.f8.f6.length y30, .int .i64 x.f9.f0, .string x.f9.f1.f0, .int .i64 x.f9.f1.f1, .string x.f9.f2.f0, .int .i64 x.f9.f2.f1, .string x.f9.f3.f0, .int .i64 x.f9.f3.f1, .string x.f9.f4.f0, .int .i64 x.f9.f4.f1, .string x.f9.f5, .slice X41 x.f9.f6.length y41]) (t := 49) ?hr ?_; (case hd => rfl); (case hg => rfl); (case hr => first | (go_simp; done) | (go_simp; rfl)); intro g4 hg_ w4 hbox_ hb_; replace BK3 := Aside0.mk (blk_below BK3.out hb_); have BK4 := Aside0.mk (hbox_); have GBK4 : Aside0 (w.heap.size ≤ g4) := ⟨by rw [hg_]; exact below_size HB.out⟩; replace HB : Aside0 (Below w.heap.size w w4) := ⟨below_step HB.out hb_⟩; clear hg_ hbox_ hb_; have hk0 : w4.cell? ⟨g4, 0, none⟩ = some (.int .i64 6) := blk_cell BK4.out 0; have hk1 : w4.cell? ⟨g4, 1, none⟩ = some (.string x.f1) := blk_cell BK4.out 1) | ((with_reducible refine gate_dst (N := 48) rfl ?_); refine wpList_load_row rfl 67 (.tmp 3) rfl g3 rfl 67 #[.slice A0 l.length c0, .string m.f0, .slice A1 m.f1.length c1, .slice A2 m.f2.length c2, .slice A3 m.f3.length c3] (0, 0) _ ?hg Try.underlying67 rfl ?hi ?_; (case hg => exact BK3.out); (case hi => kernel_rfl)) | ((with_reducible refine gate_dst (N := 51) rfl ?_); refine Kd.R_lit (Kd.int .i64) _ 3 ?hg (N := 51) ?hd (xs := [6]) (inner := [.int .i64 6]) (ok := fun _ => True) (okp := fun _ => True) ?hr ?hp (fun _ hk => hk) trivial (Below.refl _ _) (Nat.le_refl _) (by simp) ?_; (case hd => rfl); (case hg => rfl); (case hr => first | (go_simp; done) | (go_simp; rfl)); (case hp => exact (Reps.snoc (Reps.none _ _) (iM 6 _ _ _) rfl)); intro v_ wl ho_ hb_ hg_ hn_; obtain ⟨KA, kc, rfl, hkl_, hkC_⟩ := Kd.R_reads ho_; have KL := Aside0.mk hkC_; replace BK3 := Aside0.mk (blk_below BK3.out hb_); replace BK4 := Aside0.mk (blk_below BK4.out hb_); replace HB := Aside0.mk (below_step HB.out hb_); clear ho_ hb_ hg_ hn_ hkl_ hkC_))
  refine (K1.out _ _ ⟨Kd.C_below HC.out HB.out, A1, c1, A2, c2, A3, c3, rfl, k34.K_below HB.out HMK.out, HLE.out.1, Kd.C_below HC1.out HB.out, HLE.out.2.1, Kd.C_below HC2.out HB.out, HLE.out.2.2, Kd.C_below HC3.out HB.out⟩ KA kc KL.out).mono ?_
  rintro e w5 ⟨rfl, hb⟩
  go_wp2
  go_ret
  exact ⟨rfl, below_step HB.out hb⟩
set_option maxHeartbeats 16000000 in
set_option maxRecDepth 100000 in
theorem skind_k7 (A0 : Option Addr) (c0 : Nat) (l : List S34) (m : S34) (cs cx : List Value) (x : S49) (n : Int) (w : World) (h : LookAt w A0 c0 l m cs) (hx : k49.K w x cx) (hsm : ∀ m ∈ l, m.f2.length ≤ 1000) (hbl : x.f6.length * 160 ≤ 140737488351232) (hk : x.f0 = 7) :
    Calls Try.prog 45 #[.agg cs.toArray, .agg cx.toArray, .int .i64 n] w fun e w' => e = .returned (.int .i64 (skindS l n m x)) ∧ Below w.heap.size w w' := by
  obtain ⟨hc0, A1, c1, A2, c2, A3, c3, rfl, hKm, hl1, hC1, hl2, hC2, hl3, hC3⟩ := h
  have HC := Aside0.mk hc0
  have HMK := Aside0.mk hKm
  have HC1 := Aside0.mk hC1
  have HC2 := Aside0.mk hC2
  have HC3 := Aside0.mk hC3
  have HB : Aside0 (Below w.heap.size w w) := ⟨Below.refl _ _⟩
  have HLE := Aside0.mk (And.intro hl1 (And.intro hl2 hl3))
  have HXK := Aside0.mk hx
  obtain ⟨X7, y7, X8, y8, X19, y19, X30, y30, X41, y41, rfl, _⟩ := k49_open hx
  obtain ⟨r, hr⟩ : ∃ r, skindS l n m x = r := ⟨_, rfl⟩
  rw [hr]
  unfold skindS at hr
  have HSM := Aside0.mk hsm
  have hxf := HXK
  obtain ⟨kd, hkd⟩ : ∃ k, x.f0 = k := ⟨_, rfl⟩
  have HKD := Aside0.mk hkd
  rw [kindOf_n hkd] at hr
  unfold dimsL at hr
  rw [hkd] at hr HXK ⊢
  clear hxf hkd hx
  clear hc0 hKm hl1 hC1 hl2 hC2 hl3 hC3
  obtain rfl : kd = 7 := HKD.out.symm.trans hk
  have K1 := Aside0.mk (fun (cs' cx' : List Value) w' (hLK : LookAt w' A0 c0 l m cs') hx' => sinst_any A0 c0 l m cs' cx' x n w' hLK hx' hsm hbl)
  have HE : Aside0 (sinstS l n m.f1 x = r) := ⟨hr⟩
  rw [HE.out] at K1
  clear hr hk HE hsm
  go_enter Try.func45, Try.ntmps45
  go_wp2_with (first | ((with_reducible refine gate_dst (N := 3) rfl ?_); refine box_event ?hg (N := 3) ?hd (cs := #[.slice A0 l.length c0, .string m.f0, .slice A1 m.f1.length c1, .slice A2 m.f2.length c2, .slice A3 m.f3.length c3]) (t := 67) ?hr ?_; (case hd => rfl); (case hg => rfl); (case hr => first | (go_simp; done) | (go_simp; rfl)); intro g3 hg_ w3 hbox_ hb_; have BK3 := Aside0.mk (hbox_); have GBK3 : Aside0 (w.heap.size ≤ g3) := ⟨by rw [hg_]; exact below_size HB.out⟩; replace HB : Aside0 (Below w.heap.size w w3) := ⟨below_step HB.out hb_⟩; clear hg_ hbox_ hb_) | ((with_reducible refine gate_dst (N := 4) rfl ?_); refine box_event ?hg (N := 4) ?hd (cs := #[.int .i64 7, .string x.f1, .string x.f2.f0, .int .i64 x.f2.f1, .string x.f3.f0, .int .i64 x.f3.f1, .string x.f4, .slice X7 x.f5.length y7, .slice X8 x.f6.length y8, .int .i64 x.f7.f0, .string x.f7.f1.f0, .int .i64 x.f7.f1.f1, .string x.f7.f2.f0, .int .i64 x.f7.f2.f1, .string x.f7.f3.f0, .int .i64 x.f7.f3.f1, .string x.f7.f4.f0, .int .i64 x.f7.f4.f1, .string x.f7.f5, .slice X19 x.f7.f6.length y19, .int .i64 x.f8.f0, .string x.f8.f1.f0, .int .i64 x.f8.f1.f1, .string x.f8.f2.f0, .int .i64 x.f8.f2.f1, .string x.f8.f3.f0, .int .i64 x.f8.f3.f1, .string x.f8.f4.f0, .int .i64 x.f8.f4.f1, .string x.f8.f5, .slice X30 x.f8.f6.length y30, .int .i64 x.f9.f0, .string x.f9.f1.f0, .int .i64 x.f9.f1.f1, .string x.f9.f2.f0, .int .i64 x.f9.f2.f1, .string x.f9.f3.f0, .int .i64 x.f9.f3.f1, .string x.f9.f4.f0, .int .i64 x.f9.f4.f1, .string x.f9.f5, .slice X41 x.f9.f6.length y41]) (t := 49) ?hr ?_; (case hd => rfl); (case hg => rfl); (case hr => first | (go_simp; done) | (go_simp; rfl)); intro g4 hg_ w4 hbox_ hb_; replace BK3 := Aside0.mk (blk_below BK3.out hb_); have BK4 := Aside0.mk (hbox_); have GBK4 : Aside0 (w.heap.size ≤ g4) := ⟨by rw [hg_]; exact below_size HB.out⟩; replace HB : Aside0 (Below w.heap.size w w4) := ⟨below_step HB.out hb_⟩; clear hg_ hbox_ hb_; have hk0 : w4.cell? ⟨g4, 0, none⟩ = some (.int .i64 7) := blk_cell BK4.out 0) | ((with_reducible refine gate_dst (N := 28) rfl ?_); refine wpList_load_row rfl 67 (.tmp 3) rfl g3 rfl 67 #[.slice A0 l.length c0, .string m.f0, .slice A1 m.f1.length c1, .slice A2 m.f2.length c2, .slice A3 m.f3.length c3] (0, 0) _ ?hg Try.underlying67 rfl ?hi ?_; (case hg => exact BK3.out); (case hi => kernel_rfl)) | ((with_reducible refine gate_dst (N := 29) rfl ?_); refine wpList_load_row rfl 49 (.tmp 4) rfl g4 rfl 49 #[.int .i64 7, .string x.f1, .string x.f2.f0, .int .i64 x.f2.f1, .string x.f3.f0, .int .i64 x.f3.f1, .string x.f4, .slice X7 x.f5.length y7, .slice X8 x.f6.length y8, .int .i64 x.f7.f0, .string x.f7.f1.f0, .int .i64 x.f7.f1.f1, .string x.f7.f2.f0, .int .i64 x.f7.f2.f1, .string x.f7.f3.f0, .int .i64 x.f7.f3.f1, .string x.f7.f4.f0, .int .i64 x.f7.f4.f1, .string x.f7.f5, .slice X19 x.f7.f6.length y19, .int .i64 x.f8.f0, .string x.f8.f1.f0, .int .i64 x.f8.f1.f1, .string x.f8.f2.f0, .int .i64 x.f8.f2.f1, .string x.f8.f3.f0, .int .i64 x.f8.f3.f1, .string x.f8.f4.f0, .int .i64 x.f8.f4.f1, .string x.f8.f5, .slice X30 x.f8.f6.length y30, .int .i64 x.f9.f0, .string x.f9.f1.f0, .int .i64 x.f9.f1.f1, .string x.f9.f2.f0, .int .i64 x.f9.f2.f1, .string x.f9.f3.f0, .int .i64 x.f9.f3.f1, .string x.f9.f4.f0, .int .i64 x.f9.f4.f1, .string x.f9.f5, .slice X41 x.f9.f6.length y41] (0, 0) _ ?hg Try.underlying49 rfl ?hi ?_; (case hg => exact BK4.out); (case hi => kernel_rfl)))
  refine (K1.out _ _ _ ⟨Kd.C_below HC.out HB.out, A1, c1, A2, c2, A3, c3, rfl, k34.K_below HB.out HMK.out, HLE.out.1, Kd.C_below HC1.out HB.out, HLE.out.2.1, Kd.C_below HC2.out HB.out, HLE.out.2.2, Kd.C_below HC3.out HB.out⟩ (k49.K_below HB.out HXK.out)).mono ?_
  rintro e w5 ⟨rfl, hb⟩
  go_wp2
  go_ret
  exact ⟨rfl, below_step HB.out hb⟩
set_option maxHeartbeats 16000000 in
set_option maxRecDepth 100000 in
theorem skind_k8 (A0 : Option Addr) (c0 : Nat) (l : List S34) (m : S34) (cs cx : List Value) (x : S49) (n : Int) (w : World) (h : LookAt w A0 c0 l m cs) (hx : k49.K w x cx) (hsm : ∀ m ∈ l, m.f2.length ≤ 1000) (hbl : x.f6.length * 160 ≤ 140737488351232) (hk : x.f0 = 8) :
    Calls Try.prog 45 #[.agg cs.toArray, .agg cx.toArray, .int .i64 n] w fun e w' => e = .returned (.int .i64 (skindS l n m x)) ∧ Below w.heap.size w w' := by
  obtain ⟨hc0, A1, c1, A2, c2, A3, c3, rfl, hKm, hl1, hC1, hl2, hC2, hl3, hC3⟩ := h
  have HC := Aside0.mk hc0
  have HMK := Aside0.mk hKm
  have HC1 := Aside0.mk hC1
  have HC2 := Aside0.mk hC2
  have HC3 := Aside0.mk hC3
  have HB : Aside0 (Below w.heap.size w w) := ⟨Below.refl _ _⟩
  have HLE := Aside0.mk (And.intro hl1 (And.intro hl2 hl3))
  have HXK := Aside0.mk hx
  obtain ⟨X7, y7, X8, y8, X19, y19, X30, y30, X41, y41, rfl, _⟩ := k49_open hx
  obtain ⟨r, hr⟩ : ∃ r, skindS l n m x = r := ⟨_, rfl⟩
  rw [hr]
  unfold skindS at hr
  have HSM := Aside0.mk hsm
  have hxf := HXK
  obtain ⟨kd, hkd⟩ : ∃ k, x.f0 = k := ⟨_, rfl⟩
  have HKD := Aside0.mk hkd
  rw [kindOf_n hkd] at hr
  unfold dimsL at hr
  rw [hkd] at hr HXK ⊢
  clear hxf hkd hx
  clear hc0 hKm hl1 hC1 hl2 hC2 hl3 hC3
  obtain rfl : kd = 8 := HKD.out.symm.trans hk
  have HE : Aside0 (r = 0) := ⟨hr.symm⟩
  clear hr hk
  go_enter Try.func45, Try.ntmps45
  go_wp2_with (first | ((with_reducible refine gate_dst (N := 3) rfl ?_); refine box_event ?hg (N := 3) ?hd (cs := #[.slice A0 l.length c0, .string m.f0, .slice A1 m.f1.length c1, .slice A2 m.f2.length c2, .slice A3 m.f3.length c3]) (t := 67) ?hr ?_; (case hd => rfl); (case hg => rfl); (case hr => first | (go_simp; done) | (go_simp; rfl)); intro g3 hg_ w3 hbox_ hb_; have BK3 := Aside0.mk (hbox_); have GBK3 : Aside0 (w.heap.size ≤ g3) := ⟨by rw [hg_]; exact below_size HB.out⟩; replace HB : Aside0 (Below w.heap.size w w3) := ⟨below_step HB.out hb_⟩; clear hg_ hbox_ hb_) | ((with_reducible refine gate_dst (N := 4) rfl ?_); refine box_event ?hg (N := 4) ?hd (cs := #[.int .i64 8, .string x.f1, .string x.f2.f0, .int .i64 x.f2.f1, .string x.f3.f0, .int .i64 x.f3.f1, .string x.f4, .slice X7 x.f5.length y7, .slice X8 x.f6.length y8, .int .i64 x.f7.f0, .string x.f7.f1.f0, .int .i64 x.f7.f1.f1, .string x.f7.f2.f0, .int .i64 x.f7.f2.f1, .string x.f7.f3.f0, .int .i64 x.f7.f3.f1, .string x.f7.f4.f0, .int .i64 x.f7.f4.f1, .string x.f7.f5, .slice X19 x.f7.f6.length y19, .int .i64 x.f8.f0, .string x.f8.f1.f0, .int .i64 x.f8.f1.f1, .string x.f8.f2.f0, .int .i64 x.f8.f2.f1, .string x.f8.f3.f0, .int .i64 x.f8.f3.f1, .string x.f8.f4.f0, .int .i64 x.f8.f4.f1, .string x.f8.f5, .slice X30 x.f8.f6.length y30, .int .i64 x.f9.f0, .string x.f9.f1.f0, .int .i64 x.f9.f1.f1, .string x.f9.f2.f0, .int .i64 x.f9.f2.f1, .string x.f9.f3.f0, .int .i64 x.f9.f3.f1, .string x.f9.f4.f0, .int .i64 x.f9.f4.f1, .string x.f9.f5, .slice X41 x.f9.f6.length y41]) (t := 49) ?hr ?_; (case hd => rfl); (case hg => rfl); (case hr => first | (go_simp; done) | (go_simp; rfl)); intro g4 hg_ w4 hbox_ hb_; replace BK3 := Aside0.mk (blk_below BK3.out hb_); have BK4 := Aside0.mk (hbox_); have GBK4 : Aside0 (w.heap.size ≤ g4) := ⟨by rw [hg_]; exact below_size HB.out⟩; replace HB : Aside0 (Below w.heap.size w w4) := ⟨below_step HB.out hb_⟩; clear hg_ hbox_ hb_; have hk0 : w4.cell? ⟨g4, 0, none⟩ = some (.int .i64 8) := blk_cell BK4.out 0))
  go_ret
  exact ⟨by rw [HE.out]; rfl, HB.out⟩
set_option maxHeartbeats 16000000 in
set_option maxRecDepth 100000 in
theorem skind_k9 (A0 : Option Addr) (c0 : Nat) (l : List S34) (m : S34) (cs cx : List Value) (x : S49) (n : Int) (w : World) (h : LookAt w A0 c0 l m cs) (hx : k49.K w x cx) (hsm : ∀ m ∈ l, m.f2.length ≤ 1000) (hbl : x.f6.length * 160 ≤ 140737488351232) (hk : x.f0 = 9) :
    Calls Try.prog 45 #[.agg cs.toArray, .agg cx.toArray, .int .i64 n] w fun e w' => e = .returned (.int .i64 (skindS l n m x)) ∧ Below w.heap.size w w' := by
  obtain ⟨hc0, A1, c1, A2, c2, A3, c3, rfl, hKm, hl1, hC1, hl2, hC2, hl3, hC3⟩ := h
  have HC := Aside0.mk hc0
  have HMK := Aside0.mk hKm
  have HC1 := Aside0.mk hC1
  have HC2 := Aside0.mk hC2
  have HC3 := Aside0.mk hC3
  have HB : Aside0 (Below w.heap.size w w) := ⟨Below.refl _ _⟩
  have HLE := Aside0.mk (And.intro hl1 (And.intro hl2 hl3))
  have HXK := Aside0.mk hx
  obtain ⟨X7, y7, X8, y8, X19, y19, X30, y30, X41, y41, rfl, _⟩ := k49_open hx
  obtain ⟨r, hr⟩ : ∃ r, skindS l n m x = r := ⟨_, rfl⟩
  rw [hr]
  unfold skindS at hr
  have HSM := Aside0.mk hsm
  have hxf := HXK
  obtain ⟨kd, hkd⟩ : ∃ k, x.f0 = k := ⟨_, rfl⟩
  have HKD := Aside0.mk hkd
  rw [kindOf_n hkd] at hr
  unfold dimsL at hr
  rw [hkd] at hr HXK ⊢
  clear hxf hkd hx
  clear hc0 hKm hl1 hC1 hl2 hC2 hl3 hC3
  obtain rfl : kd = 9 := HKD.out.symm.trans hk
  have HE : Aside0 (r = 0) := ⟨hr.symm⟩
  clear hr hk
  go_enter Try.func45, Try.ntmps45
  go_wp2_with (first | ((with_reducible refine gate_dst (N := 3) rfl ?_); refine box_event ?hg (N := 3) ?hd (cs := #[.slice A0 l.length c0, .string m.f0, .slice A1 m.f1.length c1, .slice A2 m.f2.length c2, .slice A3 m.f3.length c3]) (t := 67) ?hr ?_; (case hd => rfl); (case hg => rfl); (case hr => first | (go_simp; done) | (go_simp; rfl)); intro g3 hg_ w3 hbox_ hb_; have BK3 := Aside0.mk (hbox_); have GBK3 : Aside0 (w.heap.size ≤ g3) := ⟨by rw [hg_]; exact below_size HB.out⟩; replace HB : Aside0 (Below w.heap.size w w3) := ⟨below_step HB.out hb_⟩; clear hg_ hbox_ hb_) | ((with_reducible refine gate_dst (N := 4) rfl ?_); refine box_event ?hg (N := 4) ?hd (cs := #[.int .i64 9, .string x.f1, .string x.f2.f0, .int .i64 x.f2.f1, .string x.f3.f0, .int .i64 x.f3.f1, .string x.f4, .slice X7 x.f5.length y7, .slice X8 x.f6.length y8, .int .i64 x.f7.f0, .string x.f7.f1.f0, .int .i64 x.f7.f1.f1, .string x.f7.f2.f0, .int .i64 x.f7.f2.f1, .string x.f7.f3.f0, .int .i64 x.f7.f3.f1, .string x.f7.f4.f0, .int .i64 x.f7.f4.f1, .string x.f7.f5, .slice X19 x.f7.f6.length y19, .int .i64 x.f8.f0, .string x.f8.f1.f0, .int .i64 x.f8.f1.f1, .string x.f8.f2.f0, .int .i64 x.f8.f2.f1, .string x.f8.f3.f0, .int .i64 x.f8.f3.f1, .string x.f8.f4.f0, .int .i64 x.f8.f4.f1, .string x.f8.f5, .slice X30 x.f8.f6.length y30, .int .i64 x.f9.f0, .string x.f9.f1.f0, .int .i64 x.f9.f1.f1, .string x.f9.f2.f0, .int .i64 x.f9.f2.f1, .string x.f9.f3.f0, .int .i64 x.f9.f3.f1, .string x.f9.f4.f0, .int .i64 x.f9.f4.f1, .string x.f9.f5, .slice X41 x.f9.f6.length y41]) (t := 49) ?hr ?_; (case hd => rfl); (case hg => rfl); (case hr => first | (go_simp; done) | (go_simp; rfl)); intro g4 hg_ w4 hbox_ hb_; replace BK3 := Aside0.mk (blk_below BK3.out hb_); have BK4 := Aside0.mk (hbox_); have GBK4 : Aside0 (w.heap.size ≤ g4) := ⟨by rw [hg_]; exact below_size HB.out⟩; replace HB : Aside0 (Below w.heap.size w w4) := ⟨below_step HB.out hb_⟩; clear hg_ hbox_ hb_; have hk0 : w4.cell? ⟨g4, 0, none⟩ = some (.int .i64 9) := blk_cell BK4.out 0))
  go_ret
  exact ⟨by rw [HE.out]; rfl, HB.out⟩
set_option maxHeartbeats 16000000 in
set_option maxRecDepth 100000 in
theorem skind_k10 (A0 : Option Addr) (c0 : Nat) (l : List S34) (m : S34) (cs cx : List Value) (x : S49) (n : Int) (w : World) (h : LookAt w A0 c0 l m cs) (hx : k49.K w x cx) (hsm : ∀ m ∈ l, m.f2.length ≤ 1000) (hbl : x.f6.length * 160 ≤ 140737488351232) (hk : x.f0 = 10) :
    Calls Try.prog 45 #[.agg cs.toArray, .agg cx.toArray, .int .i64 n] w fun e w' => e = .returned (.int .i64 (skindS l n m x)) ∧ Below w.heap.size w w' := by
  obtain ⟨hc0, A1, c1, A2, c2, A3, c3, rfl, hKm, hl1, hC1, hl2, hC2, hl3, hC3⟩ := h
  have HC := Aside0.mk hc0
  have HMK := Aside0.mk hKm
  have HC1 := Aside0.mk hC1
  have HC2 := Aside0.mk hC2
  have HC3 := Aside0.mk hC3
  have HB : Aside0 (Below w.heap.size w w) := ⟨Below.refl _ _⟩
  have HLE := Aside0.mk (And.intro hl1 (And.intro hl2 hl3))
  have HXK := Aside0.mk hx
  obtain ⟨X7, y7, X8, y8, X19, y19, X30, y30, X41, y41, rfl, _⟩ := k49_open hx
  obtain ⟨r, hr⟩ : ∃ r, skindS l n m x = r := ⟨_, rfl⟩
  rw [hr]
  unfold skindS at hr
  have HSM := Aside0.mk hsm
  have hxf := HXK
  obtain ⟨kd, hkd⟩ : ∃ k, x.f0 = k := ⟨_, rfl⟩
  have HKD := Aside0.mk hkd
  rw [kindOf_n hkd] at hr
  unfold dimsL at hr
  rw [hkd] at hr HXK ⊢
  clear hxf hkd hx
  clear hc0 hKm hl1 hC1 hl2 hC2 hl3 hC3
  obtain rfl : kd = 10 := HKD.out.symm.trans hk
  have HE : Aside0 (r = 0) := ⟨hr.symm⟩
  clear hr hk
  go_enter Try.func45, Try.ntmps45
  go_wp2_with (first | ((with_reducible refine gate_dst (N := 3) rfl ?_); refine box_event ?hg (N := 3) ?hd (cs := #[.slice A0 l.length c0, .string m.f0, .slice A1 m.f1.length c1, .slice A2 m.f2.length c2, .slice A3 m.f3.length c3]) (t := 67) ?hr ?_; (case hd => rfl); (case hg => rfl); (case hr => first | (go_simp; done) | (go_simp; rfl)); intro g3 hg_ w3 hbox_ hb_; have BK3 := Aside0.mk (hbox_); have GBK3 : Aside0 (w.heap.size ≤ g3) := ⟨by rw [hg_]; exact below_size HB.out⟩; replace HB : Aside0 (Below w.heap.size w w3) := ⟨below_step HB.out hb_⟩; clear hg_ hbox_ hb_) | ((with_reducible refine gate_dst (N := 4) rfl ?_); refine box_event ?hg (N := 4) ?hd (cs := #[.int .i64 10, .string x.f1, .string x.f2.f0, .int .i64 x.f2.f1, .string x.f3.f0, .int .i64 x.f3.f1, .string x.f4, .slice X7 x.f5.length y7, .slice X8 x.f6.length y8, .int .i64 x.f7.f0, .string x.f7.f1.f0, .int .i64 x.f7.f1.f1, .string x.f7.f2.f0, .int .i64 x.f7.f2.f1, .string x.f7.f3.f0, .int .i64 x.f7.f3.f1, .string x.f7.f4.f0, .int .i64 x.f7.f4.f1, .string x.f7.f5, .slice X19 x.f7.f6.length y19, .int .i64 x.f8.f0, .string x.f8.f1.f0, .int .i64 x.f8.f1.f1, .string x.f8.f2.f0, .int .i64 x.f8.f2.f1, .string x.f8.f3.f0, .int .i64 x.f8.f3.f1, .string x.f8.f4.f0, .int .i64 x.f8.f4.f1, .string x.f8.f5, .slice X30 x.f8.f6.length y30, .int .i64 x.f9.f0, .string x.f9.f1.f0, .int .i64 x.f9.f1.f1, .string x.f9.f2.f0, .int .i64 x.f9.f2.f1, .string x.f9.f3.f0, .int .i64 x.f9.f3.f1, .string x.f9.f4.f0, .int .i64 x.f9.f4.f1, .string x.f9.f5, .slice X41 x.f9.f6.length y41]) (t := 49) ?hr ?_; (case hd => rfl); (case hg => rfl); (case hr => first | (go_simp; done) | (go_simp; rfl)); intro g4 hg_ w4 hbox_ hb_; replace BK3 := Aside0.mk (blk_below BK3.out hb_); have BK4 := Aside0.mk (hbox_); have GBK4 : Aside0 (w.heap.size ≤ g4) := ⟨by rw [hg_]; exact below_size HB.out⟩; replace HB : Aside0 (Below w.heap.size w w4) := ⟨below_step HB.out hb_⟩; clear hg_ hbox_ hb_; have hk0 : w4.cell? ⟨g4, 0, none⟩ = some (.int .i64 10) := blk_cell BK4.out 0))
  go_ret
  exact ⟨by rw [HE.out]; rfl, HB.out⟩
set_option maxHeartbeats 16000000 in
set_option maxRecDepth 100000 in
theorem skind_k0 (A0 : Option Addr) (c0 : Nat) (l : List S34) (m : S34) (cs cx : List Value) (x : S49) (n : Int) (w : World) (h : LookAt w A0 c0 l m cs) (hx : k49.K w x cx) (hsm : ∀ m ∈ l, m.f2.length ≤ 1000) (hbl : x.f6.length * 160 ≤ 140737488351232) (hk : x.f0 ≠ 1 ∧ x.f0 ≠ 2 ∧ x.f0 ≠ 3 ∧ x.f0 ≠ 4 ∧ x.f0 ≠ 5 ∧ x.f0 ≠ 6 ∧ x.f0 ≠ 7 ∧ x.f0 ≠ 8 ∧ x.f0 ≠ 9 ∧ x.f0 ≠ 10) :
    Calls Try.prog 45 #[.agg cs.toArray, .agg cx.toArray, .int .i64 n] w fun e w' => e = .returned (.int .i64 (skindS l n m x)) ∧ Below w.heap.size w w' := by
  obtain ⟨hc0, A1, c1, A2, c2, A3, c3, rfl, hKm, hl1, hC1, hl2, hC2, hl3, hC3⟩ := h
  have HC := Aside0.mk hc0
  have HMK := Aside0.mk hKm
  have HC1 := Aside0.mk hC1
  have HC2 := Aside0.mk hC2
  have HC3 := Aside0.mk hC3
  have HB : Aside0 (Below w.heap.size w w) := ⟨Below.refl _ _⟩
  have HLE := Aside0.mk (And.intro hl1 (And.intro hl2 hl3))
  have HXK := Aside0.mk hx
  obtain ⟨X7, y7, X8, y8, X19, y19, X30, y30, X41, y41, rfl, _⟩ := k49_open hx
  obtain ⟨r, hr⟩ : ∃ r, skindS l n m x = r := ⟨_, rfl⟩
  rw [hr]
  unfold skindS at hr
  have HSM := Aside0.mk hsm
  have hxf := HXK
  obtain ⟨kd, hkd⟩ : ∃ k, x.f0 = k := ⟨_, rfl⟩
  have HKD := Aside0.mk hkd
  rw [kindOf_n hkd] at hr
  unfold dimsL at hr
  rw [hkd] at hr HXK ⊢
  clear hxf hkd hx
  clear hc0 hKm hl1 hC1 hl2 hC2 hl3 hC3
  rw [HKD.out] at hk
  have e1 : (kd == 1) = false := by simp; omega
  have e2 : (kd == 2) = false := by simp; omega
  have e3 : (kd == 3) = false := by simp; omega
  have e4 : (kd == 4) = false := by simp; omega
  have e5 : (kd == 5) = false := by simp; omega
  have e6 : (kd == 6) = false := by simp; omega
  have e7 : (kd == 7) = false := by simp; omega
  have e8 : (kd == 8) = false := by simp; omega
  have e9 : (kd == 9) = false := by simp; omega
  have e10 : (kd == 10) = false := by simp; omega
  have HE : Aside0 (r = 52) := ⟨by rw [← hr, if_neg (by omega : ¬ (kd = 1 ∨ kd = 2 ∨ kd = 5 ∨ kd = 8 ∨ kd = 9 ∨ kd = 10)), if_neg (by omega : ¬ kd = 3), if_neg (by omega : ¬ kd = 4), if_neg (by omega : ¬ kd = 6), if_neg (by omega : ¬ kd = 7)]; rfl⟩
  clear hr hk
  go_enter Try.func45, Try.ntmps45
  go_wp2_with (first | ((with_reducible refine gate_dst (N := 3) rfl ?_); refine box_event ?hg (N := 3) ?hd (cs := #[.slice A0 l.length c0, .string m.f0, .slice A1 m.f1.length c1, .slice A2 m.f2.length c2, .slice A3 m.f3.length c3]) (t := 67) ?hr ?_; (case hd => rfl); (case hg => rfl); (case hr => first | (go_simp; done) | (go_simp; rfl)); intro g3 hg_ w3 hbox_ hb_; have BK3 := Aside0.mk (hbox_); have GBK3 : Aside0 (w.heap.size ≤ g3) := ⟨by rw [hg_]; exact below_size HB.out⟩; replace HB : Aside0 (Below w.heap.size w w3) := ⟨below_step HB.out hb_⟩; clear hg_ hbox_ hb_) | ((with_reducible refine gate_dst (N := 4) rfl ?_); refine box_event ?hg (N := 4) ?hd (cs := #[.int .i64 kd, .string x.f1, .string x.f2.f0, .int .i64 x.f2.f1, .string x.f3.f0, .int .i64 x.f3.f1, .string x.f4, .slice X7 x.f5.length y7, .slice X8 x.f6.length y8, .int .i64 x.f7.f0, .string x.f7.f1.f0, .int .i64 x.f7.f1.f1, .string x.f7.f2.f0, .int .i64 x.f7.f2.f1, .string x.f7.f3.f0, .int .i64 x.f7.f3.f1, .string x.f7.f4.f0, .int .i64 x.f7.f4.f1, .string x.f7.f5, .slice X19 x.f7.f6.length y19, .int .i64 x.f8.f0, .string x.f8.f1.f0, .int .i64 x.f8.f1.f1, .string x.f8.f2.f0, .int .i64 x.f8.f2.f1, .string x.f8.f3.f0, .int .i64 x.f8.f3.f1, .string x.f8.f4.f0, .int .i64 x.f8.f4.f1, .string x.f8.f5, .slice X30 x.f8.f6.length y30, .int .i64 x.f9.f0, .string x.f9.f1.f0, .int .i64 x.f9.f1.f1, .string x.f9.f2.f0, .int .i64 x.f9.f2.f1, .string x.f9.f3.f0, .int .i64 x.f9.f3.f1, .string x.f9.f4.f0, .int .i64 x.f9.f4.f1, .string x.f9.f5, .slice X41 x.f9.f6.length y41]) (t := 49) ?hr ?_; (case hd => rfl); (case hg => rfl); (case hr => first | (go_simp; done) | (go_simp; rfl)); intro g4 hg_ w4 hbox_ hb_; replace BK3 := Aside0.mk (blk_below BK3.out hb_); have BK4 := Aside0.mk (hbox_); have GBK4 : Aside0 (w.heap.size ≤ g4) := ⟨by rw [hg_]; exact below_size HB.out⟩; replace HB : Aside0 (Below w.heap.size w w4) := ⟨below_step HB.out hb_⟩; clear hg_ hbox_ hb_; have hk0 : w4.cell? ⟨g4, 0, none⟩ = some (.int .i64 kd) := blk_cell BK4.out 0))
  go_ret
  exact ⟨by rw [HE.out]; rfl, HB.out⟩
theorem skindOf_any (A0 : Option Addr) (c0 : Nat) (l : List S34) (m : S34) (cs cx : List Value) (x : S49) (n : Int) (w : World) (h : LookAt w A0 c0 l m cs) (hx : k49.K w x cx) (hsm : ∀ m ∈ l, m.f2.length ≤ 1000) (hbl : x.f6.length * 160 ≤ 140737488351232) :
    Calls Try.prog 45 #[.agg cs.toArray, .agg cx.toArray, .int .i64 n] w fun e w' => e = .returned (.int .i64 (skindS l n m x)) ∧ Below w.heap.size w w' := by
  by_cases h1 : x.f0 = 1
  · exact skind_k1 A0 c0 l m cs cx x n w h hx hsm hbl h1
  by_cases h2 : x.f0 = 2
  · exact skind_k2 A0 c0 l m cs cx x n w h hx hsm hbl h2
  by_cases h3 : x.f0 = 3
  · exact skind_k3 A0 c0 l m cs cx x n w h hx hsm hbl h3
  by_cases h4 : x.f0 = 4
  · exact skind_k4 A0 c0 l m cs cx x n w h hx hsm hbl h4
  by_cases h5 : x.f0 = 5
  · exact skind_k5 A0 c0 l m cs cx x n w h hx hsm hbl h5
  by_cases h6 : x.f0 = 6
  · exact skind_k6 A0 c0 l m cs cx x n w h hx hsm hbl h6
  by_cases h7 : x.f0 = 7
  · exact skind_k7 A0 c0 l m cs cx x n w h hx hsm hbl h7
  by_cases h8 : x.f0 = 8
  · exact skind_k8 A0 c0 l m cs cx x n w h hx hsm hbl h8
  by_cases h9 : x.f0 = 9
  · exact skind_k9 A0 c0 l m cs cx x n w h hx hsm hbl h9
  by_cases h10 : x.f0 = 10
  · exact skind_k10 A0 c0 l m cs cx x n w h hx hsm hbl h10
  exact skind_k0 A0 c0 l m cs cx x n w h hx hsm hbl ⟨h1, h2, h3, h4, h5, h6, h7, h8, h9, h10⟩
end Go.Proofs.Ytnfhlhjbmcofoaa.S
