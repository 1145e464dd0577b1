/- Scope: the walk of the law ScopeMore. -/
import Derived.Test.YtnfhlhjbmcofoaaScAs
import Derived.Test.YtnfhlhjbmcofoaaScAq
namespace Go.Proofs.Ytnfhlhjbmcofoaa.S
open Go.RowKit Go.Proofs.YtnfhlhjbmcofoaaW.PrintWords Go.Proofs.YtnfhlhjbmcofoaaW.PrintLast
set_option linter.unusedVariables false
set_option linter.unusedSimpArgs false
set_option maxHeartbeats 32000000 in
set_option maxRecDepth 100000 in
theorem lawMore (A0 : Option Addr) (c0 : Nat) (l : List S34) (m : S34) (cs : List Value) (w : World) (h0 : Kd.C k34 w A0 l.length l) (hB : BL22 l) (hK : k34.K w m cs) (hBm : B34 m) :
    Calls Try.prog 8 #[.agg #[.slice A0 l.length c0], .agg cs.toArray] w fun e w' => e = .returned (.bool true) ∧ Below w.heap.size w w' := by
  have HC := Aside0.mk h0
  have HY := Aside0.mk hB
  have HQ := Aside0.mk (b49_of hB)
  have HK := Aside0.mk hK
  obtain ⟨A1, c1, A2, c2, A3, c3, rfl, hl1, hC1, hl2, hC2, hl3, hC3⟩ := k34_open hK
  have HYM := Aside0.mk (bl22_one hBm)
  have HQM := Aside0.mk (b49_of (bl22_one hBm))
  have hm : l.length ≤ 9223372036854775807 := h0.2.1
  have HB : Aside0 (Below w.heap.size w w) := ⟨Below.refl _ _⟩
  clear h0 hB hK hBm hl1 hC1 hl2 hC2 hl3 hC3
  go_enter Try.func8, Try.ntmps8
  go_wp2_with (first | ((with_reducible refine gate_dst (N := 2) rfl ?_); refine box_event ?hg (N := 2) ?hd (cs := #[.slice A0 l.length c0]) (t := 24) ?hr ?_; (case hd => rfl); (case hg => rfl); (case hr => first | (go_simp; done) | (go_simp; rfl)); intro g2 hg_ wa hbox_ hb_; have BK2 := Aside0.mk (hbox_); have GBK2_HB : Aside0 (w.heap.size ≤ g2) := ⟨by rw [hg_]; exact below_size HB.out⟩; replace HB : Aside0 (Below w.heap.size w wa) := ⟨below_step HB.out hb_⟩; clear hg_ hbox_ hb_) | ((with_reducible refine gate_dst (N := 3) rfl ?_); refine box_event ?hg (N := 3) ?hd (cs := #[.string m.f0, .slice A1 m.f1.length c1, .slice A2 m.f2.length c2, .slice A3 m.f3.length c3]) (t := 34) ?hr ?_; (case hd => rfl); (case hg => rfl); (case hr => first | (go_simp; done) | (go_simp; rfl)); intro g3 hg_ wb hbox_ hb_; replace BK2 := Aside0.mk (blk_below BK2.out hb_); have BK3 := Aside0.mk (hbox_); have GBK3_HB : Aside0 (w.heap.size ≤ g3) := ⟨by rw [hg_]; exact below_size HB.out⟩; replace HB : Aside0 (Below w.heap.size w wb) := ⟨below_step HB.out hb_⟩; have hk2 : wb.cell? ⟨g2, 0, none⟩ = some (.slice A0 l.length c0) := blk_cell BK2.out 0; clear hg_ hbox_ hb_))
  refine (head_law _).mono ?_
  rintro e w1 ⟨rfl, hb⟩
  replace BK2 := Aside0.mk (blk_below BK2.out hb)
  replace BK3 := Aside0.mk (blk_below BK3.out hb)
  replace HB := Aside0.mk (below_step HB.out hb)
  clear hb hk2
  have hk2 : w1.cell? ⟨g2, 0, none⟩ = some (.slice A0 l.length c0) := blk_cell BK2.out 0
  go_wp2_with fail
  refine (fits_any70 A0 c0 l _ (Kd.C_below HC.out HB.out) HY.out).mono ?_
  rintro e w2 ⟨⟨b, rfl, hs⟩, hb⟩
  have HSM := Aside0.mk hs
  replace BK2 := Aside0.mk (blk_below BK2.out hb)
  replace BK3 := Aside0.mk (blk_below BK3.out hb)
  replace HB := Aside0.mk (below_step HB.out hb)
  clear hb hk2 hs
  go_wp2_with (first | ((with_reducible refine gate_dst (N := 14) rfl ?_); refine wpList_load_row rfl 34 (.tmp 3) rfl g3 rfl 34 #[.string m.f0, .slice A1 m.f1.length c1, .slice A2 m.f2.length c2, .slice A3 m.f3.length c3] (0, 0) _ ?hg Try.underlying34 rfl ?hq9 ?_; (case hg => exact BK3.out); (case hq9 => kernel_rfl)) | ((with_reducible refine gate_dst (N := 15) rfl ?_); refine lit_event (n := 1) ?hg (N := 15) ?hd (cs := #[.string m.f0, .slice A1 m.f1.length c1, .slice A2 m.f2.length c2, .slice A3 m.f3.length c3]) (t := 34) ?hr ?_; (case hd => rfl); (case hg => rfl); (case hr => first | (go_simp; done) | (go_simp; rfl)); intro gL hg_ wl hbox_ hb_; replace BK2 := Aside0.mk (blk_below BK2.out hb_); replace BK3 := Aside0.mk (blk_below BK3.out hb_); have BKL := Aside0.mk (hbox_); have GBKL_HB : Aside0 (w.heap.size ≤ gL) := ⟨by rw [hg_]; exact below_size HB.out⟩; replace HB : Aside0 (Below w.heap.size w wl) := ⟨below_step HB.out hb_⟩; clear hg_ hbox_ hb_) | ((with_reducible refine gate_dst (N := 7) rfl ?_); refine box_event ?hg (N := 7) ?hd (cs := #[.slice none 0 0]) (t := 24) ?hr ?_; (case hd => rfl); (case hg => rfl); (case hr => first | (go_simp; done) | (go_simp; rfl)); intro g7 hg_ wm hbox_ hb_; have N27 : Aside0 (g2 ≠ g7) := ⟨by rw [hg_]; exact Nat.ne_of_lt (blk_lt BK2.out)⟩; replace BK2 := Aside0.mk (blk_below BK2.out hb_); replace BK3 := Aside0.mk (blk_below BK3.out hb_); replace BKL := Aside0.mk (blk_below BKL.out hb_); have BZ7 := Aside0.mk (hbox_); have GBZ7_HB : Aside0 (w.heap.size ≤ g7) := ⟨by rw [hg_]; exact below_size HB.out⟩; replace HB : Aside0 (Below w.heap.size w wm) := ⟨below_step HB.out hb_⟩; clear hg_ hbox_ hb_) | ((with_reducible refine gate_ (.store 24 (.tmp 7) (.tmp 16)) rfl ?_); refine wpList_store_box rfl rfl 24 (.tmp 7) (.tmp 16) rfl (g := g7) (e := 24) [.slice (some ⟨gL, 0, none⟩) 1 1] rfl rfl BZ7.out rfl ?hq9 ?h1 ?_; (case hq9 => kernel_rfl); (case h1 => simp [Value.oneCell']); intro wn hbx_ hfar_ hsz_ hbel_; replace BK2 := Aside0.mk ((hfar_ _ N27.out).trans BK2.out); replace BK3 := Aside0.mk ((hfar_ _ (blk_ne BK3.out BZ7.out (by decide))).trans BK3.out); replace BKL := Aside0.mk ((hfar_ _ (blk_ne BKL.out BZ7.out (by decide))).trans BKL.out); have BK7 := Aside0.mk (hbx_); replace HB : Aside0 (Below w.heap.size w wn) := ⟨hbel_ _ GBZ7_HB.out w HB.out⟩; have hk2 : wn.cell? ⟨g2, 0, none⟩ = some (.slice A0 l.length c0) := blk_cell BK2.out 0; have hk7 : wn.cell? ⟨g7, 0, none⟩ = some (.slice (some ⟨gL, 0, none⟩) 1 1) := blk_cell BK7.out 0; clear hbx_ hfar_ hsz_ hbel_ BZ7))
  refine (fits_any (some ⟨gL, 0, none⟩) 1 [m] _ (C_one (k34.K_below HB.out HK.out) rfl BKL.out) HYM.out).mono ?_
  rintro e w3 ⟨⟨b2, rfl, hs⟩, hb⟩
  have HSN := Aside0.mk hs
  replace BK2 := Aside0.mk (blk_below BK2.out hb)
  replace BK3 := Aside0.mk (blk_below BK3.out hb)
  replace BK7 := Aside0.mk (blk_below BK7.out hb)
  replace BKL := Aside0.mk (blk_below BKL.out hb)
  replace HB := Aside0.mk (below_step HB.out hb)
  clear hb hk2 hk7 hs
  have hk2 : w3.cell? ⟨g2, 0, none⟩ = some (.slice A0 l.length c0) := blk_cell BK2.out 0
  cases b with
  | false =>
    go_wp2
    go_ret
    exact ⟨rfl, HB.out⟩
  | true =>
  cases b2 with
  | false =>
    go_wp2
    go_ret
    exact ⟨rfl, HB.out⟩
  | true =>
  have HS := Aside0.mk (HSM.out rfl).1
  have HFL := Aside0.mk (HSM.out rfl).2
  have HT := Aside0.mk (HSN.out rfl)
  clear HSM HSN
  go_wp2_with fail
  refine (scheck_any A0 c0 l _ (Kd.C_below HC.out HB.out) HS.out HQ.out).mono ?_
  rintro e w4 ⟨RA, rc, rfl, hle, hC, hb⟩
  obtain ⟨R, hR⟩ : ∃ R, checkS l = R := ⟨_, rfl⟩
  rw [hR] at hC hle
  rw [hR]
  have hmr : R.length ≤ 9223372036854775807 := hC.2.1
  have HRR := Aside0.mk hR
  replace BK2 := Aside0.mk (blk_below BK2.out hb)
  replace BK3 := Aside0.mk (blk_below BK3.out hb)
  replace BK7 := Aside0.mk (blk_below BK7.out hb)
  replace BKL := Aside0.mk (blk_below BKL.out hb)
  replace HB := Aside0.mk (below_step HB.out hb)
  clear hb hk2 hR hC hle
  have hk7 : w4.cell? ⟨g7, 0, none⟩ = some (.slice (some ⟨gL, 0, none⟩) 1 1) := blk_cell BK7.out 0
  cases R with
  | cons r0 rs =>
    have hpos : (0 : Int) < ((r0 :: rs).length : Int) := by rw [List.length_cons]; omega
    go_wp2
    all_goals (go_ret; exact ⟨rfl, HB.out⟩)
  | nil =>
  have HCL := HRR
  clear HRR hmr
  go_wp2_with fail
  refine (scheck_any (some ⟨gL, 0, none⟩) 1 [m] _ (C_one (k34.K_below HB.out HK.out) rfl BKL.out) HT.out HQM.out).mono ?_
  rintro e w5 ⟨RB, rd, rfl, hle, hC, hb⟩
  obtain ⟨R, hR⟩ : ∃ R, checkS [m] = R := ⟨_, rfl⟩
  rw [hR] at hC hle
  rw [hR]
  have hmr : R.length ≤ 9223372036854775807 := hC.2.1
  have HRR := Aside0.mk hR
  replace BK2 := Aside0.mk (blk_below BK2.out hb)
  replace BK3 := Aside0.mk (blk_below BK3.out hb)
  replace HB := Aside0.mk (below_step HB.out hb)
  clear hb hk7 hR hC hle BK7 BKL
  cases R with
  | cons r0 rs =>
    have hpos : (0 : Int) < ((r0 :: rs).length : Int) := by rw [List.length_cons]; omega
    go_wp2
    all_goals (go_ret; exact ⟨rfl, HB.out⟩)
  | nil =>
  have HCM := HRR
  clear HRR hmr
  go_wp2_with fail
  have HI : Aside0 (∀ y ∈ l.take 0, eqS y.f0 m.f0 = false) := ⟨by simp⟩
  go_loopw [9] (fun v wr => ∃ i : Nat, v = .int .i64 (i : Int) ∧ i ≤ l.length ∧ Aside0 (∀ y ∈ l.take i, eqS y.f0 m.f0 = false) ∧ Aside0 (wr.heap[g2]? = some (.cells #[.slice A0 l.length c0] 24 (0, 0))) ∧ Aside0 (wr.heap[g3]? = some (.cells #[.string m.f0, .slice A1 m.f1.length c1, .slice A2 m.f2.length c2, .slice A3 m.f3.length c3] 34 (0, 0))) ∧ Aside0 (Below w.heap.size w wr)) (fun v _ => l.length - (intOf v).toNat)
  case atStart => exact ⟨0, rfl, Nat.zero_le _, HI, BK2, BK3, HB⟩
  case round =>
    clear HI BK2 BK3 HB
    obtain ⟨i, rfl, hi, HI, BK2, BK3, HB⟩ := hrel
    have hk2 : wr.cell? ⟨g2, 0, none⟩ = some (.slice A0 l.length c0) := blk_cell BK2.out 0
    have hk3 : wr.cell? ⟨g3, 0, none⟩ = some (.string m.f0) := blk_cell BK3.out 0
    by_cases hlt : i < l.length
    · have hi0 : (0 : Int) ≤ (i : Int) := by omega
      have hi1 : (i : Int) < (l.length : Int) := by omega
      obtain ⟨md, _, _, _, _, _, _, rfl, hx, hrest⟩ := at34 (Kd.C_below HC.out HB.out) i hlt
      have HST : Aside0 (eqS l[i].f0 m.f0 = false → ∀ y ∈ l.take (i + 1), eqS y.f0 m.f0 = false) := ⟨fun h y hy => by
        rw [List.take_succ_eq_append_getElem hlt] at hy
        rcases List.mem_append.1 hy with hy | hy
        · exact HI.out y hy
        · rw [List.mem_singleton.1 hy]; exact h⟩
      cases hq : eqS l[i].f0 m.f0 with
      | true =>
        have hq2 : (l[i].f0.toList == m.f0.toList) = true := hq
        go_wp2_with fail
        go_quiet (fail)
        clear hq hq2 hx hrest
        go_wp2
        go_ret
        exact ⟨rfl, pw_below_drewN HB.out _⟩
      | false =>
        have hq2 : (l[i].f0.toList == m.f0.toList) = false := hq
        have HI2 := Aside0.mk (HST.out hq)
        go_wp2_with fail
        go_quiet (fail)
        clear hq hq2 hx hrest
        go_wp2
        go_roundw
        case rel => exact ⟨i + 1, by go_num, by omega, HI2, ⟨BK2.out⟩, ⟨BK3.out⟩, ⟨pw_below_drewN HB.out _⟩⟩
        case measure => simp [intOf]; omega
    · obtain rfl : i = l.length := by omega
      rw [List.take_length] at HI
      obtain ⟨N, hN⟩ : ∃ N, m :: l = N := ⟨_, rfl⟩
      have hNl : l ≠ [] := fun h => by have h1 := HCL.out; rw [h, none_told] at h1; cases h1
      have KN : Aside0 (checkS N = [] ∧ Sml N ∧ ∀ m ∈ N, ∀ x ∈ m.f3, B49 x) := ⟨by
        rw [← hN]
        refine ⟨more_clear hNl HCL.out HCM.out HI.out, ⟨?_, ?_⟩, ?_⟩
        · have := HS.out.1; have := HFL.out; rw [List.length_cons]; omega
        · intro y hy
          rcases List.mem_cons.1 hy with rfl | hy
          · exact HT.out.2 _ List.mem_cons_self
          · exact HS.out.2 y hy
        · intro y hy x hx
          rcases List.mem_cons.1 hy with rfl | hy
          · exact HQM.out _ List.mem_cons_self x hx
          · exact HQ.out y hy x hx⟩
      have HNN : Aside0 (m :: l = N) := ⟨hN⟩
      have hLs : l.length ≤ 1000 := HS.out.1
      have HLs := Aside0.mk hLs
      clear HI HCL HCM HFL HT HY HQ HYM HQM HS hN hNl hLs
      go_wp2_with (first | ((with_reducible refine gate_dst (N := 10) rfl ?_); refine box_event ?hg (N := 10) ?hd (cs := #[.slice none 0 0]) (t := 24) ?hr ?_; (case hd => rfl); (case hg => rfl); (case hr => first | (go_simp; done) | (go_simp; rfl)); intro g10 hg_ wx hbox_ hb_; clear hk2 hk3; have N210 : Aside0 (g2 ≠ g10) := ⟨by rw [hg_]; exact Nat.ne_of_lt (blk_lt BK2.out)⟩; replace BK2 := Aside0.mk (blk_below BK2.out hb_); replace BK3 := Aside0.mk (blk_below BK3.out hb_); have BK10 := Aside0.mk (hbox_); have GBK10_HB : Aside0 (w.heap.size ≤ g10) := ⟨by rw [hg_]; exact below_size HB.out⟩; replace HB : Aside0 (Below w.heap.size w wx) := ⟨below_step HB.out hb_⟩; have hk2 : wx.cell? ⟨g2, 0, none⟩ = some (.slice A0 l.length c0) := blk_cell BK2.out 0; have hk10 : wx.cell? ⟨g10, 0, none⟩ = some (.slice none 0 0) := blk_cell BK10.out 0; clear hg_ hbox_ hb_) | ((with_reducible refine gate_dst (N := 57) rfl ?_); refine wpList_load_row rfl 34 (.tmp 3) rfl g3 rfl 34 #[.string m.f0, .slice A1 m.f1.length c1, .slice A2 m.f2.length c2, .slice A3 m.f3.length c3] (0, 0) _ ?hg Try.underlying34 rfl ?hq9 ?_; (case hg => exact BK3.out); (case hq9 => kernel_rfl)) | (at_builtin; refine Kd.R_append (Kd.fixed k34 w) (w0 := w) w.heap.size rfl (.tmp 56) (.tmp 58) 22 34 _ 88 rfl Try.underlying22 info34 rfl (show 0 < 4 by decide) (by omega) (.slice none 0 0) [] m _ (fun _ => True) (fun _ => False) rfl rfl ?hp (fun _ h => h.elim) (fun _ _ => trivial) ?hO ?hB ?hs ?hl ?_; (case hp => exact HK.out); (case hO => exact Kd.R_nil _ _ _ _ _); (case hB => exact HB.out); (case hs => exact below_size HB.out); (case hl => exact (by decide)); intro v1 wy ho hb hgr hat; obtain ⟨R1, q1, hv1, _, _⟩ := Kd.R_reads ho; replace hv1 : v1 = .slice R1 1 q1 := hv1; subst hv1; replace BK2 := Aside0.mk (blk_grown BK2.out hgr (by simp [Value.ownBlock])); replace BK3 := Aside0.mk (blk_grown BK3.out hgr (by simp [Value.ownBlock])); replace BK10 := Aside0.mk (blk_grown BK10.out hgr (by simp [Value.ownBlock])); have HO := Aside0.mk ho; replace HB := Aside0.mk hb; clear ho hb hgr hat hk2 hk10) | ((with_reducible refine gate_ (.store 22 (.tmp 60) (.tmp 59)) rfl ?_); refine wpList_store_at rfl rfl 22 (.tmp 60) (.tmp 59) rfl (g := g10) (i := 0) (e := 24) _ [.slice R1 1 q1] ?hu rfl rfl BK10.out ?hs ?hq9 ?h1 ?_; (case hu => rfl); (case hs => exact Nat.le_of_ble_eq_true rfl); (case hq9 => kernel_rfl); (case h1 => simp [Value.oneCell']); have BK10' := BK10; intro wz cur_ hl_ hbx_ hfar_ hsz_ hbel_; obtain rfl : cur_ = #[.slice R1 1 q1] := Array.toList_inj.1 (hl_.trans (by rfl)); replace BK2 := Aside0.mk ((hfar_ _ N210.out).trans BK2.out); replace BK3 := Aside0.mk ((hfar_ _ (blk_ne BK3.out BK10.out (by decide))).trans BK3.out); replace BK10 := Aside0.mk (hbx_); replace HB : Aside0 (Below w.heap.size w wz) := ⟨hbel_ _ GBK10_HB.out w HB.out⟩; replace HO := Aside0.mk (R_store rfl HO.out BK10'.out (by decide) hfar_); have hk2 : wz.cell? ⟨g2, 0, none⟩ = some (.slice A0 l.length c0) := blk_cell BK2.out 0; have hk10 : wz.cell? ⟨g10, 0, none⟩ = some (.slice R1 1 q1) := blk_cell BK10.out 0; clear BK10' hl_ hbx_ hfar_ hsz_ hbel_) | (at_builtin; refine Kd.R_append_rows (Kd.fixed k34 w) (w0 := w) w.heap.size rfl (.tmp 62) (.tmp 64) 22 34 _ 88 rfl Try.underlying22 info34 rfl (show 0 < 4 by decide) (by omega) (.slice R1 1 q1) ([] ++ [m]) l _ _ _ (fun _ => True) (fun _ => False) rfl rfl ?aO ?aR (fun _ _ h => h) (fun _ h => h.elim) (fun _ _ => trivial) ?aB ?aS ?aL ?_; (case aR => exact ReadsRow.imp_ HC.out HB.out (fun _ _ hp => hp)); (case aB => exact HB.out); (case aO => exact HO.out); (case aS => exact (below_size HB.out)); (case aL => have := HLs.out; simp only [List.length_append, List.length_nil, List.length_singleton]; omega); intro v2 wv ho hb hgr hat; replace ho : (Kd.fixed k34 w).R 34 wv w.heap.size (fun _ => True) v2 N := (by rw [← HNN.out]; exact ho); obtain ⟨R2, q2, hv2, _, _⟩ := Kd.R_reads ho; subst hv2; replace BK2 := Aside0.mk (blk_grown BK2.out hgr (Kd.R_ne HO.out BK2.out (by decide))); clear BK3; replace BK10 := Aside0.mk (blk_grown BK10.out hgr (Kd.R_ne HO.out BK10.out (by decide))); replace HO := Aside0.mk ho; replace HB := Aside0.mk hb; clear ho hb hgr hat hk2 hk10) | ((with_reducible refine gate_ (.store 22 (.tmp 66) (.tmp 65)) rfl ?_); refine wpList_store_at rfl rfl 22 (.tmp 66) (.tmp 65) rfl (g := g10) (i := 0) (e := 24) _ [.slice R2 N.length q2] ?hu rfl rfl BK10.out ?hs ?hq9 ?h1 ?_; (case hu => rfl); (case hs => exact Nat.le_of_ble_eq_true rfl); (case hq9 => kernel_rfl); (case h1 => simp [Value.oneCell']); have BK10' := BK10; intro wu cur_ hl_ hbx_ hfar_ hsz_ hbel_; obtain rfl : cur_ = #[.slice R2 N.length q2] := Array.toList_inj.1 (hl_.trans (by rfl)); replace BK2 := Aside0.mk ((hfar_ _ N210.out).trans BK2.out); replace BK10 := Aside0.mk (hbx_); replace HB : Aside0 (Below w.heap.size w wu) := ⟨hbel_ _ GBK10_HB.out w HB.out⟩; replace HO := Aside0.mk (R_store rfl HO.out BK10'.out (by decide) hfar_); have hk10 : wu.cell? ⟨g10, 0, none⟩ = some (.slice R2 N.length q2) := blk_cell BK10.out 0; clear BK10' hl_ hbx_ hfar_ hsz_ hbel_))
      obtain ⟨_, _, e3⟩ := Kd.R_reads' HO.out
      have hq := scheck_any R2 q2 N _ (C_fixed HB.out e3) KN.out.2.1 KN.out.2.2
      rw [KN.out.1] at hq
      refine hq.mono ?_
      clear hq e3
      rintro e wq ⟨_, _, rfl, _, _, hb⟩
      replace HB := Aside0.mk (below_step HB.out hb)
      clear hb
      go_wp2
      go_ret
      exact ⟨rfl, HB.out⟩
end Go.Proofs.Ytnfhlhjbmcofoaa.S
