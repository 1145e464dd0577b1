/- Scope: the walk of the law ScopeTwice. -/
import Derived.Test.YtnfhlhjbmcofoaaScBb
namespace Go.Proofs.Ytnfhlhjbmcofoaa.S
open Go.RowKit Go.Proofs.YtnfhlhjbmcofoaaW.PrintWords Go.Proofs.YtnfhlhjbmcofoaaW.PrintLast
set_option linter.unusedVariables false
set_option linter.unusedSimpArgs false
theorem addr_zero (g n : Nat) : (⟨g, 0, none⟩ : Addr).add n = ⟨g, n, none⟩ := by rw [Addr.add_lit, Nat.zero_add]
set_option maxHeartbeats 64000000 in
set_option maxRecDepth 100000 in
theorem lawTwice (A0 : Option Addr) (c0 : Nat) (l : List S34) (y0 y1 x2 : Int) (w : World) (h0 : Kd.C k34 w A0 l.length l) (hB : BL22 l) (hy : (Lit.int .u8 y0).wf = true ∧ (Lit.int .u8 y1).wf = true) (hx2 : (Lit.int .u8 x2).wf = true) :
    Calls Try.prog 10 #[.agg #[.slice A0 l.length c0], .agg #[.int .u8 y0, .int .u8 y1], .int .u8 x2] w fun e w' => e = .returned (.bool true) ∧ Below w.heap.size w w' := by
  have HX1 := Aside0.mk (u8_rng hy.1)
  have HX3 := Aside0.mk (u8_rng hy.2)
  have HX2 := Aside0.mk (u8_rng hx2)
  clear hy hx2
  have HC := Aside0.mk h0
  have HY := Aside0.mk hB
  have HQ := Aside0.mk (b49_of hB)
  have hm : l.length ≤ 9223372036854775807 := h0.2.1
  have HB : Aside0 (Below w.heap.size w w) := ⟨Below.refl _ _⟩
  clear h0 hB
  go_enter Try.func10, Try.ntmps10
  go_wp2_with (first | ((with_reducible refine gate_dst (N := 3) rfl ?_); refine box_event ?hg (N := 3) ?hd (cs := #[.slice A0 l.length c0]) (t := 24) ?hr ?_; (case hd => rfl); (case hg => rfl); (case hr => first | (go_simp; done) | (go_simp; rfl)); intro g1 hg_ wa hbox_ hb_; have BK1 := Aside0.mk (hbox_); have GBK1_HB : Aside0 (w.heap.size ≤ g1) := ⟨by rw [hg_]; exact below_size HB.out⟩; replace HB : Aside0 (Below w.heap.size w wa) := ⟨below_step HB.out hb_⟩; clear hg_ hbox_ hb_) | ((with_reducible refine gate_dst (N := 4) rfl ?_); refine box_event ?hg (N := 4) ?hd (cs := #[.int .u8 y0, .int .u8 y1]) (t := 57) ?hr ?_; (case hd => rfl); (case hg => rfl); (case hr => first | (go_simp; done) | (go_simp; rfl)); intro g4 hg_ wa4 hbox_ hb_; replace BK1 := Aside0.mk (blk_below BK1.out hb_); have BK4 := Aside0.mk (hbox_); have GBK4_HB : Aside0 (w.heap.size ≤ g4) := ⟨by rw [hg_]; exact below_size HB.out⟩; replace HB : Aside0 (Below w.heap.size w wa4) := ⟨below_step HB.out hb_⟩; have hk1 : wa4.cell? ⟨g1, 0, none⟩ = some (.slice A0 l.length c0) := blk_cell BK1.out 0; clear hg_ hbox_ hb_))
  refine (head_law _).mono ?_
  rintro e wb ⟨rfl, hb⟩
  replace BK1 := Aside0.mk (blk_below BK1.out hb)
  replace BK4 := Aside0.mk (blk_below BK4.out hb)
  replace HB := Aside0.mk (below_step HB.out hb)
  clear hb hk1
  have hk1 : wb.cell? ⟨g1, 0, none⟩ = some (.slice A0 l.length c0) := blk_cell BK1.out 0
  go_wp2_with fail
  refine (fits_any A0 c0 l _ (Kd.C_below HC.out HB.out) HY.out).mono ?_
  rintro e wc ⟨⟨b, rfl, hs⟩, hb⟩
  have HSM := Aside0.mk hs
  replace BK1 := Aside0.mk (blk_below BK1.out hb)
  replace BK4 := Aside0.mk (blk_below BK4.out hb)
  replace HB := Aside0.mk (below_step HB.out hb)
  clear hb hk1 hs
  have hk1 : wc.cell? ⟨g1, 0, none⟩ = some (.slice A0 l.length c0) := blk_cell BK1.out 0
  cases b with
  | false =>
    go_wp2
    go_ret
    exact ⟨rfl, HB.out⟩
  | true =>
  have HS := Aside0.mk (HSM.out rfl)
  clear HSM
  by_cases hl : l.length = 0
  · have hl0 : ((l.length : Int) == 0) = true := by rw [beq_iff_eq]; omega
    go_wp2
    go_ret
    exact ⟨rfl, HB.out⟩
  have hl0 : ((l.length : Int) == 0) = false := by rw [beq_eq_false_iff_ne]; omega
  have HNL : Aside0 (0 < l.length) := ⟨by omega⟩
  clear hl
  go_wp2_with fail
  refine (scheck_any A0 c0 l _ (Kd.C_below HC.out HB.out) HS.out HQ.out).mono ?_
  rintro e wf ⟨RA, rc, rfl, hle, hC, hb⟩
  obtain ⟨R, hR⟩ : ∃ R, checkS l = R := ⟨_, rfl⟩
  rw [hR] at hC hle
  rw [hR]
  have hmr : R.length ≤ 9223372036854775807 := hC.2.1
  have HRR := Aside0.mk hR
  replace BK1 := Aside0.mk (blk_below BK1.out hb)
  replace BK4 := Aside0.mk (blk_below BK4.out hb)
  replace HB := Aside0.mk (below_step HB.out hb)
  clear hb hk1 hR hC hle
  have hk1 : wf.cell? ⟨g1, 0, none⟩ = some (.slice A0 l.length c0) := blk_cell BK1.out 0
  cases R with
  | cons r0 rs =>
    have hpos : (0 : Int) < ((r0 :: rs).length : Int) := by rw [List.length_cons]; omega
    go_wp2
    all_goals (go_ret; exact ⟨rfl, HB.out⟩)
  | nil =>
  have HCL := HRR
  clear HRR hmr
  have hy0_ : wf.cell? ⟨g4, 0, none⟩ = some (.int .u8 y0) := blk_cell BK4.out 0
  obtain ⟨i, hr1, hil⟩ : ∃ i : Nat, (wrap64 y0).tmod (l.length : Int) = (i : Int) ∧ i < l.length := ⟨_, mod_at HX1.out HNL.out, Nat.mod_lt _ HNL.out⟩
  have hi0 : (0 : Int) ≤ (i : Int) := by omega
  have hi1 : (i : Int) < (l.length : Int) := by omega
  have hnz : (l.length : Int) ≠ 0 := by have := HNL.out; omega
  have hnz2 : l.length ≠ 0 := by have := HNL.out; omega
  obtain ⟨md, cm, hmd, hKm, hcm⟩ := el_get (Kd.C_below HC.out HB.out) i hil
  subst hmd
  obtain ⟨m, hmm⟩ : ∃ m, l[i] = m := ⟨_, rfl⟩
  rw [hmm] at hKm
  have HMM := Aside0.mk hmm
  obtain ⟨M1, d1, M2, d2, M3, d3, rfl, hq1, hC1, hq2, hC2, hq3, hC3⟩ := k34_open hKm
  have HMC := Aside0.mk hcm
  obtain ⟨xs, hxs⟩ : ∃ xs, m.f3 = xs := ⟨_, rfl⟩
  have HXS := Aside0.mk hxs
  rw [hxs] at hC3 HMC
  have HCX := Aside0.mk hC3
  have HP1 := Aside0.mk hC1
  have HP2 := Aside0.mk hC2
  have HSM : Aside0 (m.f1.length ≤ 1000 ∧ m.f2.length ≤ 1000 ∧ xs.length ≤ 1000) := ⟨by rw [← hxs, ← hmm]; exact HS.out.2 _ (List.getElem_mem hil)⟩
  have hm2 : m.f2.length ≤ 9223372036854775807 := hC2.2.1
  have hm3 : xs.length ≤ 9223372036854775807 := hC3.2.1
  have HBf : Aside0 (Below wf.heap.size wf wf) := ⟨Below.refl _ _⟩
  clear hmm hxs hC3 hq3 hq1 hC1 hq2 hC2 hKm hcm HX1
  by_cases hxz : xs.length = 0
  · have hxz1 : ((xs.length : Int) == 0) = true := by rw [beq_iff_eq]; omega
    go_wp2_with (first | ((with_reducible refine gate_dst (N := 51) rfl ?_); refine wpList_load_cells rfl 34 (.tmp 50) rfl _ rfl [.string m.f0, .slice M1 m.f1.length d1, .slice M2 m.f2.length d2, .slice M3 xs.length d3] ?hc _ Try.underlying34 rfl ?hq9 ?_; (case hc => exact HMC.out _ HBf.out); (case hq9 => kernel_rfl)) | ((with_reducible refine gate_dst (N := 10) rfl ?_); refine box_event ?hg (N := 10) ?hd (cs := #[.string ⟨#[]⟩, .slice none 0 0, .slice none 0 0, .slice none 0 0]) (t := 34) ?hr ?_; (case hd => rfl); (case hg => rfl); (case hr => first | (go_simp; done) | (go_simp; rfl)); intro g10 hg_ wx hbox_ hb_; replace BK1 := Aside0.mk (blk_below BK1.out hb_); replace BK4 := Aside0.mk (blk_below BK4.out hb_); have BZ10 := Aside0.mk (hbox_); have GBZ10_HBf : Aside0 (wf.heap.size ≤ g10) := ⟨by rw [hg_]; exact below_size HBf.out⟩; replace HBf : Aside0 (Below wf.heap.size wf wx) := ⟨below_step HBf.out hb_⟩; clear hg_ hbox_ hb_) | ((with_reducible refine gate_ (.store 34 (.tmp 10) (.tmp 51)) rfl ?_); refine wpList_store_box rfl rfl 34 (.tmp 10) (.tmp 51) rfl (g := g10) (e := 34) [.string m.f0, .slice M1 m.f1.length d1, .slice M2 m.f2.length d2, .slice M3 xs.length d3] rfl rfl BZ10.out rfl ?hq9 ?h1 ?_; (case hq9 => kernel_rfl); (case h1 => simp [Value.oneCell']); intro wy hbx_ hfar_ hsz_ hbel_; replace BK1 := Aside0.mk ((hfar_ _ (blk_ne BK1.out BZ10.out (by decide))).trans BK1.out); replace BK4 := Aside0.mk ((hfar_ _ (blk_ne BK4.out BZ10.out (by decide))).trans BK4.out); have BK10 := Aside0.mk (hbx_); replace HBf : Aside0 (Below wf.heap.size wf wy) := ⟨hbel_ _ GBZ10_HBf.out wf HBf.out⟩; have hq1_ : wy.cell? ⟨g10, 1, none⟩ = some (.slice M1 m.f1.length d1) := blk_cell BK10.out 1; have hq2_ : wy.cell? ⟨g10, 2, none⟩ = some (.slice M2 m.f2.length d2) := blk_cell BK10.out 2; have hq3_ : wy.cell? ⟨g10, 3, none⟩ = some (.slice M3 xs.length d3) := blk_cell BK10.out 3; clear hbx_ hfar_ hsz_ hbel_ BZ10))
    go_ret
    exact ⟨rfl, below_step HB.out HBf.out⟩
  have hxz1 : ((xs.length : Int) == 0) = false := by rw [beq_eq_false_iff_ne]; omega
  have hxz2 : (xs.length : Int) ≠ 0 := by omega
  have HXP : Aside0 (0 < xs.length) := ⟨by omega⟩
  obtain ⟨k, hr2, hkl⟩ : ∃ k : Nat, (wrap64 x2).tmod (xs.length : Int) = (k : Int) ∧ k < xs.length := ⟨_, mod_at HX2.out HXP.out, Nat.mod_lt _ HXP.out⟩
  have hk0 : (0 : Int) ≤ (k : Int) := by omega
  have hkl1 : (k : Int) < (xs.length : Int) := by omega
  have HKX := Aside0.mk hkl
  clear HX2
  go_wp2_with (first | ((with_reducible refine gate_dst (N := 51) rfl ?_); refine wpList_load_cells rfl 34 (.tmp 50) rfl _ rfl [.string m.f0, .slice M1 m.f1.length d1, .slice M2 m.f2.length d2, .slice M3 xs.length d3] ?hc _ Try.underlying34 rfl ?hq9 ?_; (case hc => exact HMC.out _ HBf.out); (case hq9 => kernel_rfl)) | ((with_reducible refine gate_dst (N := 10) rfl ?_); refine box_event ?hg (N := 10) ?hd (cs := #[.string ⟨#[]⟩, .slice none 0 0, .slice none 0 0, .slice none 0 0]) (t := 34) ?hr ?_; (case hd => rfl); (case hg => rfl); (case hr => first | (go_simp; done) | (go_simp; rfl)); intro g10 hg_ wx hbox_ hb_; replace BK1 := Aside0.mk (blk_below BK1.out hb_); replace BK4 := Aside0.mk (blk_below BK4.out hb_); have BZ10 := Aside0.mk (hbox_); have GBZ10_HBf : Aside0 (wf.heap.size ≤ g10) := ⟨by rw [hg_]; exact below_size HBf.out⟩; replace HBf : Aside0 (Below wf.heap.size wf wx) := ⟨below_step HBf.out hb_⟩; clear hg_ hbox_ hb_) | ((with_reducible refine gate_ (.store 34 (.tmp 10) (.tmp 51)) rfl ?_); refine wpList_store_box rfl rfl 34 (.tmp 10) (.tmp 51) rfl (g := g10) (e := 34) [.string m.f0, .slice M1 m.f1.length d1, .slice M2 m.f2.length d2, .slice M3 xs.length d3] rfl rfl BZ10.out rfl ?hq9 ?h1 ?_; (case hq9 => kernel_rfl); (case h1 => simp [Value.oneCell']); intro wy hbx_ hfar_ hsz_ hbel_; replace BK1 := Aside0.mk ((hfar_ _ (blk_ne BK1.out BZ10.out (by decide))).trans BK1.out); replace BK4 := Aside0.mk ((hfar_ _ (blk_ne BK4.out BZ10.out (by decide))).trans BK4.out); have BK10 := Aside0.mk (hbx_); replace HBf : Aside0 (Below wf.heap.size wf wy) := ⟨hbel_ _ GBZ10_HBf.out wf HBf.out⟩; have hq1_ : wy.cell? ⟨g10, 1, none⟩ = some (.slice M1 m.f1.length d1) := blk_cell BK10.out 1; have hq2_ : wy.cell? ⟨g10, 2, none⟩ = some (.slice M2 m.f2.length d2) := blk_cell BK10.out 2; have hq3_ : wy.cell? ⟨g10, 3, none⟩ = some (.slice M3 xs.length d3) := blk_cell BK10.out 3; clear hbx_ hfar_ hsz_ hbel_ BZ10) | (at_builtin; clear hq1_ hq2_ hq3_; refine Kd.R_append_rows Kd.string (w0 := wf) wf.heap.size rfl (.tmp 63) (.tmp 65) 30 9 _ 16 rfl Try.underlying30 info9 rfl (by decide) (by omega) (.slice none 0 0) [] m.f1 _ _ _ (fun _ => True) (fun _ => False) rfl rfl ?aO ?aR (fun _ _ h => h) (fun _ h => h.elim) (fun _ _ => trivial) ?aB ?aS ?aL ?_; (case aR => exact (Kd.C_below HP1.out HBf.out)); (case aB => exact HBf.out); (case aO => exact (Kd.R_nil _ _ _ _ _)); (case aS => exact (below_size HBf.out)); (case aL => have := HSM.out; simp only [List.length_nil]; omega); intro v6 wc ho hb hgr hat; rw [List.nil_append] at ho; have HO := Aside0.mk ho; replace BK1 := Aside0.mk (blk_grown BK1.out hgr (by simp [Value.ownBlock])); replace BK4 := Aside0.mk (blk_grown BK4.out hgr (by simp [Value.ownBlock])); replace BK10 := Aside0.mk (blk_grown BK10.out hgr (by simp [Value.ownBlock])); replace HBf := Aside0.mk hb; have hq2_ : wc.cell? ⟨g10, 2, none⟩ = some (.slice M2 m.f2.length d2) := blk_cell BK10.out 2; clear ho hb hgr hat))
  clear hq2_ hk1 hy0_ hr1 hr2
  replace HO : Aside0 (Kd.string.R 9 wc wf.heap.size (fun _ => True) v6 (m.f1 ++ (m.f2.take 0).map (·.f1))) := ⟨by rw [List.take_zero, List.map_nil, List.append_nil]; exact HO.out⟩
  go_loopw [12, 13] (fun a b wr => ∃ j : Nat, b = .int .i64 (j : Int) ∧ j ≤ m.f2.length ∧ Aside0 (Kd.string.R 9 wr wf.heap.size (fun _ => True) a (m.f1 ++ (m.f2.take j).map (·.f1))) ∧ Aside0 (wr.heap[g1]? = some (.cells #[.slice (some md) l.length c0] 24 (0, 0))) ∧ Aside0 (wr.heap[g4]? = some (.cells #[.int .u8 y0, .int .u8 y1] 57 (0, 0))) ∧ Aside0 (wr.heap[g10]? = some (.cells #[.string m.f0, .slice M1 m.f1.length d1, .slice M2 m.f2.length d2, .slice M3 xs.length d3] 34 (0, 0))) ∧ Aside0 (Below wf.heap.size wf wr)) (fun _ b _ => m.f2.length - (intOf b).toNat)
  case atStart => exact ⟨0, rfl, Nat.zero_le _, HO, BK1, BK4, BK10, HBf⟩
  case round =>
    clear HO BK1 BK4 BK10 HBf
    obtain ⟨j, rfl, hj, HO, BK1, BK4, BK10, HBf⟩ := hrel
    have hq2_ : wr.cell? ⟨g10, 2, none⟩ = some (.slice M2 m.f2.length d2) := blk_cell BK10.out 2
    by_cases hlt : j < m.f2.length
    · obtain ⟨ad, rfl, hx0, hx1, hx2, hx3⟩ := at59 (Kd.C_below HP2.out HBf.out) j hlt
      have hj0 : (0 : Int) ≤ (j : Int) := by omega
      have hj1 : (j : Int) < (m.f2.length : Int) := by omega
      have hst : m.f1 ++ (m.f2.take (j + 1)).map (·.f1) = (m.f1 ++ (m.f2.take j).map (·.f1)) ++ [m.f2[j].f1] := by rw [List.take_succ_eq_append_getElem hlt, List.map_append, List.append_assoc]; rfl
      have hll : (m.f1 ++ (m.f2.take j).map (·.f1)).length = m.f1.length + j := by rw [List.length_append, List.length_map, List.length_take]; omega
      obtain ⟨p, hp⟩ : ∃ p, m.f2[j] = p := ⟨_, rfl⟩
      rw [hp] at hx1 hst
      obtain ⟨T, hT⟩ : ∃ T, m.f1 ++ (m.f2.take j).map (·.f1) = T := ⟨_, rfl⟩
      rw [hT] at HO hst hll
      have HST := Aside0.mk hst
      have HTL : Aside0 ((T.length + 1) * 16 ≤ 140737488355328) := ⟨by have := HSM.out; omega⟩
      clear hx0 hx2 hx3 hp hT hst hll
      go_wp2_with (first | (at_builtin; refine Kd.R_append Kd.string (w0 := wf) wf.heap.size rfl (.tmp 74) (.tmp 81) 30 9 _ 16 rfl Try.underlying30 info9 rfl (by decide) (by omega) u12 T p.f1 [.string p.f1] (fun _ => True) (fun _ => False) rfl rfl ?hp (fun _ h => h.elim) (fun _ _ => trivial) ?hO ?hB ?hs ?hl ?_; (case hp => exact rfl); (case hO => exact HO.out); (case hB => exact HBf.out); (case hs => exact below_size HBf.out); (case hl => exact HTL.out); intro v1 w2 ho hb hgr hat; replace BK1 := Aside0.mk (blk_grown BK1.out hgr (Kd.R_ne HO.out BK1.out (by decide))); replace BK4 := Aside0.mk (blk_grown BK4.out hgr (Kd.R_ne HO.out BK4.out (by decide))); replace BK10 := Aside0.mk (blk_grown BK10.out hgr (Kd.R_ne HO.out BK10.out (by decide))); replace HO := Aside0.mk ho; replace HBf := Aside0.mk hb; clear ho hb hgr hat hq2_))
      go_roundw
      case rel => exact ⟨j + 1, by go_num, by omega, ⟨by rw [HST.out]; exact HO.out⟩, BK1, BK4, BK10, HBf⟩
      case measure => simp [intOf]; omega
    · obtain rfl : j = m.f2.length := by omega
      rw [List.take_length] at HO
      obtain ⟨HD, hHD⟩ : ∃ H, m.f1 ++ m.f2.map (·.f1) = H := ⟨_, rfl⟩
      rw [hHD] at HO
      have hHl : HD.length ≤ 2000 := by rw [← hHD, List.length_append, List.length_map]; have := HSM.out; omega
      have HHD := Aside0.mk hHD
      have HHL := Aside0.mk hHl
      clear hHD hHl
      go_wp2_with fail
      clear hq2_
      replace HO : Aside0 (Kd.string.R 9 wr wf.heap.size (fun _ => True) u12 (HD ++ namesS (xs.take 0))) := ⟨by rw [List.take_zero]; show Kd.string.R 9 wr wf.heap.size (fun _ => True) u12 (HD ++ []); rw [List.append_nil]; exact HO.out⟩
      go_loopw [12, 14] (fun a b wr => ∃ j : Nat, b = .int .i64 (j : Int) ∧ j ≤ k ∧ Aside0 (Kd.string.R 9 wr wf.heap.size (fun _ => True) a (HD ++ namesS (xs.take j))) ∧ Aside0 (wr.heap[g1]? = some (.cells #[.slice (some md) l.length c0] 24 (0, 0))) ∧ Aside0 (wr.heap[g4]? = some (.cells #[.int .u8 y0, .int .u8 y1] 57 (0, 0))) ∧ Aside0 (wr.heap[g10]? = some (.cells #[.string m.f0, .slice M1 m.f1.length d1, .slice M2 m.f2.length d2, .slice M3 xs.length d3] 34 (0, 0))) ∧ Aside0 (Below wf.heap.size wf wr)) (fun _ b _ => k - (intOf b).toNat)
      case atStart => exact ⟨0, rfl, Nat.zero_le _, HO, BK1, BK4, BK10, HBf⟩
      case round =>
        clear HO BK1 BK4 BK10 HBf
        obtain ⟨j, rfl, hj, HO, BK1, BK4, BK10, HBf⟩ := hrel
        have hq3_ : wr.cell? ⟨g10, 3, none⟩ = some (.slice M3 xs.length d3) := blk_cell BK10.out 3
        by_cases hlt : j < k
        · have hjx : j < xs.length := by have := HKX.out; omega
          have hj0 : (0 : Int) ≤ (j : Int) := by omega
          have hj1 : (j : Int) < (k : Int) := by omega
          have hj2 : (j : Int) < (xs.length : Int) := by omega
          obtain ⟨ax, cx, hax, hKx, hcx⟩ := el_get HCX.out j hjx
          subst hax
          have hst := names_step xs j hjx
          have hnl := names_len (xs.take j)
          rw [List.length_take] at hnl
          obtain ⟨x, hxx⟩ : ∃ x, xs[j] = x := ⟨_, rfl⟩
          rw [hxx] at hKx hst
          obtain ⟨X7, p7, X8, p8, X19, p19, X30, p30, X41, p41, rfl, _⟩ := k49_open hKx
          have hx0 : wr.cell? (ax.add (j * 42)) = some (.int .i64 x.f0) := hcx wr HBf.out 0 _ rfl
          have hx1 : wr.cell? ⟨(ax.add (j * 42)).block, (ax.add (j * 42)).off + 1, none⟩ = some (.string x.f1) := hcx wr HBf.out 1 _ rfl
          obtain ⟨T, hT⟩ : ∃ T, namesS (xs.take j) = T := ⟨_, rfl⟩
          rw [hT] at HO hst hnl
          have HTL : Aside0 (((HD ++ T).length + 1) * 16 ≤ 140737488355328) := ⟨by have := HSM.out; have := HHL.out; rw [List.length_append]; omega⟩
          obtain ⟨nd, hnd⟩ : ∃ b, namedS x.f0 = b := ⟨_, rfl⟩
          rw [hnd] at hst
          have HND := Aside0.mk hnd
          have HST := Aside0.mk hst
          clear hcx hKx hxx hT hst hnl hnd hjx
          go_wp2_with fail
          refine (named_any _ _).mono ?_
          rintro e w' ⟨rfl, hw_⟩
          obtain rfl : wr = w' := hw_.symm
          rw [HND.out]
          cases nd with
          | true =>
            go_wp2_with (first | (at_builtin; refine Kd.R_append Kd.string (w0 := wf) wf.heap.size rfl (.tmp 96) (.tmp 103) 30 9 _ 16 rfl Try.underlying30 info9 rfl (by decide) (by omega) u12 (HD ++ T) x.f1 [.string x.f1] (fun _ => True) (fun _ => False) rfl rfl ?hp (fun _ h => h.elim) (fun _ _ => trivial) ?hO ?hB ?hs ?hl ?_; (case hp => exact rfl); (case hO => exact HO.out); (case hB => exact HBf.out); (case hs => exact below_size HBf.out); (case hl => exact HTL.out); intro v1 w2 ho hb hgr hat; replace BK1 := Aside0.mk (blk_grown BK1.out hgr (Kd.R_ne HO.out BK1.out (by decide))); replace BK4 := Aside0.mk (blk_grown BK4.out hgr (Kd.R_ne HO.out BK4.out (by decide))); replace BK10 := Aside0.mk (blk_grown BK10.out hgr (Kd.R_ne HO.out BK10.out (by decide))); replace HO := Aside0.mk ho; replace HBf := Aside0.mk hb; clear ho hb hgr hat hq3_ hx0 hx1))
            go_roundw
            case rel => exact ⟨j + 1, by go_num, by omega, ⟨by rw [HST.out, if_pos trivial, ← List.append_assoc]; exact HO.out⟩, BK1, BK4, BK10, HBf⟩
            case measure => simp [intOf]; omega
          | false =>
            clear hx1
            go_wp2
            go_roundw
            case rel => exact ⟨j + 1, by go_num, by omega, ⟨by rw [HST.out, if_neg (by decide), List.append_nil]; exact HO.out⟩, BK1, BK4, BK10, HBf⟩
            case measure => simp [intOf]; omega
        · obtain rfl : j = k := by omega
          obtain ⟨AH, hAH⟩ : ∃ A, HD ++ namesS (xs.take j) = A := ⟨_, rfl⟩
          rw [hAH] at HO
          have HAH : Aside0 (∀ nm ∈ AH, nameS m (m.f3.take j) nm = true) := ⟨fun nm h => ahead_names (by rw [HXS.out]; rw [← hAH, ← HHD.out] at h; exact h)⟩
          have HASZ : Aside0 (∀ nm ∈ AH, nm.size ≤ 140737488351232) := ⟨fun nm h => by
            have hb34 : B34 m := HY.out.2 m (by rw [← HMM.out]; exact List.getElem_mem hil)
            rw [← hAH, ← HHD.out] at h
            rcases List.mem_append.1 h with h | h
            · rcases List.mem_append.1 h with h | h
              · exact hb34.2.1.2 nm h
              · obtain ⟨p, hp, rfl⟩ := List.mem_map.1 h
                exact (hb34.2.2.1.2 p hp).2.1
            · obtain ⟨p, hp, rfl⟩ := List.mem_map.1 h
              exact (hb34.2.2.2.2 p (by rw [HXS.out]; exact List.mem_of_mem_take (List.mem_filter.1 hp).1)).2.1⟩
          have hAl : AH.length ≤ 3000 := by
            have h1 := names_len (xs.take j)
            rw [List.length_take] at h1
            rw [← hAH, List.length_append]; have := HHL.out; have := HSM.out; omega
          obtain ⟨P0, p0, hpv, _, hpc⟩ := Kd.R_reads HO.out
          subst hpv
          have HPC := Aside0.mk hpc
          have HFC : Aside0 (∀ w', Below wr.heap.size wr w' → w'.cell? ⟨g1, 0, none⟩ = some (.slice (some md) l.length c0) ∧ w'.cell? ⟨g4, 1, none⟩ = some (.int .u8 y1) ∧ w'.cell? ⟨g10, 3, none⟩ = some (.slice M3 xs.length d3)) := ⟨fun w' hb => ⟨pw_cell_below hb (blk_cell BK1.out 0), pw_cell_below hb (blk_cell BK4.out 1), pw_cell_below hb (blk_cell BK10.out 3)⟩⟩
          have HBW := Aside0.mk (below_step HB.out HBf.out)
          replace HCX := Aside0.mk (Kd.C_below HCX.out HBf.out)
          clear HO BK1 BK4 BK10 HHD HHL hpc hAH HBf HP1 HP2 HMC
          obtain ⟨ax, cx, hax, hKx, hcx⟩ := el_get HCX.out j hkl
          subst hax
          obtain ⟨x, hxx⟩ : ∃ x, xs[j] = x := ⟨_, rfl⟩
          rw [hxx] at hKx
          have HXX : Aside0 (xs[j]? = some x) := ⟨by rw [← hxx]; exact List.getElem?_eq_getElem hkl⟩
          obtain ⟨X7, p7, X8, p8, X19, p19, X30, p30, X41, p41, rfl, _⟩ := k49_open hKx
          have hx0 : wr.cell? (ax.add (j * 42)) = some (.int .i64 x.f0) := hcx wr (Below.refl _ _) 0 _ rfl
          obtain ⟨nd, hnd⟩ : ∃ b, namedS x.f0 = b := ⟨_, rfl⟩
          have HND := Aside0.mk hnd
          clear hcx hKx hxx hnd
          go_wp2_with fail
          refine (named_any _ _).mono ?_
          rintro e w' ⟨rfl, hw_⟩
          obtain rfl : wr = w' := hw_.symm
          rw [HND.out]
          clear hx0 hq3_
          cases nd with
          | false =>
            go_wp2
            go_ret
            exact ⟨rfl, HBW.out⟩
          | true =>
          by_cases hAz : AH.length = 0
          · have hAz1 : ((AH.length : Int) == 0) = true := by rw [beq_iff_eq]; omega
            go_wp2
            go_ret
            exact ⟨rfl, HBW.out⟩
          have hAz1 : ((AH.length : Int) == 0) = false := by rw [beq_eq_false_iff_ne]; omega
          have hAz2 : (AH.length : Int) ≠ 0 := by omega
          obtain ⟨q, hr3, hql⟩ : ∃ q : Nat, (wrap64 y1).tmod (AH.length : Int) = (q : Int) ∧ q < AH.length := ⟨_, mod_at HX3.out (by omega), Nat.mod_lt _ (by omega)⟩
          have hq0 : (0 : Int) ≤ (q : Int) := by omega
          have hq1 : (q : Int) < (AH.length : Int) := by omega
          obtain ⟨pa, hpa, hpq⟩ := atStr HPC.out q hql
          subst hpa
          obtain ⟨nm, hnm⟩ : ∃ nm, AH[q] = nm := ⟨_, rfl⟩
          rw [hnm] at hpq
          have HNM : Aside0 (nameS m (m.f3.take j) nm = true) := ⟨HAH.out nm (by rw [← hnm]; exact List.getElem_mem hql)⟩
          have HFA : Aside0 (∀ w', Below wr.heap.size wr w' → w'.cell? (pa.add q) = some (.string nm)) := ⟨fun w' hb => pw_cell_below hb hpq⟩
          have HNS : Aside0 (nm.size ≤ 140737488351232) := ⟨HASZ.out nm (by rw [← hnm]; exact List.getElem_mem hql)⟩
          have HBp : Aside0 (Below wr.heap.size wr wr) := ⟨Below.refl _ _⟩
          obtain ⟨hk1, hk4, hq3_⟩ := HFC.out wr (Below.refl _ _)
          have hs_ := hpq
          clear hnm hpq hAz hAz2 HPC HX3
          go_wp2_with (first | ((with_reducible refine gate_dst (N := 120) rfl ?_); refine Kd.R_lit (Kd.fixed k49 wr) (w0 := wr) wr.heap.size 49 ?hg (N := 120) ?hd (xs := []) (inner := []) (ok := fun _ => True) (okp := fun _ => True) ?hr ?hp (fun _ hk => hk) trivial HBp.out (below_size HBp.out) (by simp) ?_; (case hd => rfl); (case hg => rfl); (case hr => first | (go_simp; done) | (go_simp; rfl)); (case hp => exact Reps.none _ _); intro v_ wl ho_ hb_ hg_ hn_; have HO := Aside0.mk ho_; replace HBp := Aside0.mk hb_; clear hk1 hk4 hq3_ hs_; obtain ⟨hk1, hk4, hq3_⟩ := HFC.out wl HBp.out; have hs_ := HFA.out wl HBp.out; clear ho_ hb_ hg_ hn_) | (at_builtin; refine Kd.R_append_rows (Kd.fixed k49 wr) (w0 := wr) wr.heap.size rfl (.tmp 120) (.tmp 122) 32 49 _ 568 rfl Try.underlying32 info49 rfl (show 0 < 42 by decide) (by omega) v_ [] xs _ _ _ (fun _ => True) (fun _ => False) rfl rfl ?aO ?aR (fun _ _ h => h) (fun _ h => h.elim) (fun _ _ => trivial) ?aB ?aS ?aL ?_; (case aR => exact ReadsRow.imp_ HCX.out HBp.out (fun _ _ hp => hp)); (case aB => exact HBp.out); (case aO => exact HO.out); (case aS => exact (below_size HBp.out)); (case aL => have := HSM.out; simp only [List.length_nil]; omega); intro v1 wv ho hb hgr hat; replace ho : (Kd.fixed k49 wr).R 49 wv wr.heap.size (fun _ => True) v1 xs := ho; obtain ⟨gA, cap, cur, hv1, hgb, hgA, hsA⟩ := row_open ho HXP.out; subst hv1; obtain ⟨_, _, e3⟩ := Kd.R_reads' ho; obtain ⟨ax2, cx2, hax2, hKx2, hcx2⟩ := el_get e3 j HKX.out; cases hax2; have hx_ : xs[j]'HKX.out = x := Option.some.inj ((List.getElem?_eq_getElem HKX.out).symm.trans HXX.out); rw [hx_] at hKx2; obtain ⟨Y7, q7, Y8, q8, Y19, q19, Y30, q30, Y41, q41, rfl, hl7, hC7, hl8, hC8, hl19, hC19, hl30, hC30, hl41, hC41⟩ := k49_open (show k49.K wr x cx2 from hKx2); have HXC : Aside0 (∀ w', Below wv.heap.size wv w' → ∀ (i : Nat) v, ([.int .i64 x.f0, .string x.f1, .string x.f2.f0, .int .i64 x.f2.f1, .string x.f3.f0, .int .i64 x.f3.f1, .string x.f4, .slice Y7 x.f5.length q7, .slice Y8 x.f6.length q8, .int .i64 x.f7.f0, .string x.f7.f1.f0, .int .i64 x.f7.f1.f1, .string x.f7.f2.f0, .int .i64 x.f7.f2.f1, .string x.f7.f3.f0, .int .i64 x.f7.f3.f1, .string x.f7.f4.f0, .int .i64 x.f7.f4.f1, .string x.f7.f5, .slice Y19 x.f7.f6.length q19, .int .i64 x.f8.f0, .string x.f8.f1.f0, .int .i64 x.f8.f1.f1, .string x.f8.f2.f0, .int .i64 x.f8.f2.f1, .string x.f8.f3.f0, .int .i64 x.f8.f3.f1, .string x.f8.f4.f0, .int .i64 x.f8.f4.f1, .string x.f8.f5, .slice Y30 x.f8.f6.length q30, .int .i64 x.f9.f0, .string x.f9.f1.f0, .int .i64 x.f9.f1.f1, .string x.f9.f2.f0, .int .i64 x.f9.f2.f1, .string x.f9.f3.f0, .int .i64 x.f9.f3.f1, .string x.f9.f4.f0, .int .i64 x.f9.f4.f1, .string x.f9.f5, .slice Y41 x.f9.f6.length q41] : List Value)[i]? = some v → w'.cell? ((⟨gA, j * 42, none⟩ : Addr).add i) = some v) := ⟨fun w' hb i v hi => (by have h : w'.cell? (((⟨gA, 0, none⟩ : Addr).add (j * 42)).add i) = some v := hcx2 w' hb i v hi; rw [addr_zero] at h; exact h)⟩; have HYK : Aside0 (k49.K wr (named1 x nm) [.int .i64 x.f0, .string nm, .string x.f2.f0, .int .i64 x.f2.f1, .string x.f3.f0, .int .i64 x.f3.f1, .string x.f4, .slice Y7 x.f5.length q7, .slice Y8 x.f6.length q8, .int .i64 x.f7.f0, .string x.f7.f1.f0, .int .i64 x.f7.f1.f1, .string x.f7.f2.f0, .int .i64 x.f7.f2.f1, .string x.f7.f3.f0, .int .i64 x.f7.f3.f1, .string x.f7.f4.f0, .int .i64 x.f7.f4.f1, .string x.f7.f5, .slice Y19 x.f7.f6.length q19, .int .i64 x.f8.f0, .string x.f8.f1.f0, .int .i64 x.f8.f1.f1, .string x.f8.f2.f0, .int .i64 x.f8.f2.f1, .string x.f8.f3.f0, .int .i64 x.f8.f3.f1, .string x.f8.f4.f0, .int .i64 x.f8.f4.f1, .string x.f8.f5, .slice Y30 x.f8.f6.length q30, .int .i64 x.f9.f0, .string x.f9.f1.f0, .int .i64 x.f9.f1.f1, .string x.f9.f2.f0, .int .i64 x.f9.f2.f1, .string x.f9.f3.f0, .int .i64 x.f9.f3.f1, .string x.f9.f4.f0, .int .i64 x.f9.f4.f1, .string x.f9.f5, .slice Y41 x.f9.f6.length q41]) := ⟨k49_mk wr (named1 x nm) hl7 hC7 hl8 hC8 hl19 hC19 hl30 hC30 hl41 hC41⟩; have HGA := Aside0.mk hgA; have HGB := Aside0.mk hgb; have HSA := Aside0.mk hsA; replace HO := Aside0.mk ho; replace HBp := Aside0.mk hb; clear hk1 hk4 hq3_ hs_; obtain ⟨hk1, hk4, hq3_⟩ := HFC.out wv HBp.out; have hs_ := HFA.out wv HBp.out; clear ho hb hgr hat hgA hgb hsA e3 hKx2 hcx2 hx_ hl7 hC7 hl8 hC8 hl19 hC19 hl30 hC30 hl41 hC41) | ((with_reducible refine gate_dst (N := 127) rfl ?_); refine wpList_load_cells rfl 49 (.tmp 126) rfl _ rfl [.int .i64 x.f0, .string x.f1, .string x.f2.f0, .int .i64 x.f2.f1, .string x.f3.f0, .int .i64 x.f3.f1, .string x.f4, .slice Y7 x.f5.length q7, .slice Y8 x.f6.length q8, .int .i64 x.f7.f0, .string x.f7.f1.f0, .int .i64 x.f7.f1.f1, .string x.f7.f2.f0, .int .i64 x.f7.f2.f1, .string x.f7.f3.f0, .int .i64 x.f7.f3.f1, .string x.f7.f4.f0, .int .i64 x.f7.f4.f1, .string x.f7.f5, .slice Y19 x.f7.f6.length q19, .int .i64 x.f8.f0, .string x.f8.f1.f0, .int .i64 x.f8.f1.f1, .string x.f8.f2.f0, .int .i64 x.f8.f2.f1, .string x.f8.f3.f0, .int .i64 x.f8.f3.f1, .string x.f8.f4.f0, .int .i64 x.f8.f4.f1, .string x.f8.f5, .slice Y30 x.f8.f6.length q30, .int .i64 x.f9.f0, .string x.f9.f1.f0, .int .i64 x.f9.f1.f1, .string x.f9.f2.f0, .int .i64 x.f9.f2.f1, .string x.f9.f3.f0, .int .i64 x.f9.f3.f1, .string x.f9.f4.f0, .int .i64 x.f9.f4.f1, .string x.f9.f5, .slice Y41 x.f9.f6.length q41] ?hc _ Try.underlying49 rfl ?hq9 ?_; (case hc => exact HXC.out _ (Below.refl _ _)); (case hq9 => kernel_rfl)) | ((with_reducible refine gate_dst (N := 18) rfl ?_); refine box_event ?hg (N := 18) ?hd (cs := #[.int .i64 0, .string ⟨#[]⟩, .string ⟨#[]⟩, .int .i64 0, .string ⟨#[]⟩, .int .i64 0, .string ⟨#[]⟩, .slice none 0 0, .slice none 0 0, .int .i64 0, .string ⟨#[]⟩, .int .i64 0, .string ⟨#[]⟩, .int .i64 0, .string ⟨#[]⟩, .int .i64 0, .string ⟨#[]⟩, .int .i64 0, .string ⟨#[]⟩, .slice none 0 0, .int .i64 0, .string ⟨#[]⟩, .int .i64 0, .string ⟨#[]⟩, .int .i64 0, .string ⟨#[]⟩, .int .i64 0, .string ⟨#[]⟩, .int .i64 0, .string ⟨#[]⟩, .slice none 0 0, .int .i64 0, .string ⟨#[]⟩, .int .i64 0, .string ⟨#[]⟩, .int .i64 0, .string ⟨#[]⟩, .int .i64 0, .string ⟨#[]⟩, .int .i64 0, .string ⟨#[]⟩, .slice none 0 0]) (t := 49) ?hr ?_; (case hd => rfl); (case hg => rfl); (case hr => first | (go_simp; done) | (go_simp; rfl)); intro g18 hg_ w18 hbox_ hb_; have BZ18 := Aside0.mk (hbox_); have GBZ18_HBp : Aside0 (wr.heap.size ≤ g18) := ⟨by rw [hg_]; exact below_size HBp.out⟩; replace HBp : Aside0 (Below wr.heap.size wr w18) := ⟨below_step HBp.out hb_⟩; have HN18 : Aside0 ((Kd.fixed k49 wr).R 49 w18 wr.heap.size (fun k => k ≠ g18) (.slice (some ⟨gA, 0, none⟩) xs.length cap) xs) := ⟨by rw [hg_]; exact Kd.R_mono (Kd.R_below (Kd.R_elderB HO.out _ (Nat.le_refl _)) hb_) (fun k hk => hk.2)⟩; replace HGA := Aside0.mk (blk_below HGA.out hb_); clear HO HXC; clear hg_ hbox_ hb_) | ((with_reducible refine gate_ (.store 49 (.tmp 18) (.tmp 127)) rfl ?_); refine wpList_store_box rfl rfl 49 (.tmp 18) (.tmp 127) rfl (g := g18) (e := 49) [.int .i64 x.f0, .string x.f1, .string x.f2.f0, .int .i64 x.f2.f1, .string x.f3.f0, .int .i64 x.f3.f1, .string x.f4, .slice Y7 x.f5.length q7, .slice Y8 x.f6.length q8, .int .i64 x.f7.f0, .string x.f7.f1.f0, .int .i64 x.f7.f1.f1, .string x.f7.f2.f0, .int .i64 x.f7.f2.f1, .string x.f7.f3.f0, .int .i64 x.f7.f3.f1, .string x.f7.f4.f0, .int .i64 x.f7.f4.f1, .string x.f7.f5, .slice Y19 x.f7.f6.length q19, .int .i64 x.f8.f0, .string x.f8.f1.f0, .int .i64 x.f8.f1.f1, .string x.f8.f2.f0, .int .i64 x.f8.f2.f1, .string x.f8.f3.f0, .int .i64 x.f8.f3.f1, .string x.f8.f4.f0, .int .i64 x.f8.f4.f1, .string x.f8.f5, .slice Y30 x.f8.f6.length q30, .int .i64 x.f9.f0, .string x.f9.f1.f0, .int .i64 x.f9.f1.f1, .string x.f9.f2.f0, .int .i64 x.f9.f2.f1, .string x.f9.f3.f0, .int .i64 x.f9.f3.f1, .string x.f9.f4.f0, .int .i64 x.f9.f4.f1, .string x.f9.f5, .slice Y41 x.f9.f6.length q41] rfl rfl BZ18.out rfl ?hq9 ?h1 ?_; (case hq9 => kernel_rfl); (case h1 => simp [Value.oneCell']); intro w19 hbx_ hfar_ hsz_ hbel_; have BK18 := Aside0.mk (hbx_); replace HBp : Aside0 (Below wr.heap.size wr w19) := ⟨hbel_ _ GBZ18_HBp.out wr HBp.out⟩; have HO : Aside0 ((Kd.fixed k49 wr).R 49 w19 wr.heap.size (fun k => k ≠ g18) (.slice (some ⟨gA, 0, none⟩) xs.length cap) xs) := ⟨Kd.R_step HN18.out (fun k hk _ => hfar_ k hk)⟩; replace HGA := Aside0.mk ((hfar_ _ (HN18.out.1 _ rfl)).trans HGA.out); clear HN18; clear hk1 hk4 hq3_ hs_; obtain ⟨hk1, hk4, hq3_⟩ := HFC.out w19 HBp.out; have hs_ := HFA.out w19 HBp.out; clear hbx_ hfar_ hsz_ hbel_ BZ18) | ((with_reducible refine gate_ (.store 9 (.tmp 137) (.tmp 136)) rfl ?_); refine wpList_store_at rfl rfl 9 (.tmp 137) (.tmp 136) rfl (g := g18) (i := 1) (e := 49) _ [.string nm] ?hu rfl rfl BK18.out ?hs ?hq9 ?h1 ?_; (case hu => rfl); (case hs => exact Nat.le_of_ble_eq_true rfl); (case hq9 => kernel_rfl); (case h1 => simp [Value.oneCell']); intro w20 cur_ hl_ hbx_ hfar_ hsz_ hbel_; obtain rfl : cur_ = #[.int .i64 x.f0, .string nm, .string x.f2.f0, .int .i64 x.f2.f1, .string x.f3.f0, .int .i64 x.f3.f1, .string x.f4, .slice Y7 x.f5.length q7, .slice Y8 x.f6.length q8, .int .i64 x.f7.f0, .string x.f7.f1.f0, .int .i64 x.f7.f1.f1, .string x.f7.f2.f0, .int .i64 x.f7.f2.f1, .string x.f7.f3.f0, .int .i64 x.f7.f3.f1, .string x.f7.f4.f0, .int .i64 x.f7.f4.f1, .string x.f7.f5, .slice Y19 x.f7.f6.length q19, .int .i64 x.f8.f0, .string x.f8.f1.f0, .int .i64 x.f8.f1.f1, .string x.f8.f2.f0, .int .i64 x.f8.f2.f1, .string x.f8.f3.f0, .int .i64 x.f8.f3.f1, .string x.f8.f4.f0, .int .i64 x.f8.f4.f1, .string x.f8.f5, .slice Y30 x.f8.f6.length q30, .int .i64 x.f9.f0, .string x.f9.f1.f0, .int .i64 x.f9.f1.f1, .string x.f9.f2.f0, .int .i64 x.f9.f2.f1, .string x.f9.f3.f0, .int .i64 x.f9.f3.f1, .string x.f9.f4.f0, .int .i64 x.f9.f4.f1, .string x.f9.f5, .slice Y41 x.f9.f6.length q41] := Array.toList_inj.1 (hl_.trans (by rfl)); replace BK18 := Aside0.mk (hbx_); replace HBp : Aside0 (Below wr.heap.size wr w20) := ⟨hbel_ _ GBZ18_HBp.out wr HBp.out⟩; replace HGA := Aside0.mk ((hfar_ _ (HO.out.1 _ rfl)).trans HGA.out); replace HO : Aside0 ((Kd.fixed k49 wr).R 49 w20 wr.heap.size (fun k => k ≠ g18) (.slice (some ⟨gA, 0, none⟩) xs.length cap) xs) := ⟨Kd.R_step HO.out (fun k hk _ => hfar_ k hk)⟩; clear hk1 hk4 hq3_ hs_; obtain ⟨hk1, hk4, hq3_⟩ := HFC.out w20 HBp.out; have hs_ := HFA.out w20 HBp.out; clear hl_ hbx_ hfar_ hsz_ hbel_) | ((with_reducible refine gate_dst (N := 140) rfl ?_); refine wpList_load_row rfl 49 (.tmp 18) rfl g18 rfl 49 #[.int .i64 x.f0, .string nm, .string x.f2.f0, .int .i64 x.f2.f1, .string x.f3.f0, .int .i64 x.f3.f1, .string x.f4, .slice Y7 x.f5.length q7, .slice Y8 x.f6.length q8, .int .i64 x.f7.f0, .string x.f7.f1.f0, .int .i64 x.f7.f1.f1, .string x.f7.f2.f0, .int .i64 x.f7.f2.f1, .string x.f7.f3.f0, .int .i64 x.f7.f3.f1, .string x.f7.f4.f0, .int .i64 x.f7.f4.f1, .string x.f7.f5, .slice Y19 x.f7.f6.length q19, .int .i64 x.f8.f0, .string x.f8.f1.f0, .int .i64 x.f8.f1.f1, .string x.f8.f2.f0, .int .i64 x.f8.f2.f1, .string x.f8.f3.f0, .int .i64 x.f8.f3.f1, .string x.f8.f4.f0, .int .i64 x.f8.f4.f1, .string x.f8.f5, .slice Y30 x.f8.f6.length q30, .int .i64 x.f9.f0, .string x.f9.f1.f0, .int .i64 x.f9.f1.f1, .string x.f9.f2.f0, .int .i64 x.f9.f2.f1, .string x.f9.f3.f0, .int .i64 x.f9.f3.f1, .string x.f9.f4.f0, .int .i64 x.f9.f4.f1, .string x.f9.f5, .slice Y41 x.f9.f6.length q41] (0, 0) _ ?hg Try.underlying49 rfl ?hq9 ?_; (case hg => exact BK18.out); (case hq9 => kernel_rfl)) | ((with_reducible refine gate_ (.store 49 (.tmp 141) (.tmp 140)) rfl ?_); refine wpList_store_at rfl rfl 49 (.tmp 141) (.tmp 140) rfl (g := gA) (i := j * 42) (e := 49) _ [.int .i64 x.f0, .string nm, .string x.f2.f0, .int .i64 x.f2.f1, .string x.f3.f0, .int .i64 x.f3.f1, .string x.f4, .slice Y7 x.f5.length q7, .slice Y8 x.f6.length q8, .int .i64 x.f7.f0, .string x.f7.f1.f0, .int .i64 x.f7.f1.f1, .string x.f7.f2.f0, .int .i64 x.f7.f2.f1, .string x.f7.f3.f0, .int .i64 x.f7.f3.f1, .string x.f7.f4.f0, .int .i64 x.f7.f4.f1, .string x.f7.f5, .slice Y19 x.f7.f6.length q19, .int .i64 x.f8.f0, .string x.f8.f1.f0, .int .i64 x.f8.f1.f1, .string x.f8.f2.f0, .int .i64 x.f8.f2.f1, .string x.f8.f3.f0, .int .i64 x.f8.f3.f1, .string x.f8.f4.f0, .int .i64 x.f8.f4.f1, .string x.f8.f5, .slice Y30 x.f8.f6.length q30, .int .i64 x.f9.f0, .string x.f9.f1.f0, .int .i64 x.f9.f1.f1, .string x.f9.f2.f0, .int .i64 x.f9.f2.f1, .string x.f9.f3.f0, .int .i64 x.f9.f3.f1, .string x.f9.f4.f0, .int .i64 x.f9.f4.f1, .string x.f9.f5, .slice Y41 x.f9.f6.length q41] ?hu ?hp9 rfl HGA.out ?hs ?hq9 ?h1 ?_; (case hu => rfl); (case hp9 => first | rfl | (simp [Addr.add]; done)); (case hs => (have h1 := HSA.out; have h2 := HKX.out; have h3 : (j + 1) * 42 ≤ xs.length * 42 := Nat.mul_le_mul_right _ h2; show j * 42 + 42 ≤ _; have h4 : xs.length * 42 ≤ cur.size := h1; omega)); (case hq9 => kernel_rfl); (case h1 => simp [Value.oneCell']); intro wt cur_ hl_ hbx_ hfar_ hsz_ hbel_; replace HO := Aside0.mk (row_put HO.out HGA.out HKX.out HYK.out hl_ hbx_); replace HBp : Aside0 (Below wr.heap.size wr wt) := ⟨hbel_ _ HGB.out wr HBp.out⟩; clear hk1 hk4 hq3_ hs_; obtain ⟨hk1, hk4, hq3_⟩ := HFC.out wt HBp.out; have hs_ := HFA.out wt HBp.out; clear hl_ hbx_ hfar_ hsz_ hbel_ HGA HGB HSA BK18))
          obtain ⟨ys, hys⟩ : ∃ ys, xs.set j (named1 x nm) = ys := ⟨_, rfl⟩
          obtain ⟨N, hN⟩ : ∃ N, l.set i (its l[i] ys) = N := ⟨_, rfl⟩
          have hyl : ys.length = xs.length := by rw [← hys, List.length_set]
          have hXB : ∀ y ∈ xs, B49 y := fun y hy => HQ.out m (by rw [← HMM.out]; exact List.getElem_mem hil) y (by rw [HXS.out]; exact hy)
          have KN : Aside0 ((⟨50, 0, i, j⟩ : S40) ∈ checkS N ∧ Sml N ∧ ∀ m ∈ N, ∀ x ∈ m.f3, B49 x) := ⟨by
            rw [← hN]
            refine ⟨?_, sml_set HS.out hil (by rw [hyl, HMM.out, HXS.out]), b49_set' HQ.out hil (by rw [← hys]; exact b49_put hXB (b49_named (hXB x (List.mem_of_getElem? HXX.out)) HNS.out))⟩
            have h1 : l[i]? = some m := by rw [← HMM.out]; exact List.getElem?_eq_getElem hil
            have h2 : m.f3[j]? = some x := by rw [HXS.out]; exact HXX.out
            have h3 := twice_told h1 h2 HND.out HNM.out
            rw [HXS.out, hys] at h3
            rw [HMM.out]
            exact h3⟩
          obtain ⟨e1, e2, e3⟩ := Kd.R_reads' HO.out
          rw [hys] at e3
          have HBV := Aside0.mk (below_step HBW.out HBp.out)
          have hw := with_any (some md) c0 l i hil (some ⟨gA, 0, none⟩) cap ys wt (Kd.C_below HC.out HBV.out) (C_fixed HBp.out e3) (by rw [hyl]; exact e2) HS.out.1
          rw [hN, hyl] at hw
          refine hw.mono ?_
          clear hw e1 e2 e3 hyl hXB hys hN HO HXX HXS HMM HCX HKX hk1 hk4 hq3_ hs_ HYK HAH HASZ HNM HFA HFC HNS HND HBW HBp HXP hxz hxz1 hxz2 HSM HY HQ HCL hAz1
          rintro e wg ⟨D1, d1', rfl, hle, hC, hb⟩
          have hq := scheck_any D1 d1' N wg hC KN.out.2.1 KN.out.2.2
          obtain ⟨R, hR⟩ : ∃ R, checkS N = R := ⟨_, rfl⟩
          rw [hR] at hq
          have HME : Aside0 ((⟨50, 0, i, j⟩ : S40) ∈ R) := ⟨by rw [← hR]; exact KN.out.1⟩
          replace HBV := Aside0.mk (below_step HBV.out hb)
          clear hb hC hle hR
          go_wp2_with fail
          refine hq.mono ?_
          clear hq KN
          rintro e wh ⟨E1, e1, rfl, _, hR2, hb⟩
          have HR2 := Aside0.mk hR2
          have hmR : R.length ≤ 9223372036854775807 := hR2.2.1
          replace HBV := Aside0.mk (below_step HBV.out hb)
          clear hb hR2
          go_wp2_with fail
          go_loopw [20, 21] (fun a b wr => ∃ (n : Nat) (fb : Bool), a = .bool fb ∧ b = .int .i64 (n : Int) ∧ n ≤ R.length ∧ Aside0 ((⟨50, 0, i, j⟩ : S40) ∈ R.take n → fb = true) ∧ Aside0 (wr = wh)) (fun _ b _ => R.length - (intOf b).toNat)
          case atStart => exact ⟨0, false, rfl, rfl, Nat.zero_le _, ⟨fun h => by simp at h⟩, ⟨rfl⟩⟩
          case round =>
            obtain ⟨n, fb, rfl, rfl, hn, HI, HW⟩ := hrel
            obtain rfl := HW.out
            by_cases hlt : n < R.length
            · have hn0 : (0 : Int) ≤ (n : Int) := by omega
              have hn1 : (n : Int) < (R.length : Int) := by omega
              obtain ⟨ae, rfl, hz0, hz1, hz2, hz3⟩ := at40 HR2.out n hlt
              have HST : Aside0 ((⟨50, 0, i, j⟩ : S40) ∈ R.take (n + 1) → (⟨50, 0, i, j⟩ : S40) ∈ R.take n ∨ R[n] = ⟨50, 0, i, j⟩) := ⟨fun h => by
                rw [List.take_succ_eq_append_getElem hlt] at h
                rcases List.mem_append.1 h with h | h
                · exact .inl h
                · exact .inr (List.mem_singleton.1 h).symm⟩
              obtain ⟨z, hz⟩ : ∃ z, R[n] = z := ⟨_, rfl⟩
              rw [hz] at hz0 hz1 hz2 hz3 HST
              clear hz hlt
              cases fb with
              | true =>
                go_wp2
                go_roundw
                case rel => exact ⟨n + 1, true, rfl, by go_num, by omega, ⟨fun _ => rfl⟩, ⟨trivial⟩⟩
                case measure => simp [intOf]; omega
              | false =>
                cases h0 : (z.f0 == (50 : Int)) <;> cases h1 : (z.f1 == (0 : Int)) <;> cases h2 : (z.f2 == (i : Int)) <;> cases h3 : (z.f3 == (j : Int))
                all_goals (
                  have HE : Aside0 (z = ⟨50, 0, i, j⟩ → (z.f0 == (50 : Int)) = true ∧ (z.f1 == (0 : Int)) = true ∧ (z.f2 == (i : Int)) = true ∧ (z.f3 == (j : Int)) = true) := ⟨fun e => by rw [e]; simp⟩
                  rw [h0, h1, h2, h3] at HE
                  go_wp2
                  go_roundw
                  (case rel => exact ⟨n + 1, _, rfl, by go_num, by omega, ⟨fun h => by
                    rcases HST.out h with h | h
                    · have := HI.out h; first | rfl | cases this
                    · have := HE.out h; first | rfl | (simp at this)⟩, ⟨trivial⟩⟩)
                  (case measure => simp [intOf]; omega))
            · obtain rfl : n = R.length := by omega
              rw [List.take_length] at HI
              obtain rfl : fb = true := HI.out HME.out
              go_wp2
              go_ret
              exact ⟨rfl, HBV.out⟩
end Go.Proofs.Ytnfhlhjbmcofoaa.S
