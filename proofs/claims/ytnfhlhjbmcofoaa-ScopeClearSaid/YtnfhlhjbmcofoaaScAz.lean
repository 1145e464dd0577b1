/- Scope: the walk of the law ScopeClear. -/
import Derived.Test.YtnfhlhjbmcofoaaScAy
namespace Go.Proofs.Ytnfhlhjbmcofoaa.S
open Go.RowKit Go.Proofs.YtnfhlhjbmcofoaaW.PrintWords Go.Proofs.YtnfhlhjbmcofoaaW.PrintLast
set_option linter.unusedVariables false
set_option linter.unusedSimpArgs false
set_option maxHeartbeats 64000000 in
set_option maxRecDepth 100000 in
theorem lawClear (A0 : Option Addr) (c0 : Nat) (l : List S34) (w : World) (h0 : Kd.C k34 w A0 l.length l) (hB : BL22 l) :
    Calls Try.prog 6 #[.agg #[.slice A0 l.length c0]] w fun e w' => e = .returned (.bool true) ∧ Below w.heap.size w w' := by
  have HC := Aside0.mk h0
  have HY := Aside0.mk hB
  have HQ := Aside0.mk (b49_of hB)
  have hm : l.length ≤ 9223372036854775807 := h0.2.1
  have HB : Aside0 (Below w.heap.size w w) := ⟨Below.refl _ _⟩
  clear h0 hB
  go_enter Try.func6, Try.ntmps6
  go_wp2_with (first | ((with_reducible refine gate_dst (N := 1) rfl ?_); refine box_event ?hg (N := 1) ?hd (cs := #[.slice A0 l.length c0]) (t := 24) ?hr ?_; (case hd => rfl); (case hg => rfl); (case hr => first | (go_simp; done) | (go_simp; rfl)); intro g1 hg_ wa hbox_ hb_; have BK1 := Aside0.mk (hbox_); have GBK1_HB : Aside0 (w.heap.size ≤ g1) := ⟨by rw [hg_]; exact below_size HB.out⟩; replace HB : Aside0 (Below w.heap.size w wa) := ⟨below_step HB.out hb_⟩; have hk1 : wa.cell? ⟨g1, 0, none⟩ = some (.slice A0 l.length c0) := blk_cell hbox_ 0; clear hg_ hbox_ hb_))
  refine (head_law _).mono ?_
  rintro e wb ⟨rfl, hb⟩
  replace BK1 := Aside0.mk (blk_below BK1.out hb)
  replace HB := Aside0.mk (below_step HB.out hb)
  clear hb hk1
  have hk1 : wb.cell? ⟨g1, 0, none⟩ = some (.slice A0 l.length c0) := blk_cell BK1.out 0
  go_wp2_with fail
  refine (fits_any A0 c0 l _ (Kd.C_below HC.out HB.out) HY.out).mono ?_
  rintro e wc ⟨⟨b, rfl, hs⟩, hb⟩
  have HSM := Aside0.mk hs
  replace BK1 := Aside0.mk (blk_below BK1.out hb)
  replace HB := Aside0.mk (below_step HB.out hb)
  clear hb hk1 hs
  have hk1 : wc.cell? ⟨g1, 0, none⟩ = some (.slice A0 l.length c0) := blk_cell BK1.out 0
  cases b with
  | false =>
    go_wp2
    go_ret
    exact ⟨rfl, HB.out⟩
  | true =>
  have HS := Aside0.mk (HSM.out rfl)
  clear HSM
  go_wp2_with fail
  refine (scheck_any A0 c0 l _ (Kd.C_below HC.out HB.out) HS.out HQ.out).mono ?_
  rintro e wf ⟨RA, rc, rfl, hle, hC, hb⟩
  obtain ⟨R, hR⟩ : ∃ R, checkS l = R := ⟨_, rfl⟩
  rw [hR] at hC hle
  rw [hR]
  have hmr : R.length ≤ 9223372036854775807 := hC.2.1
  have HRR := Aside0.mk hR
  replace BK1 := Aside0.mk (blk_below BK1.out hb)
  replace HB := Aside0.mk (below_step HB.out hb)
  clear hb hk1 hR hC hle
  cases R with
  | cons r0 rs =>
    have hpos : (0 : Int) < ((r0 :: rs).length : Int) := by rw [List.length_cons]; omega
    go_wp2
    all_goals (go_ret; exact ⟨rfl, HB.out⟩)
  | nil =>
  have HCL := HRR
  clear HRR hmr
  go_wp2_with fail
  go_loopw [5] (fun v wr => ∃ i : Nat, v = .int .i64 (i : Int) ∧ i ≤ l.length ∧ Aside0 (wr.heap[g1]? = some (.cells #[.slice A0 l.length c0] 24 (0, 0))) ∧ Aside0 (Below w.heap.size w wr)) (fun v _ => l.length - (intOf v).toNat)
  case atStart => exact ⟨0, rfl, Nat.zero_le _, BK1, HB⟩
  case round =>
    clear BK1 HB
    obtain ⟨i, rfl, hi, BK1, HB⟩ := hrel
    have hk1 : wr.cell? ⟨g1, 0, none⟩ = some (.slice A0 l.length c0) := blk_cell BK1.out 0
    by_cases hlt : i < l.length
    rotate_left
    · go_wp2
      go_ret
      exact ⟨rfl, HB.out⟩
    have hi0 : (0 : Int) ≤ (i : Int) := by omega
    have hi1 : (i : Int) < (l.length : Int) := by omega
    obtain ⟨md, cm, rfl, hKm, hcm⟩ := el_get HC.out i hlt
    have HQM : Aside0 (∀ x ∈ l[i].f3, B49 x) := ⟨HQ.out _ (List.getElem_mem hlt)⟩
    have HLM : Aside0 (l[i]? = some l[i]) := ⟨List.getElem?_eq_getElem hlt⟩
    obtain ⟨m, hmm⟩ : ∃ m, l[i] = m := ⟨_, rfl⟩
    rw [hmm] at hKm HQM HLM
    have hLm : l[i]? = some m := by rw [List.getElem?_eq_getElem hlt, hmm]
    have HLM2 := Aside0.mk hLm
    obtain ⟨M1, d1, M2, d2, M3, d3, rfl, hq1, hC1, hq2, hC2, hq3, hC3⟩ := k34_open hKm
    have HMC := Aside0.mk hcm
    have HKM := Aside0.mk hKm
    have HC3 := Aside0.mk hC3
    have hm3 : m.f3.length ≤ 9223372036854775807 := hC3.2.1
    clear hKm hcm hmm hLm hq1 hC1 hq2 hC2 hq3 hC3 HLM hlt
    go_wp2_with (first | ((with_reducible refine gate_dst (N := 38) rfl ?_); refine wpList_load_cells rfl 34 (.tmp 37) rfl _ rfl [.string m.f0, .slice M1 m.f1.length d1, .slice M2 m.f2.length d2, .slice M3 m.f3.length d3] ?hc _ Try.underlying34 rfl ?hq9 ?_; (case hc => exact HMC.out _ HB.out); (case hq9 => kernel_rfl)) | ((with_reducible refine gate_dst (N := 6) rfl ?_); refine box_event ?hg (N := 6) ?hd (cs := #[.string ⟨#[]⟩, .slice none 0 0, .slice none 0 0, .slice none 0 0]) (t := 34) ?hr ?_; (case hd => rfl); (case hg => rfl); (case hr => first | (go_simp; done) | (go_simp; rfl)); intro g6 hg_ wm hbox_ hb_; replace BK1 := Aside0.mk (blk_below BK1.out hb_); have BZ6 := Aside0.mk (hbox_); have GBZ6_HB : Aside0 (w.heap.size ≤ g6) := ⟨by rw [hg_]; exact below_size HB.out⟩; replace HB : Aside0 (Below w.heap.size w wm) := ⟨below_step HB.out hb_⟩; clear hg_ hbox_ hb_) | ((with_reducible refine gate_ (.store 34 (.tmp 6) (.tmp 38)) rfl ?_); refine wpList_store_box rfl rfl 34 (.tmp 6) (.tmp 38) rfl (g := g6) (e := 34) [.string m.f0, .slice M1 m.f1.length d1, .slice M2 m.f2.length d2, .slice M3 m.f3.length d3] rfl rfl BZ6.out rfl ?hq9 ?h1 ?_; (case hq9 => kernel_rfl); (case h1 => simp [Value.oneCell']); intro wn hbx_ hfar_ hsz_ hbel_; replace BK1 := Aside0.mk ((hfar_ _ (blk_ne BK1.out BZ6.out (by decide))).trans BK1.out); have BK6 := Aside0.mk (hbx_); replace HB : Aside0 (Below w.heap.size w wn) := ⟨hbel_ _ GBZ6_HB.out w HB.out⟩; clear hbx_ hfar_ hsz_ hbel_ BZ6))
    clear hk1
    go_loopw [7] (fun v wr => ∃ k : Nat, v = .int .i64 (k : Int) ∧ k ≤ m.f3.length ∧ Aside0 (wr.heap[g1]? = some (.cells #[.slice (some md) l.length c0] 24 (0, 0))) ∧ Aside0 (wr.heap[g6]? = some (.cells #[.string m.f0, .slice M1 m.f1.length d1, .slice M2 m.f2.length d2, .slice M3 m.f3.length d3] 34 (0, 0))) ∧ Aside0 (Below w.heap.size w wr)) (fun v _ => m.f3.length - (intOf v).toNat)
    case atStart => exact ⟨0, rfl, Nat.zero_le _, BK1, BK6, HB⟩
    case round =>
      clear BK1 BK6 HB
      obtain ⟨k, rfl, hk, BK1, BK6, HB⟩ := hrel
      have hk63 : wr.cell? ⟨g6, 3, none⟩ = some (.slice M3 m.f3.length d3) := blk_cell BK6.out 3
      by_cases hlt : k < m.f3.length
      rotate_left
      · go_wp2
        go_roundw
        case rel => exact ⟨i + 1, by go_num, by omega, BK1, HB⟩
        case measure => simp [intOf]; omega
      have hk0 : (0 : Int) ≤ (k : Int) := by omega
      have hkl : (k : Int) < (m.f3.length : Int) := by omega
      obtain ⟨ax, cx, rfl, hKx, hcx⟩ := el_get HC3.out k hlt
      have HXL : Aside0 (m.f3[k]? = some m.f3[k]) := ⟨List.getElem?_eq_getElem hlt⟩
      have HBX : Aside0 (B49 m.f3[k]) := ⟨HQM.out _ (List.getElem_mem hlt)⟩
      obtain ⟨x, hxx⟩ : ∃ x, m.f3[k] = x := ⟨_, rfl⟩
      rw [hxx] at hKx HBX
      have hxl : m.f3[k]? = some x := by rw [List.getElem?_eq_getElem hlt, hxx]
      have HEX := Aside0.mk (clear_exprs HCL.out HLM2.out hxl)
      have HKN := Aside0.mk (clear_kinds HCL.out HLM2.out hxl)
      obtain ⟨X7, p7, X8, p8, X19, p19, X30, p30, X41, p41, rfl, _⟩ := k49_open hKx
      have HXC := Aside0.mk hcx
      have HKX := Aside0.mk hKx
      have HBE : Aside0 (∀ y ∈ exprsL x, B47 y) := ⟨by
        obtain ⟨a0, a1, a2, a3, a4, a5, a6, a7, a8, a9⟩ := HBX.out
        intro y hy
        unfold exprsL at hy
        split at hy
        · cases hy
        · split at hy
          · simp only [List.mem_cons, List.not_mem_nil, or_false] at hy
            rcases hy with rfl | rfl | rfl
            · exact a8
            · exact a7
            · exact a9
          · split at hy
            · obtain ⟨z, hz, rfl⟩ := List.mem_map.1 hy
              exact (a6.2 z hz).2
            · rw [List.mem_singleton] at hy
              rw [hy]; exact a7⟩
      have HLB : Aside0 (x.f6.length * 160 ≤ 140737488351232) := ⟨HBX.out.2.2.2.2.2.2.1.1⟩
      clear hxx hKx hcx hxl HXL hlt
      go_wp2_with (first | ((with_reducible refine gate_dst (N := 50) rfl ?_); refine wpList_load_cells rfl 49 (.tmp 49) rfl _ rfl [.int .i64 x.f0, .string x.f1, .string x.f2.f0, .int .i64 x.f2.f1, .string x.f3.f0, .int .i64 x.f3.f1, .string x.f4, .slice X7 x.f5.length p7, .slice X8 x.f6.length p8, .int .i64 x.f7.f0, .string x.f7.f1.f0, .int .i64 x.f7.f1.f1, .string x.f7.f2.f0, .int .i64 x.f7.f2.f1, .string x.f7.f3.f0, .int .i64 x.f7.f3.f1, .string x.f7.f4.f0, .int .i64 x.f7.f4.f1, .string x.f7.f5, .slice X19 x.f7.f6.length p19, .int .i64 x.f8.f0, .string x.f8.f1.f0, .int .i64 x.f8.f1.f1, .string x.f8.f2.f0, .int .i64 x.f8.f2.f1, .string x.f8.f3.f0, .int .i64 x.f8.f3.f1, .string x.f8.f4.f0, .int .i64 x.f8.f4.f1, .string x.f8.f5, .slice X30 x.f8.f6.length p30, .int .i64 x.f9.f0, .string x.f9.f1.f0, .int .i64 x.f9.f1.f1, .string x.f9.f2.f0, .int .i64 x.f9.f2.f1, .string x.f9.f3.f0, .int .i64 x.f9.f3.f1, .string x.f9.f4.f0, .int .i64 x.f9.f4.f1, .string x.f9.f5, .slice X41 x.f9.f6.length p41] ?hc _ Try.underlying49 rfl ?hq9 ?_; (case hc => exact HXC.out _ HB.out); (case hq9 => kernel_rfl)) | ((with_reducible refine gate_dst (N := 8) rfl ?_); refine box_event ?hg (N := 8) ?hd (cs := #[.int .i64 0, .string ⟨#[]⟩, .string ⟨#[]⟩, .int .i64 0, .string ⟨#[]⟩, .int .i64 0, .string ⟨#[]⟩, .slice none 0 0, .slice none 0 0, .int .i64 0, .string ⟨#[]⟩, .int .i64 0, .string ⟨#[]⟩, .int .i64 0, .string ⟨#[]⟩, .int .i64 0, .string ⟨#[]⟩, .int .i64 0, .string ⟨#[]⟩, .slice none 0 0, .int .i64 0, .string ⟨#[]⟩, .int .i64 0, .string ⟨#[]⟩, .int .i64 0, .string ⟨#[]⟩, .int .i64 0, .string ⟨#[]⟩, .int .i64 0, .string ⟨#[]⟩, .slice none 0 0, .int .i64 0, .string ⟨#[]⟩, .int .i64 0, .string ⟨#[]⟩, .int .i64 0, .string ⟨#[]⟩, .int .i64 0, .string ⟨#[]⟩, .int .i64 0, .string ⟨#[]⟩, .slice none 0 0]) (t := 49) ?hr ?_; (case hd => rfl); (case hg => rfl); (case hr => first | (go_simp; done) | (go_simp; rfl)); intro g8 hg_ wx hbox_ hb_; replace BK1 := Aside0.mk (blk_below BK1.out hb_); replace BK6 := Aside0.mk (blk_below BK6.out hb_); have BZ8 := Aside0.mk (hbox_); have GBZ8_HB : Aside0 (w.heap.size ≤ g8) := ⟨by rw [hg_]; exact below_size HB.out⟩; replace HB : Aside0 (Below w.heap.size w wx) := ⟨below_step HB.out hb_⟩; clear hg_ hbox_ hb_) | ((with_reducible refine gate_ (.store 49 (.tmp 8) (.tmp 50)) rfl ?_); refine wpList_store_box rfl rfl 49 (.tmp 8) (.tmp 50) rfl (g := g8) (e := 49) [.int .i64 x.f0, .string x.f1, .string x.f2.f0, .int .i64 x.f2.f1, .string x.f3.f0, .int .i64 x.f3.f1, .string x.f4, .slice X7 x.f5.length p7, .slice X8 x.f6.length p8, .int .i64 x.f7.f0, .string x.f7.f1.f0, .int .i64 x.f7.f1.f1, .string x.f7.f2.f0, .int .i64 x.f7.f2.f1, .string x.f7.f3.f0, .int .i64 x.f7.f3.f1, .string x.f7.f4.f0, .int .i64 x.f7.f4.f1, .string x.f7.f5, .slice X19 x.f7.f6.length p19, .int .i64 x.f8.f0, .string x.f8.f1.f0, .int .i64 x.f8.f1.f1, .string x.f8.f2.f0, .int .i64 x.f8.f2.f1, .string x.f8.f3.f0, .int .i64 x.f8.f3.f1, .string x.f8.f4.f0, .int .i64 x.f8.f4.f1, .string x.f8.f5, .slice X30 x.f8.f6.length p30, .int .i64 x.f9.f0, .string x.f9.f1.f0, .int .i64 x.f9.f1.f1, .string x.f9.f2.f0, .int .i64 x.f9.f2.f1, .string x.f9.f3.f0, .int .i64 x.f9.f3.f1, .string x.f9.f4.f0, .int .i64 x.f9.f4.f1, .string x.f9.f5, .slice X41 x.f9.f6.length p41] rfl rfl BZ8.out rfl ?hq9 ?h1 ?_; (case hq9 => kernel_rfl); (case h1 => simp [Value.oneCell']); intro wy hbx_ hfar_ hsz_ hbel_; replace BK1 := Aside0.mk ((hfar_ _ (blk_ne BK1.out BZ8.out (by decide))).trans BK1.out); replace BK6 := Aside0.mk ((hfar_ _ (blk_ne BK6.out BZ8.out (by decide))).trans BK6.out); have BK8 := Aside0.mk (hbx_); replace HB : Aside0 (Below w.heap.size w wy) := ⟨hbel_ _ GBZ8_HB.out w HB.out⟩; clear hbx_ hfar_ hsz_ hbel_ BZ8) | ((with_reducible refine gate_dst (N := 51) rfl ?_); refine wpList_load_row rfl 49 (.tmp 8) rfl g8 rfl 49 #[.int .i64 x.f0, .string x.f1, .string x.f2.f0, .int .i64 x.f2.f1, .string x.f3.f0, .int .i64 x.f3.f1, .string x.f4, .slice X7 x.f5.length p7, .slice X8 x.f6.length p8, .int .i64 x.f7.f0, .string x.f7.f1.f0, .int .i64 x.f7.f1.f1, .string x.f7.f2.f0, .int .i64 x.f7.f2.f1, .string x.f7.f3.f0, .int .i64 x.f7.f3.f1, .string x.f7.f4.f0, .int .i64 x.f7.f4.f1, .string x.f7.f5, .slice X19 x.f7.f6.length p19, .int .i64 x.f8.f0, .string x.f8.f1.f0, .int .i64 x.f8.f1.f1, .string x.f8.f2.f0, .int .i64 x.f8.f2.f1, .string x.f8.f3.f0, .int .i64 x.f8.f3.f1, .string x.f8.f4.f0, .int .i64 x.f8.f4.f1, .string x.f8.f5, .slice X30 x.f8.f6.length p30, .int .i64 x.f9.f0, .string x.f9.f1.f0, .int .i64 x.f9.f1.f1, .string x.f9.f2.f0, .int .i64 x.f9.f2.f1, .string x.f9.f3.f0, .int .i64 x.f9.f3.f1, .string x.f9.f4.f0, .int .i64 x.f9.f4.f1, .string x.f9.f5, .slice X41 x.f9.f6.length p41] (0, 0) _ ?hg Try.underlying49 rfl ?hq9 ?_; (case hg => exact BK8.out); (case hq9 => kernel_rfl)))
      clear hk63
      refine (exprs_any x _ _ (k49.K_below HB.out HKX.out) HLB.out).mono ?_
      rintro e w9 ⟨LA, lc, rfl, hle, hC, hb⟩
      replace BK1 := Aside0.mk (blk_below BK1.out hb)
      replace BK6 := Aside0.mk (blk_below BK6.out hb)
      replace BK8 := Aside0.mk (blk_below BK8.out hb)
      replace HB := Aside0.mk (below_step HB.out hb)
      have HCE := Aside0.mk hC
      have hme : (exprsL x).length ≤ 9223372036854775807 := hC.2.1
      obtain ⟨L, hL⟩ : ∃ L, exprsL x = L := ⟨_, rfl⟩
      rw [hL] at HCE hme HEX HBE ⊢
      have HB9 : Aside0 (Below w9.heap.size w9 w9) := ⟨Below.refl _ _⟩
      clear hb hC hle hL
      go_wp2_with fail
      go_loopw [10] (fun v wr => ∃ n : Nat, v = .int .i64 (n : Int) ∧ n ≤ L.length ∧ Aside0 (wr.heap[g1]? = some (.cells #[.slice (some md) l.length c0] 24 (0, 0))) ∧ Aside0 (wr.heap[g6]? = some (.cells #[.string m.f0, .slice M1 m.f1.length d1, .slice M2 m.f2.length d2, .slice (some ax) m.f3.length d3] 34 (0, 0))) ∧ Aside0 (wr.heap[g8]? = some (.cells #[.int .i64 x.f0, .string x.f1, .string x.f2.f0, .int .i64 x.f2.f1, .string x.f3.f0, .int .i64 x.f3.f1, .string x.f4, .slice X7 x.f5.length p7, .slice X8 x.f6.length p8, .int .i64 x.f7.f0, .string x.f7.f1.f0, .int .i64 x.f7.f1.f1, .string x.f7.f2.f0, .int .i64 x.f7.f2.f1, .string x.f7.f3.f0, .int .i64 x.f7.f3.f1, .string x.f7.f4.f0, .int .i64 x.f7.f4.f1, .string x.f7.f5, .slice X19 x.f7.f6.length p19, .int .i64 x.f8.f0, .string x.f8.f1.f0, .int .i64 x.f8.f1.f1, .string x.f8.f2.f0, .int .i64 x.f8.f2.f1, .string x.f8.f3.f0, .int .i64 x.f8.f3.f1, .string x.f8.f4.f0, .int .i64 x.f8.f4.f1, .string x.f8.f5, .slice X30 x.f8.f6.length p30, .int .i64 x.f9.f0, .string x.f9.f1.f0, .int .i64 x.f9.f1.f1, .string x.f9.f2.f0, .int .i64 x.f9.f2.f1, .string x.f9.f3.f0, .int .i64 x.f9.f3.f1, .string x.f9.f4.f0, .int .i64 x.f9.f4.f1, .string x.f9.f5, .slice X41 x.f9.f6.length p41] 49 (0, 0))) ∧ Aside0 (Below w.heap.size w wr) ∧ Aside0 (Below w9.heap.size w9 wr)) (fun v _ => L.length - (intOf v).toNat)
      case atStart => exact ⟨0, rfl, Nat.zero_le _, BK1, BK6, BK8, HB, HB9⟩
      case round =>
        clear BK1 BK6 BK8 HB HB9
        obtain ⟨n, rfl, hn, BK1, BK6, BK8, HB, HB9⟩ := hrel
        by_cases hlt : n < L.length
        · have hn0 : (0 : Int) ≤ (n : Int) := by omega
          have hn1 : (n : Int) < (L.length : Int) := by omega
          obtain ⟨ae, E10, e10, rfl, hx0, hx1, hx2, hx3, hx4, hx5, hx6, hx7, hx8, hx9, hx10, hle, hCe⟩ := at47 (Kd.C_below HCE.out HB9.out) n hlt
          have HKE := Aside0.mk (k47_mk wr L[n] hle hCe)
          have IHX := Aside0.mk (fun w' ces (hb : Below w.heap.size w w') (hE : k47.K w' L[n] ces) => plainly_any _ L[n] (Nat.lt_succ_self _) (some md) c0 l m _ ces w' (Kd.C_below HC.out hb) (k34.K_below hb HKM.out) hE (HBE.out L[n] (List.getElem_mem hlt)) (HEX.out L[n] (List.getElem_mem hlt)))
          obtain ⟨y, hy⟩ : ∃ y, L[n] = y := ⟨_, rfl⟩
          rw [hy] at hx0 hx1 hx2 hx3 hx4 hx5 hx6 hx7 hx8 hx9 hx10 HKE IHX
          have hbk : (ae.add (n * 11)).block < wr.heap.size := World.block_lt_of_cell? wr _ hx0
          have hk1 : wr.cell? ⟨g1, 0, none⟩ = some (.slice (some md) l.length c0) := blk_cell BK1.out 0
          have hk60 : wr.cell? ⟨g6, 0, none⟩ = some (.string m.f0) := blk_cell BK6.out 0
          have hk61 : wr.cell? ⟨g6, 1, none⟩ = some (.slice M1 m.f1.length d1) := blk_cell BK6.out 1
          have hk62 : wr.cell? ⟨g6, 2, none⟩ = some (.slice M2 m.f2.length d2) := blk_cell BK6.out 2
          have hk63 : wr.cell? ⟨g6, 3, none⟩ = some (.slice (some ax) m.f3.length d3) := blk_cell BK6.out 3
          have hg1 : g1 < wr.heap.size := blk_lt BK1.out
          have hg6 : g6 < wr.heap.size := blk_lt BK6.out
          clear hy hle hCe hlt
          go_wp2_with fail
          go_region_held3 (fun w' => w'.cell? ⟨g1, 0, none⟩ = some (.slice (some md) l.length c0) ∧ w'.cell? ⟨g6, 0, none⟩ = some (.string m.f0) ∧ w'.cell? ⟨g6, 1, none⟩ = some (.slice M1 m.f1.length d1) ∧ w'.cell? ⟨g6, 2, none⟩ = some (.slice M2 m.f2.length d2) ∧ w'.cell? ⟨g6, 3, none⟩ = some (.slice (some ax) m.f3.length d3) ∧ w'.cell? (ae.add (n * 11)) = some (.int .i64 y.f0) ∧ w'.cell? ⟨(ae.add (n * 11)).block, (ae.add (n * 11)).off + 1, none⟩ = some (.string y.f1.f0) ∧ w'.cell? ⟨(ae.add (n * 11)).block, (ae.add (n * 11)).off + 2, none⟩ = some (.int .i64 y.f1.f1) ∧ w'.cell? ⟨(ae.add (n * 11)).block, (ae.add (n * 11)).off + 3, none⟩ = some (.string y.f2.f0) ∧ w'.cell? ⟨(ae.add (n * 11)).block, (ae.add (n * 11)).off + 4, none⟩ = some (.int .i64 y.f2.f1) ∧ w'.cell? ⟨(ae.add (n * 11)).block, (ae.add (n * 11)).off + 5, none⟩ = some (.string y.f3.f0) ∧ w'.cell? ⟨(ae.add (n * 11)).block, (ae.add (n * 11)).off + 6, none⟩ = some (.int .i64 y.f3.f1) ∧ w'.cell? ⟨(ae.add (n * 11)).block, (ae.add (n * 11)).off + 7, none⟩ = some (.string y.f4.f0) ∧ w'.cell? ⟨(ae.add (n * 11)).block, (ae.add (n * 11)).off + 8, none⟩ = some (.int .i64 y.f4.f1) ∧ w'.cell? ⟨(ae.add (n * 11)).block, (ae.add (n * 11)).off + 9, none⟩ = some (.string y.f5) ∧ w'.cell? ⟨(ae.add (n * 11)).block, (ae.add (n * 11)).off + 10, none⟩ = some (.slice E10 y.f6.length e10))
            (go_keep)
            (first | (go_at_call 19; refine (IHX.out _ _ (below_drew HB.out) (k47.K_below (below_drew (Below.refl _ _)) HKE.out)).mono ?_; rintro e w2 ⟨rfl, hb⟩; obtain ⟨hc, hf⟩ := bcell (below_step (below_drew (Below.refl wr.heap.size wr)) hb)))
          rename_i hH_
          clear hH_ hc hf hx0 hx1 hx2 hx3 hx4 hx5 hx6 hx7 hx8 hx9 hx10 hbk hg1 hg6 hk1 hk60 hk61 hk62 hk63 HKE IHX
          replace BK1 := Aside0.mk (blk_below (blk_drew BK1.out) hb)
          replace BK6 := Aside0.mk (blk_below (blk_drew BK6.out) hb)
          replace BK8 := Aside0.mk (blk_below (blk_drew BK8.out) hb)
          replace HB := Aside0.mk (below_step (below_drew HB.out) hb)
          replace HB9 := Aside0.mk (below_step (below_drew HB9.out) hb)
          clear hb
          go_wp2
          go_roundw
          case rel => exact ⟨n + 1, by go_num, by omega, BK1, BK6, BK8, HB, HB9⟩
          case measure => simp [intOf]; omega
        · clear HB9 HCE
          have hx1 : wr.cell? ⟨g8, 1, none⟩ = some (.string x.f1) := blk_cell BK8.out 1
          go_wp2_with (first | ((with_reducible refine gate_dst (N := 69) rfl ?_); refine wpList_load_row rfl 34 (.tmp 6) rfl g6 rfl 34 #[.string m.f0, .slice M1 m.f1.length d1, .slice M2 m.f2.length d2, .slice (some ax) m.f3.length d3] (0, 0) _ ?hg Try.underlying34 rfl ?hq9 ?_; (case hg => exact BK6.out); (case hq9 => kernel_rfl)))
          have hq := skind_any m _ x.f1 _ (k34.K_below HB.out HKM.out)
          obtain ⟨kq, hkq⟩ : ∃ k, (kindS m x.f1).1 = k := ⟨_, rfl⟩
          obtain ⟨kz, hkz⟩ : ∃ k, (kindS m x.f1).2 = k := ⟨_, rfl⟩
          rw [hkq] at hq HKN
          rw [hkz] at hq
          refine hq.mono ?_
          clear hq hkq hkz hx1
          rintro e wk ⟨rfl, hb⟩
          replace BK1 := Aside0.mk (blk_below BK1.out hb)
          replace BK6 := Aside0.mk (blk_below BK6.out hb)
          replace BK8 := Aside0.mk (blk_below BK8.out hb)
          replace HB := Aside0.mk (below_step HB.out hb)
          clear hb
          have hx0 : wk.cell? ⟨g8, 0, none⟩ = some (.int .i64 x.f0) := blk_cell BK8.out 0
          by_cases e3 : x.f0 = 3
          · obtain rfl : kq = 5 := HKN.out.1 e3
            have b3 : (x.f0 == 3) = true := by rw [e3]; rfl
            have b4 : (x.f0 == 4) = false := by rw [e3]; rfl
            have b6 : (x.f0 == 6) = false := by rw [e3]; rfl
            have b7 : (x.f0 == 7) = false := by rw [e3]; rfl
            clear e3 HKN
            go_wp2
            go_roundw
            case rel => exact ⟨k + 1, by go_num, by omega, BK1, BK6, HB⟩
            case measure => simp [intOf]; omega

          by_cases e4 : x.f0 = 4
          · obtain rfl : kq = 3 := HKN.out.2.1 e4
            have b3 : (x.f0 == 3) = false := by rw [e4]; rfl
            have b4 : (x.f0 == 4) = true := by rw [e4]; rfl
            have b6 : (x.f0 == 6) = false := by rw [e4]; rfl
            have b7 : (x.f0 == 7) = false := by rw [e4]; rfl
            clear e4 HKN
            go_wp2
            go_roundw
            case rel => exact ⟨k + 1, by go_num, by omega, BK1, BK6, HB⟩
            case measure => simp [intOf]; omega

          by_cases e6 : x.f0 = 6
          · obtain rfl : kq = 6 := HKN.out.2.2.1 e6
            have b3 : (x.f0 == 3) = false := by rw [e6]; rfl
            have b4 : (x.f0 == 4) = false := by rw [e6]; rfl
            have b6 : (x.f0 == 6) = true := by rw [e6]; rfl
            have b7 : (x.f0 == 7) = false := by rw [e6]; rfl
            clear e6 HKN
            go_wp2
            go_roundw
            case rel => exact ⟨k + 1, by go_num, by omega, BK1, BK6, HB⟩
            case measure => simp [intOf]; omega

          by_cases e7 : x.f0 = 7
          rotate_left
          · have b3 : (x.f0 == 3) = false := by rw [beq_eq_false_iff_ne]; exact e3
            have b4 : (x.f0 == 4) = false := by rw [beq_eq_false_iff_ne]; exact e4
            have b6 : (x.f0 == 6) = false := by rw [beq_eq_false_iff_ne]; exact e6
            have b7 : (x.f0 == 7) = false := by rw [beq_eq_false_iff_ne]; exact e7
            clear e3 e4 e6 e7 HKN
            go_wp2
            go_roundw
            case rel => exact ⟨k + 1, by go_num, by omega, BK1, BK6, HB⟩
            case measure => simp [intOf]; omega
          obtain ⟨hk7, q, y, hfq, hqi, hqy, hlen⟩ := HKN.out.2.2.2 e7
          subst hk7
          have b3 : (x.f0 == 3) = false := by rw [e7]; rfl
          have b4 : (x.f0 == 4) = false := by rw [e7]; rfl
          have b6 : (x.f0 == 6) = false := by rw [e7]; rfl
          have b7 : (x.f0 == 7) = true := by rw [e7]; rfl
          have hx6 : wk.cell? ⟨g8, 6, none⟩ = some (.string x.f4) := blk_cell BK8.out 6
          have hk1 : wk.cell? ⟨g1, 0, none⟩ = some (.slice (some md) l.length c0) := blk_cell BK1.out 0
          have KF := Aside0.mk (fun w' (hb : Kd.C k34 w' (some md) l.length l) => find_any (some md) c0 l x.f4 w' hb)
          rw [hfq] at KF
          have hql : q < l.length := (List.getElem?_eq_some_iff.1 hqy).1
          have HQL := Aside0.mk hql
          have HQY := Aside0.mk hqy
          have HLN := Aside0.mk hlen
          have HQI := Aside0.mk hqi
          clear e3 e4 e6 e7 HKN hfq hqy hlen hqi hql
          go_wp2_with fail
          refine (KF.out _ (Kd.C_below HC.out HB.out)).mono ?_
          rintro e wl ⟨rfl, hb⟩
          clear hx0 hx6 hk1
          replace BK1 := Aside0.mk (blk_below BK1.out hb)
          replace BK6 := Aside0.mk (blk_below BK6.out hb)
          replace BK8 := Aside0.mk (blk_below BK8.out hb)
          replace HB := Aside0.mk (below_step HB.out hb)
          clear hb b3 b4 b6 b7
          have hk1 : wl.cell? ⟨g1, 0, none⟩ = some (.slice (some md) l.length c0) := blk_cell BK1.out 0
          have hx7 : wl.cell? ⟨g8, 7, none⟩ = some (.slice X7 x.f5.length p7) := blk_cell BK8.out 7
          obtain ⟨md2, N1, f1, N2, f2, N3, f3, hmd2, hy0, hy1, hy2, hy3, _⟩ := at34 (Kd.C_below HC.out HB.out) q HQL.out
          obtain rfl : md = md2 := Option.some.inj hmd2
          have hyq : l[q]'HQL.out = y := Option.some.inj ((List.getElem?_eq_getElem HQL.out).symm.trans HQY.out)
          rw [hyq, ← HLN.out] at hy1
          have hq0 : (0 : Int) ≤ (q : Int) := by omega
          have hq1 : (q : Int) < (l.length : Int) := by have := HQL.out; omega
          have hz2 : decide ((q : Int) < 0) = false := by simp
          have hz3 : decide ((q : Int) ≥ (i : Int)) = false := by have := HQI.out; simp; omega
          have hz5 : decide (i ≤ q) = false := by have := HQI.out; simp; omega
          have hz6 : decide ((i : Int) ≤ (q : Int)) = false := by have := HQI.out; simp; omega
          have hz4 : ((x.f5.length : Int) != (x.f5.length : Int)) = false := by simp
          clear hy0 hy2 hy3 hyq hmd2
          go_wp2_with fail
          go_quiet (fail)
          clear hz2 hz3 hz4 hz5 hz6 hy1 hx7 hk1
          go_wp2
          go_roundw
          case rel => exact ⟨k + 1, by go_num, by omega, ⟨BK1.out⟩, ⟨BK6.out⟩, ⟨pw_below_drewN HB.out _⟩⟩
          case measure => simp [intOf]; omega
end Go.Proofs.Ytnfhlhjbmcofoaa.S
