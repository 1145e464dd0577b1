/- Scope: the walk of the law ScopeOwn. -/
import Derived.Test.YtnfhlhjbmcofoaaScAt
namespace Go.Proofs.Ytnfhlhjbmcofoaa.S
open Go.RowKit Go.Proofs.YtnfhlhjbmcofoaaW.PrintWords Go.Proofs.YtnfhlhjbmcofoaaW.PrintLast
set_option linter.unusedVariables false
set_option linter.unusedSimpArgs false
theorem C40_one {w : World} {g : Nat} {a b c d : Int} (h : w.heap[g]? = some (.cells #[.int .i64 a, .int .i64 b, .int .i64 c, .int .i64 d] 40 (0, 0))) : Kd.C k40 w (some ⟨g, 0, none⟩) 1 [⟨a, b, c, d⟩] :=
  C_of_block (d := k40) h [⟨a, b, c, d⟩] [[.int .i64 a, .int .i64 b, .int .i64 c, .int .i64 d]] rfl (Nat.le_of_ble_eq_true rfl) (fun j p hj => match j, hj with | 0, hj => ⟨_, rfl, by cases hj; exact k40_mk _ _⟩ | j + 1, hj => by simp at hj) (by intro c hc; simp only [List.mem_cons, List.not_mem_nil, or_false] at hc; rw [hc]; rfl)
set_option maxHeartbeats 32000000 in
set_option maxRecDepth 100000 in
theorem lawOwn (A0 : Option Addr) (c0 : Nat) (l : List S34) (x1 x2 : Int) (w : World) (h0 : Kd.C k34 w A0 l.length l) (hB : BL22 l) (hx1 : (Lit.int .u8 x1).wf = true) (hx2 : (Lit.int .u8 x2).wf = true) :
    Calls Try.prog 9 #[.agg #[.slice A0 l.length c0], .int .u8 x1, .int .u8 x2] w fun e w' => e = .returned (.bool true) ∧ Below w.heap.size w w' := by
  have HX1 := Aside0.mk (u8_rng hx1)
  have HX2 := Aside0.mk (u8_rng hx2)
  clear hx1 hx2
  have HC := Aside0.mk h0
  have HY := Aside0.mk hB
  have HQ := Aside0.mk (b49_of hB)
  have hm : l.length ≤ 9223372036854775807 := h0.2.1
  have HB : Aside0 (Below w.heap.size w w) := ⟨Below.refl _ _⟩
  clear h0 hB
  go_enter Try.func9, Try.ntmps9
  go_wp2_with (first | ((with_reducible refine gate_dst (N := 3) rfl ?_); refine box_event ?hg (N := 3) ?hd (cs := #[.slice A0 l.length c0]) (t := 24) ?hr ?_; (case hd => rfl); (case hg => rfl); (case hr => first | (go_simp; done) | (go_simp; rfl)); intro g1 hg_ wa hbox_ hb_; have BK1 := Aside0.mk (hbox_); have GBK1_HB : Aside0 (w.heap.size ≤ g1) := ⟨by rw [hg_]; exact below_size HB.out⟩; replace HB : Aside0 (Below w.heap.size w wa) := ⟨below_step HB.out hb_⟩; have hk1 : wa.cell? ⟨g1, 0, none⟩ = some (.slice A0 l.length c0) := blk_cell hbox_ 0; clear hg_ hbox_ hb_))
  refine (head_law _).mono ?_
  rintro e wb ⟨rfl, hb⟩
  replace BK1 := Aside0.mk (blk_below BK1.out hb)
  replace HB := Aside0.mk (below_step HB.out hb)
  clear hb hk1
  have hk1 : wb.cell? ⟨g1, 0, none⟩ = some (.slice A0 l.length c0) := blk_cell BK1.out 0
  go_wp2_with fail
  refine (fits_any A0 c0 l _ (Kd.C_below HC.out HB.out) HY.out).mono ?_
  rintro e wc ⟨⟨b, rfl, hs⟩, hb⟩
  have HSM := Aside0.mk hs
  replace BK1 := Aside0.mk (blk_below BK1.out hb)
  replace HB := Aside0.mk (below_step HB.out hb)
  clear hb hk1 hs
  have hk1 : wc.cell? ⟨g1, 0, none⟩ = some (.slice A0 l.length c0) := blk_cell BK1.out 0
  cases b with
  | false =>
    go_wp2
    go_ret
    exact ⟨rfl, HB.out⟩
  | true =>
  have HS := Aside0.mk (HSM.out rfl)
  clear HSM
  by_cases hl : l.length = 0
  · have hl0 : ((l.length : Int) == 0) = true := by rw [beq_iff_eq]; omega
    go_wp2
    go_ret
    exact ⟨rfl, HB.out⟩
  have hl0 : ((l.length : Int) == 0) = false := by rw [beq_eq_false_iff_ne]; omega
  have HNL : Aside0 (0 < l.length) := ⟨by omega⟩
  clear hl
  go_wp2_with fail
  refine (scheck_any A0 c0 l _ (Kd.C_below HC.out HB.out) HS.out HQ.out).mono ?_
  rintro e wf ⟨RA, rc, rfl, hle, hC, hb⟩
  obtain ⟨R, hR⟩ : ∃ R, checkS l = R := ⟨_, rfl⟩
  rw [hR] at hC hle
  rw [hR]
  have hmr : R.length ≤ 9223372036854775807 := hC.2.1
  have HRR := Aside0.mk hR
  replace BK1 := Aside0.mk (blk_below BK1.out hb)
  replace HB := Aside0.mk (below_step HB.out hb)
  clear hb hk1 hR hC hle
  have hk1 : wf.cell? ⟨g1, 0, none⟩ = some (.slice A0 l.length c0) := blk_cell BK1.out 0
  cases R with
  | cons r0 rs =>
    have hpos : (0 : Int) < ((r0 :: rs).length : Int) := by rw [List.length_cons]; omega
    go_wp2
    all_goals (go_ret; exact ⟨rfl, HB.out⟩)
  | nil =>
  have HCL := HRR
  clear HRR hmr
  obtain ⟨i, hr1, hil⟩ : ∃ i : Nat, (wrap64 x1).tmod (l.length : Int) = (i : Int) ∧ i < l.length := ⟨_, mod_at HX1.out HNL.out, Nat.mod_lt _ HNL.out⟩
  have hi0 : (0 : Int) ≤ (i : Int) := by omega
  have hi1 : (i : Int) < (l.length : Int) := by omega
  have hnz : (l.length : Int) ≠ 0 := by have := HNL.out; omega
  have hnz2 : l.length ≠ 0 := by have := HNL.out; omega
  have HIL := Aside0.mk hil
  obtain ⟨md, cm, hmd, hKm, hcm⟩ := el_get (Kd.C_below HC.out HB.out) i hil
  subst hmd
  obtain ⟨m, hmm⟩ : ∃ m, l[i] = m := ⟨_, rfl⟩
  rw [hmm] at hKm
  have HMM := Aside0.mk hmm
  obtain ⟨M1, d1, M2, d2, M3, d3, rfl, hq1, hC1, hq2, hC2, hq3, hC3⟩ := k34_open hKm
  have HKM := Aside0.mk hKm
  have HMC := Aside0.mk hcm
  obtain ⟨xs, hxs⟩ : ∃ xs, m.f3 = xs := ⟨_, rfl⟩
  have HXS := Aside0.mk hxs
  have HM3 : Aside0 (∀ w', Below wf.heap.size wf w' → w'.cell? ⟨(md.add (i * 4)).block, (md.add (i * 4)).off + 3, none⟩ = some (.slice M3 m.f3.length d3)) := ⟨fun w' hb => hcm w' hb 3 _ rfl⟩
  rw [hxs] at hC3 HMC HM3 HKM
  have HCX := Aside0.mk hC3
  have hm3 := HM3.out wf (Below.refl _ _)
  have hmx : xs.length ≤ 1000 := by rw [← hxs, ← hmm]; exact (HS.out.2 _ (List.getElem_mem hil)).2.2
  have HMX := Aside0.mk hmx
  have HBf : Aside0 (Below wf.heap.size wf wf) := ⟨Below.refl _ _⟩
  clear hmm hxs hC3 hq3 hq1 hC1 hq2 hC2 hKm hcm HX1
  by_cases hxz : xs.length = 0
  · have hxz1 : ((xs.length : Int) == 0) = true := by rw [beq_iff_eq]; omega
    go_wp2
    go_ret
    exact ⟨rfl, HB.out⟩
  have hxz1 : ((xs.length : Int) == 0) = false := by rw [beq_eq_false_iff_ne]; omega
  have hxz2 : (xs.length : Int) ≠ 0 := by omega
  have HXP : Aside0 (0 < xs.length) := ⟨by omega⟩
  obtain ⟨k, hr2, hkl⟩ : ∃ k : Nat, (wrap64 x2).tmod (xs.length : Int) = (k : Int) ∧ k < xs.length := ⟨_, mod_at HX2.out HXP.out, Nat.mod_lt _ HXP.out⟩
  have hk0 : (0 : Int) ≤ (k : Int) := by omega
  have hkl1 : (k : Int) < (xs.length : Int) := by omega
  have HKX := Aside0.mk hkl
  obtain ⟨ax, cx, hax, hKx, hcx⟩ := el_get HCX.out k hkl
  subst hax
  obtain ⟨x, hxx⟩ : ∃ x, xs[k] = x := ⟨_, rfl⟩
  rw [hxx] at hKx
  have HXX : Aside0 (xs[k]? = some x) := ⟨by rw [← hxx]; exact List.getElem?_eq_getElem hkl⟩
  obtain ⟨X7, p7, X8, p8, X19, p19, X30, p30, X41, p41, rfl, hl7, hC7, hl8, hC8, hl19, hC19, hl30, hC30, hl41, hC41⟩ := k49_open hKx
  have HXC := Aside0.mk hcx
  have HYK : Aside0 (k49.K wf (newE x (refE ⟨#[63]⟩)) [.int .i64 x.f0, .string x.f1, .string x.f2.f0, .int .i64 x.f2.f1, .string x.f3.f0, .int .i64 x.f3.f1, .string x.f4, .slice X7 x.f5.length p7, .slice X8 x.f6.length p8, .int .i64 2, .string ⟨#[]⟩, .int .i64 0, .string ⟨#[]⟩, .int .i64 0, .string ⟨#[]⟩, .int .i64 0, .string ⟨#[]⟩, .int .i64 0, .string ⟨#[63]⟩, .slice none 0 0, .int .i64 x.f8.f0, .string x.f8.f1.f0, .int .i64 x.f8.f1.f1, .string x.f8.f2.f0, .int .i64 x.f8.f2.f1, .string x.f8.f3.f0, .int .i64 x.f8.f3.f1, .string x.f8.f4.f0, .int .i64 x.f8.f4.f1, .string x.f8.f5, .slice X30 x.f8.f6.length p30, .int .i64 x.f9.f0, .string x.f9.f1.f0, .int .i64 x.f9.f1.f1, .string x.f9.f2.f0, .int .i64 x.f9.f2.f1, .string x.f9.f3.f0, .int .i64 x.f9.f3.f1, .string x.f9.f4.f0, .int .i64 x.f9.f4.f1, .string x.f9.f5, .slice X41 x.f9.f6.length p41]) := ⟨k49_mk wf (newE x (refE ⟨#[63]⟩)) hl7 hC7 hl8 hC8 (Nat.le_refl 0) (Kd.C_nil _ _) hl30 hC30 hl41 hC41⟩
  clear hxx hKx hcx hl7 hC7 hl8 hC8 hl19 hC19 hl30 hC30 hl41 hC41 HX2 hkl hmx
  go_wp2_with (first | ((with_reducible refine gate_dst (N := 68) rfl ?_); refine wpList_load_cells rfl 49 (.tmp 67) rfl _ rfl [.int .i64 x.f0, .string x.f1, .string x.f2.f0, .int .i64 x.f2.f1, .string x.f3.f0, .int .i64 x.f3.f1, .string x.f4, .slice X7 x.f5.length p7, .slice X8 x.f6.length p8, .int .i64 x.f7.f0, .string x.f7.f1.f0, .int .i64 x.f7.f1.f1, .string x.f7.f2.f0, .int .i64 x.f7.f2.f1, .string x.f7.f3.f0, .int .i64 x.f7.f3.f1, .string x.f7.f4.f0, .int .i64 x.f7.f4.f1, .string x.f7.f5, .slice X19 x.f7.f6.length p19, .int .i64 x.f8.f0, .string x.f8.f1.f0, .int .i64 x.f8.f1.f1, .string x.f8.f2.f0, .int .i64 x.f8.f2.f1, .string x.f8.f3.f0, .int .i64 x.f8.f3.f1, .string x.f8.f4.f0, .int .i64 x.f8.f4.f1, .string x.f8.f5, .slice X30 x.f8.f6.length p30, .int .i64 x.f9.f0, .string x.f9.f1.f0, .int .i64 x.f9.f1.f1, .string x.f9.f2.f0, .int .i64 x.f9.f2.f1, .string x.f9.f3.f0, .int .i64 x.f9.f3.f1, .string x.f9.f4.f0, .int .i64 x.f9.f4.f1, .string x.f9.f5, .slice X41 x.f9.f6.length p41] ?hc _ Try.underlying49 rfl ?hq9 ?_; (case hc => exact HXC.out _ HBf.out); (case hq9 => kernel_rfl)) | ((with_reducible refine gate_dst (N := 11) rfl ?_); refine box_event ?hg (N := 11) ?hd (cs := #[.int .i64 0, .string ⟨#[]⟩, .string ⟨#[]⟩, .int .i64 0, .string ⟨#[]⟩, .int .i64 0, .string ⟨#[]⟩, .slice none 0 0, .slice none 0 0, .int .i64 0, .string ⟨#[]⟩, .int .i64 0, .string ⟨#[]⟩, .int .i64 0, .string ⟨#[]⟩, .int .i64 0, .string ⟨#[]⟩, .int .i64 0, .string ⟨#[]⟩, .slice none 0 0, .int .i64 0, .string ⟨#[]⟩, .int .i64 0, .string ⟨#[]⟩, .int .i64 0, .string ⟨#[]⟩, .int .i64 0, .string ⟨#[]⟩, .int .i64 0, .string ⟨#[]⟩, .slice none 0 0, .int .i64 0, .string ⟨#[]⟩, .int .i64 0, .string ⟨#[]⟩, .int .i64 0, .string ⟨#[]⟩, .int .i64 0, .string ⟨#[]⟩, .int .i64 0, .string ⟨#[]⟩, .slice none 0 0]) (t := 49) ?hr ?_; (case hd => rfl); (case hg => rfl); (case hr => first | (go_simp; done) | (go_simp; rfl)); intro g11 hg_ wx hbox_ hb_; replace BK1 := Aside0.mk (blk_below BK1.out hb_); have BZ11 := Aside0.mk (hbox_); have GBZ11_HBf : Aside0 (wf.heap.size ≤ g11) := ⟨by rw [hg_]; exact below_size HBf.out⟩; replace HBf : Aside0 (Below wf.heap.size wf wx) := ⟨below_step HBf.out hb_⟩; clear hg_ hbox_ hb_) | ((with_reducible refine gate_ (.store 49 (.tmp 11) (.tmp 68)) rfl ?_); refine wpList_store_box rfl rfl 49 (.tmp 11) (.tmp 68) rfl (g := g11) (e := 49) [.int .i64 x.f0, .string x.f1, .string x.f2.f0, .int .i64 x.f2.f1, .string x.f3.f0, .int .i64 x.f3.f1, .string x.f4, .slice X7 x.f5.length p7, .slice X8 x.f6.length p8, .int .i64 x.f7.f0, .string x.f7.f1.f0, .int .i64 x.f7.f1.f1, .string x.f7.f2.f0, .int .i64 x.f7.f2.f1, .string x.f7.f3.f0, .int .i64 x.f7.f3.f1, .string x.f7.f4.f0, .int .i64 x.f7.f4.f1, .string x.f7.f5, .slice X19 x.f7.f6.length p19, .int .i64 x.f8.f0, .string x.f8.f1.f0, .int .i64 x.f8.f1.f1, .string x.f8.f2.f0, .int .i64 x.f8.f2.f1, .string x.f8.f3.f0, .int .i64 x.f8.f3.f1, .string x.f8.f4.f0, .int .i64 x.f8.f4.f1, .string x.f8.f5, .slice X30 x.f8.f6.length p30, .int .i64 x.f9.f0, .string x.f9.f1.f0, .int .i64 x.f9.f1.f1, .string x.f9.f2.f0, .int .i64 x.f9.f2.f1, .string x.f9.f3.f0, .int .i64 x.f9.f3.f1, .string x.f9.f4.f0, .int .i64 x.f9.f4.f1, .string x.f9.f5, .slice X41 x.f9.f6.length p41] rfl rfl BZ11.out rfl ?hq9 ?h1 ?_; (case hq9 => kernel_rfl); (case h1 => simp [Value.oneCell']); intro wy hbx_ hfar_ hsz_ hbel_; replace BK1 := Aside0.mk ((hfar_ _ (blk_ne BK1.out BZ11.out (by decide))).trans BK1.out); have BK11 := Aside0.mk (hbx_); replace HBf : Aside0 (Below wf.heap.size wf wy) := ⟨hbel_ _ GBZ11_HBf.out wf HBf.out⟩; have hk1 : wy.cell? ⟨g1, 0, none⟩ = some (.slice (some md) l.length c0) := blk_cell BK1.out 0; clear hbx_ hfar_ hsz_ hbel_ BZ11) | ((with_reducible refine gate_dst (N := 74) rfl ?_); refine wpList_load_cells rfl 34 (.tmp 73) rfl _ rfl [.string m.f0, .slice M1 m.f1.length d1, .slice M2 m.f2.length d2, .slice (some ax) xs.length d3] ?hc _ Try.underlying34 rfl ?hq9 ?_; (case hc => exact HMC.out _ HBf.out); (case hq9 => kernel_rfl)))
  have hq := skind_any m _ ⟨#[63]⟩ _ (k34.K_below HBf.out HKM.out)
  obtain ⟨q, hqq⟩ : ∃ q, (kindS m ⟨#[63]⟩).1 = q := ⟨_, rfl⟩
  obtain ⟨q2, hqq2⟩ : ∃ q, (kindS m ⟨#[63]⟩).2 = q := ⟨_, rfl⟩
  rw [hqq, hqq2] at hq
  refine hq.mono ?_
  rintro e wb2 ⟨rfl, hb⟩
  replace BK1 := Aside0.mk (blk_below BK1.out hb)
  replace BK11 := Aside0.mk (blk_below BK11.out hb)
  replace HBf := Aside0.mk (below_step HBf.out hb)
  clear hb hq hqq2 hk1
  have hk1 : wb2.cell? ⟨g1, 0, none⟩ = some (.slice (some md) l.length c0) := blk_cell BK1.out 0
  have hx0 : wb2.cell? ⟨g11, 0, none⟩ = some (.int .i64 x.f0) := blk_cell BK11.out 0
  by_cases hbad : q = 0 ∧ x.f0 ≠ 2 ∧ x.f0 ≠ 5 ∧ x.f0 ≠ 7
  rotate_left
  · have hor : q ≠ 0 ∨ x.f0 = 2 ∨ x.f0 = 5 ∨ x.f0 = 7 := by omega
    clear hqq
    cases b0 : (q != 0) <;> cases b2 : (x.f0 == 2) <;> cases b5 : (x.f0 == 5) <;> cases b7 : (x.f0 == 7)
    · exfalso
      rw [bne_eq_false_iff_eq] at b0
      rw [beq_eq_false_iff_ne] at b2 b5 b7
      omega
    all_goals (clear hor hbad; go_wp2; go_ret; exact ⟨rfl, below_step HB.out HBf.out⟩)
  obtain ⟨rfl, hn2, hn5, hn7⟩ := hbad
  have b0 : ((0 : Int) != 0) = false := rfl
  have b2 : (x.f0 == 2) = false := by rw [beq_eq_false_iff_ne]; exact hn2
  have b5 : (x.f0 == 5) = false := by rw [beq_eq_false_iff_ne]; exact hn5
  have b7 : (x.f0 == 7) = false := by rw [beq_eq_false_iff_ne]; exact hn7
  have HNK : Aside0 (x.f0 ≠ 2 ∧ x.f0 ≠ 5 ∧ x.f0 ≠ 7) := ⟨hn2, hn5, hn7⟩
  have HQQ := Aside0.mk hqq
  clear hqq hn2 hn5 hn7
  go_wp2_with fail
  clear b0 b2 b5 b7 hx0 hk1
  refine (ref_law _ _).mono ?_
  rintro e wr2 ⟨rfl, hb⟩
  replace BK1 := Aside0.mk (blk_below BK1.out hb)
  replace BK11 := Aside0.mk (blk_below BK11.out hb)
  replace HBf := Aside0.mk (below_step HBf.out hb)
  clear hb
  go_wp2_with (first | ((with_reducible refine gate_ (.store 47 (.tmp 97) (.tmp 96)) rfl ?_); refine wpList_store_at rfl rfl 47 (.tmp 97) (.tmp 96) rfl (g := g11) (i := 9) (e := 49) _ [.int .i64 2, .string ⟨#[]⟩, .int .i64 0, .string ⟨#[]⟩, .int .i64 0, .string ⟨#[]⟩, .int .i64 0, .string ⟨#[]⟩, .int .i64 0, .string ⟨#[63]⟩, .slice none 0 0] ?hu rfl rfl BK11.out ?hs ?hq9 ?h1 ?_; (case hu => rfl); (case hs => exact Nat.le_of_ble_eq_true rfl); (case hq9 => kernel_rfl); (case h1 => simp [Value.oneCell']); intro wz cur_ hl_ hbx_ hfar_ hsz_ hbel_; obtain rfl : cur_ = #[.int .i64 x.f0, .string x.f1, .string x.f2.f0, .int .i64 x.f2.f1, .string x.f3.f0, .int .i64 x.f3.f1, .string x.f4, .slice X7 x.f5.length p7, .slice X8 x.f6.length p8, .int .i64 2, .string ⟨#[]⟩, .int .i64 0, .string ⟨#[]⟩, .int .i64 0, .string ⟨#[]⟩, .int .i64 0, .string ⟨#[]⟩, .int .i64 0, .string ⟨#[63]⟩, .slice none 0 0, .int .i64 x.f8.f0, .string x.f8.f1.f0, .int .i64 x.f8.f1.f1, .string x.f8.f2.f0, .int .i64 x.f8.f2.f1, .string x.f8.f3.f0, .int .i64 x.f8.f3.f1, .string x.f8.f4.f0, .int .i64 x.f8.f4.f1, .string x.f8.f5, .slice X30 x.f8.f6.length p30, .int .i64 x.f9.f0, .string x.f9.f1.f0, .int .i64 x.f9.f1.f1, .string x.f9.f2.f0, .int .i64 x.f9.f2.f1, .string x.f9.f3.f0, .int .i64 x.f9.f3.f1, .string x.f9.f4.f0, .int .i64 x.f9.f4.f1, .string x.f9.f5, .slice X41 x.f9.f6.length p41] := Array.toList_inj.1 (hl_.trans (by rfl)); replace BK1 := Aside0.mk ((hfar_ _ (blk_ne BK1.out BK11.out (by decide))).trans BK1.out); replace BK11 := Aside0.mk (hbx_); replace HBf : Aside0 (Below wf.heap.size wf wz) := ⟨hbel_ _ GBZ11_HBf.out wf HBf.out⟩; have hk1 : wz.cell? ⟨g1, 0, none⟩ = some (.slice (some md) l.length c0) := blk_cell BK1.out 0; clear hl_ hbx_ hfar_ hsz_ hbel_) | ((with_reducible refine gate_dst (N := 98) rfl ?_); refine Kd.R_lit (Kd.fixed k49 wf) (w0 := wf) wf.heap.size 49 ?hg (N := 98) ?hd (xs := []) (inner := []) (ok := fun _ => True) (okp := fun _ => True) ?hr ?hp (fun _ hk => hk) trivial HBf.out (below_size HBf.out) (by simp) ?_; (case hd => rfl); (case hg => rfl); (case hr => first | (go_simp; done) | (go_simp; rfl)); (case hp => exact Reps.none _ _); intro v_ wl ho_ hb_ hg_ hn_; have HN11 : Aside0 (some g11 ≠ v_.ownBlock) := ⟨by obtain ⟨b, hb1, hb2⟩ := hn_; rw [hb1]; intro he; injection he with he; have := blk_lt BK11.out; omega⟩; replace BK1 := Aside0.mk (blk_grown BK1.out hg_ (by simp)); replace BK11 := Aside0.mk (blk_grown BK11.out hg_ (by simp)); have HO := Aside0.mk ho_; replace HBf := Aside0.mk hb_; have hk1 : wl.cell? ⟨g1, 0, none⟩ = some (.slice (some md) l.length c0) := blk_cell BK1.out 0; have hm3 := HM3.out _ HBf.out; clear ho_ hb_ hg_ hn_) | (at_builtin; refine Kd.R_append_rows (Kd.fixed k49 wf) (w0 := wf) wf.heap.size rfl (.tmp 98) (.tmp 104) 32 49 _ 568 rfl Try.underlying32 info49 rfl (show 0 < 42 by decide) (by omega) v_ [] xs _ _ _ (fun _ => True) (fun _ => False) rfl rfl ?aO ?aR (fun _ _ h => h) (fun _ h => h.elim) (fun _ _ => trivial) ?aB ?aS ?aL ?_; (case aR => exact ReadsRow.imp_ HCX.out HBf.out (fun _ _ hp => hp)); (case aB => exact HBf.out); (case aO => exact HO.out); (case aS => exact (below_size HBf.out)); (case aL => have := HMX.out; simp only [List.length_nil]; omega); intro v1 wv ho hb hgr hat; clear hk1; replace ho : (Kd.fixed k49 wf).R 49 wv wf.heap.size (fun _ => True) v1 xs := ho; have HN11' := HN11; replace HN11 : Aside0 (some g11 ≠ v1.ownBlock) := ⟨by rcases hat with h | ⟨b, h, hle⟩; { rw [h]; exact HN11.out }; { rw [h]; intro he; injection he with he; have := blk_lt BK11.out; omega }⟩; replace BK1 := Aside0.mk (blk_grown BK1.out hgr (Kd.R_ne HO.out BK1.out (by decide))); replace BK11 := Aside0.mk (blk_grown BK11.out hgr HN11'.out); obtain ⟨gA, cap, cur, hv1, hgb, hgA, hsA⟩ := row_open ho HXP.out; subst hv1; have HGA := Aside0.mk hgA; have HGB := Aside0.mk hgb; have HSA := Aside0.mk hsA; replace HO := Aside0.mk ho; replace HBf := Aside0.mk hb; have hk1 : wv.cell? ⟨g1, 0, none⟩ = some (.slice (some md) l.length c0) := blk_cell BK1.out 0; clear ho hb hgr hat hgA hgb hsA hm3 HN11') | ((with_reducible refine gate_dst (N := 108) rfl ?_); refine wpList_load_row rfl 49 (.tmp 11) rfl g11 rfl 49 #[.int .i64 x.f0, .string x.f1, .string x.f2.f0, .int .i64 x.f2.f1, .string x.f3.f0, .int .i64 x.f3.f1, .string x.f4, .slice X7 x.f5.length p7, .slice X8 x.f6.length p8, .int .i64 2, .string ⟨#[]⟩, .int .i64 0, .string ⟨#[]⟩, .int .i64 0, .string ⟨#[]⟩, .int .i64 0, .string ⟨#[]⟩, .int .i64 0, .string ⟨#[63]⟩, .slice none 0 0, .int .i64 x.f8.f0, .string x.f8.f1.f0, .int .i64 x.f8.f1.f1, .string x.f8.f2.f0, .int .i64 x.f8.f2.f1, .string x.f8.f3.f0, .int .i64 x.f8.f3.f1, .string x.f8.f4.f0, .int .i64 x.f8.f4.f1, .string x.f8.f5, .slice X30 x.f8.f6.length p30, .int .i64 x.f9.f0, .string x.f9.f1.f0, .int .i64 x.f9.f1.f1, .string x.f9.f2.f0, .int .i64 x.f9.f2.f1, .string x.f9.f3.f0, .int .i64 x.f9.f3.f1, .string x.f9.f4.f0, .int .i64 x.f9.f4.f1, .string x.f9.f5, .slice X41 x.f9.f6.length p41] (0, 0) _ ?hg Try.underlying49 rfl ?hq9 ?_; (case hg => exact BK11.out); (case hq9 => kernel_rfl)) | ((with_reducible refine gate_ (.store 49 (.tmp 109) (.tmp 108)) rfl ?_); refine wpList_store_at rfl rfl 49 (.tmp 109) (.tmp 108) rfl (g := gA) (i := k * 42) (e := 49) _ [.int .i64 x.f0, .string x.f1, .string x.f2.f0, .int .i64 x.f2.f1, .string x.f3.f0, .int .i64 x.f3.f1, .string x.f4, .slice X7 x.f5.length p7, .slice X8 x.f6.length p8, .int .i64 2, .string ⟨#[]⟩, .int .i64 0, .string ⟨#[]⟩, .int .i64 0, .string ⟨#[]⟩, .int .i64 0, .string ⟨#[]⟩, .int .i64 0, .string ⟨#[63]⟩, .slice none 0 0, .int .i64 x.f8.f0, .string x.f8.f1.f0, .int .i64 x.f8.f1.f1, .string x.f8.f2.f0, .int .i64 x.f8.f2.f1, .string x.f8.f3.f0, .int .i64 x.f8.f3.f1, .string x.f8.f4.f0, .int .i64 x.f8.f4.f1, .string x.f8.f5, .slice X30 x.f8.f6.length p30, .int .i64 x.f9.f0, .string x.f9.f1.f0, .int .i64 x.f9.f1.f1, .string x.f9.f2.f0, .int .i64 x.f9.f2.f1, .string x.f9.f3.f0, .int .i64 x.f9.f3.f1, .string x.f9.f4.f0, .int .i64 x.f9.f4.f1, .string x.f9.f5, .slice X41 x.f9.f6.length p41] ?hu ?hp9 rfl HGA.out ?hs ?hq9 ?h1 ?_; (case hu => rfl); (case hp9 => first | rfl | (simp [Addr.add]; done)); (case hs => (have h1 := HSA.out; have h2 := HKX.out; have h3 : (k + 1) * 42 ≤ xs.length * 42 := Nat.mul_le_mul_right _ h2; show k * 42 + 42 ≤ _; have h4 : xs.length * 42 ≤ cur.size := h1; omega)); (case hq9 => kernel_rfl); (case h1 => simp [Value.oneCell']); intro wt cur_ hl_ hbx_ hfar_ hsz_ hbel_; replace BK1 := Aside0.mk ((hfar_ _ (blk_ne BK1.out HGA.out (by decide))).trans BK1.out); replace HO := Aside0.mk (row_put HO.out HGA.out HKX.out HYK.out hl_ hbx_); replace HBf : Aside0 (Below wf.heap.size wf wt) := ⟨hbel_ _ HGB.out wf HBf.out⟩; have hk1 : wt.cell? ⟨g1, 0, none⟩ = some (.slice (some md) l.length c0) := blk_cell BK1.out 0; clear hl_ hbx_ hfar_ hsz_ hbel_ HGA HGB HSA HN11 BK11))
  obtain ⟨ys, hys⟩ : ∃ ys, xs.set k (newE x (refE ⟨#[63]⟩)) = ys := ⟨_, rfl⟩
  obtain ⟨N, hN⟩ : ∃ N, l.set i (its l[i] ys) = N := ⟨_, rfl⟩
  have hyl : ys.length = xs.length := by rw [← hys, List.length_set]
  have hXB : ∀ y ∈ xs, B49 y := fun y hy => HQ.out m (by rw [← HMM.out]; exact List.getElem_mem hil) y (by rw [HXS.out]; exact hy)
  have KN : Aside0 (checkS N = [⟨51, 0, i, k⟩] ∧ Sml N ∧ ∀ m ∈ N, ∀ x ∈ m.f3, B49 x) := ⟨by
    rw [← hN]
    refine ⟨?_, sml_set HS.out hil (by rw [hyl, HMM.out, HXS.out]), b49_set' HQ.out hil (by rw [← hys]; exact b49_put hXB (b49_newE (hXB x (List.mem_of_getElem? HXX.out)) (Nat.le_of_ble_eq_true rfl)))⟩
    have h1 : l[i]? = some m := by rw [← HMM.out]; exact List.getElem?_eq_getElem hil
    have h2 : m.f3[k]? = some x := by rw [HXS.out]; exact HXX.out
    have h3 := own_told HCL.out h1 h2 HNK.out (show (51 : Int) ≠ 0 by decide) (own_here HQQ.out)
    rw [HXS.out, hys] at h3
    rw [HMM.out]
    exact h3⟩
  obtain ⟨e1, e2, e3⟩ := Kd.R_reads' HO.out
  rw [hys] at e3
  have HBW := Aside0.mk (below_step HB.out HBf.out)
  have hw := with_any (some md) c0 l i hil (some ⟨gA, 0, none⟩) cap ys wt (Kd.C_below HC.out HBW.out) (C_fixed HBf.out e3) (by rw [hyl]; exact e2) HS.out.1
  rw [hN, hyl] at hw
  refine hw.mono ?_
  clear hw e1 e2 e3 hyl hXB hys hN HO HNK HQQ HXX HXS HMM HCX HKX hk1 HYK HXC HMC HKM HM3 hm3 HMX HXP hxz hxz1 hxz2
  rintro e wg ⟨D1, d1', rfl, hle, hC, hb⟩
  have hq := scheck_any D1 d1' N wg hC KN.out.2.1 KN.out.2.2
  rw [KN.out.1] at hq
  replace HBW := Aside0.mk (below_step HBW.out hb)
  clear hb hC hle
  go_wp2_with fail
  refine hq.mono ?_
  clear hq KN
  rintro e wh ⟨E1, e1, rfl, _, hR2, hb⟩
  have HR2 := Aside0.mk hR2
  replace HBW := Aside0.mk (below_step HBW.out hb)
  clear hb hR2
  go_wp2_with (first | ((with_reducible refine gate_dst (N := 119) rfl ?_); refine lit_event (n := 1) ?hg (N := 119) ?hd (cs := #[.int .i64 51, .int .i64 0, .int .i64 (i : Int), .int .i64 (k : Int)]) (t := 40) ?hr ?_; (case hd => rfl); (case hg => rfl); (case hr => first | (go_simp; done) | (go_simp; rfl)); intro gF hg_ wF hbox_ hb_; have BKF := Aside0.mk (hbox_); have GBKF_HBW : Aside0 (w.heap.size ≤ gF) := ⟨by rw [hg_]; exact below_size HBW.out⟩; replace HBW : Aside0 (Below w.heap.size w wF) := ⟨below_step HBW.out hb_⟩; have HF := Aside0.mk (C40_one hbox_); replace HR2 := Aside0.mk (Kd.C_below HR2.out hb_); clear hg_ hbox_ hb_))
  have hq := same_any E1 (some ⟨gF, 0, none⟩) e1 1 _ _ _ HR2.out HF.out
  rw [same_refl] at hq
  refine hq.mono ?_
  clear hq
  rintro e wk ⟨rfl, hb⟩
  replace HBW := Aside0.mk (below_step HBW.out hb)
  clear hb
  go_wp2
  go_ret
  exact ⟨rfl, HBW.out⟩
end Go.Proofs.Ytnfhlhjbmcofoaa.S
