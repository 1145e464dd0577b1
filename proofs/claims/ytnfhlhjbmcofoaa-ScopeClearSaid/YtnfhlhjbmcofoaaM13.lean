/- Scope: walks and plain laws of this seat's functions, merged out of smaller texts of this session (ScAo). -/
import Derived.Test.YtnfhlhjbmcofoaaM12
import Derived.Test.YtnfhlhjbmcofoaaM06
namespace Go.Proofs.Ytnfhlhjbmcofoaa.S
open Go.RowKit Go.Proofs.YtnfhlhjbmcofoaaW.PrintWords Go.Proofs.YtnfhlhjbmcofoaaW.PrintLast
set_option linter.unusedVariables false
set_option linter.unusedSimpArgs false
theorem store_in {W : World} {g i : Nat} {e : TypeId} {cur : Array Value} (cs : List Value) (hg : W.heap[g]? = some (.cells cur e (0, 0))) (hsz : i + cs.length ≤ cur.size) :
    ∃ cur', cur'.toList = cur.toList.take i ++ cs ++ cur.toList.drop (i + cs.length) ∧ (W.setCells g i cs).heap[g]? = some (.cells cur' e (0, 0)) ∧ (∀ k, k ≠ g → (W.setCells g i cs).heap[k]? = W.heap[k]?) ∧ ∀ B, B ≤ g → ∀ w0, Below B w0 W → Below B w0 (W.setCells g i cs) := by
  obtain ⟨cur', h3, h4, h5⟩ := setCells_row cs i W cur hg hsz
  obtain ⟨s1, s2, s3, s4⟩ := setCells_same g cs i W
  have hfar := fun k hk => setCells_far (g := g) cs i (w := W) k hk
  exact ⟨cur', h5, h3, hfar, fun B hB w0 hb => ⟨s1.trans hb.os, s2.trans hb.tape, s3.trans hb.output, by rw [s4]; exact hb.size, fun k hk => (hfar k (by omega)).trans (hb.block k hk)⟩⟩
set_option maxHeartbeats 64000000 in
set_option maxRecDepth 100000 in
theorem head_law (w : World) : Calls Try.prog 11 #[] w fun e w' => e = .returned (.bool true) ∧ Below w.heap.size w w' := by
  have HB : Aside0 (Below w.heap.size w w) := ⟨Below.refl _ _⟩
  go_enter Try.func11, Try.ntmps11
  go_wp2_with fail
  refine (pair_law _).mono ?_
  rintro e w1 ⟨aN, aP, aI, aM, aB, aJ, aD, ⟨he⟩, HP⟩
  obtain rfl := he
  have HCA := Aside0.mk (pairC ⟨#[110]⟩ ⟨#[118, 46, 98]⟩ ⟨#[119]⟩ ⟨#[97]⟩ ⟨#[112]⟩ w1 aN aP aI aM aB aJ aD HP.out.hN HP.out.hP HP.out.hI HP.out.hM HP.out.hB HP.out.hJ HP.out.hD)
  replace HB := Aside0.mk HP.out.b
  clear HP
  go_wp2_with fail
  refine (check_pair _ _ _ _ _ _ _ HCA.out (by decide) (by decide) (by decide) (by decide) [] pair_clean).mono ?_
  rintro e w2 ⟨RA, rc, rfl, _, _, hb⟩
  replace HB := Aside0.mk (below_step HB.out hb)
  clear HCA hb
  go_wp2_with fail
  refine (check_none _).mono ?_
  rintro e w3 ⟨NA, nc, rfl, hnc, hnC, hb⟩
  have HNC := Aside0.mk hnC
  replace HB := Aside0.mk (below_step HB.out hb)
  have HB3 : Aside0 (Below w3.heap.size w3 w3) := ⟨Below.refl _ _⟩
  clear hb hnc hnC
  go_wp2_with fail
  refine (pair_law _).mono ?_
  rintro e w4 ⟨gN, gP, gI, gM, gB, gJ, gD, ⟨he⟩, HP⟩
  obtain rfl := he
  have HN : Aside0 (w4.heap[gN]? = some (.cells #[.string ⟨#[110]⟩] 9 (0, 0))) := ⟨HP.out.hN⟩
  have HP_ : Aside0 (w4.heap[gP]? = some (.cells #[.bool true, .string ⟨#[97]⟩, .string ⟨#[110]⟩, .int .i64 0, .bool false, .string ⟨#[98]⟩, .string ⟨#[]⟩, .int .i64 1] 59 (0, 0))) := ⟨HP.out.hP⟩
  have HI : Aside0 (w4.heap[gI]? = some (.cells #[.int .i64 4, .string ⟨#[98]⟩, .string ⟨#[]⟩, .int .i64 0, .string ⟨#[]⟩, .int .i64 0, .string ⟨#[]⟩, .slice none 0 0, .slice none 0 0, .int .i64 2, .string ⟨#[]⟩, .int .i64 0, .string ⟨#[]⟩, .int .i64 0, .string ⟨#[]⟩, .int .i64 0, .string ⟨#[]⟩, .int .i64 0, .string ⟨#[97]⟩, .slice none 0 0, .int .i64 0, .string ⟨#[]⟩, .int .i64 0, .string ⟨#[]⟩, .int .i64 0, .string ⟨#[]⟩, .int .i64 0, .string ⟨#[]⟩, .int .i64 0, .string ⟨#[]⟩, .slice none 0 0, .int .i64 0, .string ⟨#[]⟩, .int .i64 0, .string ⟨#[]⟩, .int .i64 0, .string ⟨#[]⟩, .int .i64 0, .string ⟨#[]⟩, .int .i64 0, .string ⟨#[]⟩, .slice none 0 0] 49 (0, 0))) := ⟨HP.out.hI⟩
  have HM : Aside0 (w4.heap[gM]? = some (.cells #[.string ⟨#[]⟩, .int .i64 1] 42 (0, 0))) := ⟨HP.out.hM⟩
  have HBI : Aside0 (w4.heap[gB]? = some (.cells #[.string ⟨#[97]⟩, .int .i64 1, .string ⟨#[]⟩, .int .i64 1, .string ⟨#[]⟩, .int .i64 1, .string ⟨#[]⟩, .int .i64 0, .string ⟨#[]⟩, .int .i64 0, .string ⟨#[]⟩, .slice none 0 0] 64 (0, 0))) := ⟨HP.out.hB⟩
  have HJ : Aside0 (w4.heap[gJ]? = some (.cells #[.int .i64 1, .string ⟨#[119]⟩, .string ⟨#[]⟩, .int .i64 1, .string ⟨#[]⟩, .int .i64 0, .string ⟨#[]⟩, .slice none 0 0, .slice none 0 0, .int .i64 2, .string ⟨#[]⟩, .int .i64 0, .string ⟨#[]⟩, .int .i64 0, .string ⟨#[]⟩, .int .i64 0, .string ⟨#[]⟩, .int .i64 0, .string ⟨#[118, 46, 98]⟩, .slice none 0 0, .int .i64 0, .string ⟨#[]⟩, .int .i64 0, .string ⟨#[]⟩, .int .i64 0, .string ⟨#[]⟩, .int .i64 0, .string ⟨#[]⟩, .int .i64 0, .string ⟨#[]⟩, .slice none 0 0, .int .i64 0, .string ⟨#[]⟩, .int .i64 0, .string ⟨#[]⟩, .int .i64 0, .string ⟨#[]⟩, .int .i64 0, .string ⟨#[]⟩, .int .i64 0, .string ⟨#[]⟩, .slice none 0 0, .int .i64 7, .string ⟨#[118]⟩, .string ⟨#[]⟩, .int .i64 0, .string ⟨#[]⟩, .int .i64 0, .string ⟨#[117]⟩, .slice (some ⟨gM, 0, none⟩) 1 1, .slice (some ⟨gB, 0, none⟩) 1 1, .int .i64 0, .string ⟨#[]⟩, .int .i64 0, .string ⟨#[]⟩, .int .i64 0, .string ⟨#[]⟩, .int .i64 0, .string ⟨#[]⟩, .int .i64 0, .string ⟨#[]⟩, .slice none 0 0, .int .i64 0, .string ⟨#[]⟩, .int .i64 0, .string ⟨#[]⟩, .int .i64 0, .string ⟨#[]⟩, .int .i64 0, .string ⟨#[]⟩, .int .i64 0, .string ⟨#[]⟩, .slice none 0 0, .int .i64 0, .string ⟨#[]⟩, .int .i64 0, .string ⟨#[]⟩, .int .i64 0, .string ⟨#[]⟩, .int .i64 0, .string ⟨#[]⟩, .int .i64 0, .string ⟨#[]⟩, .slice none 0 0, .int .i64 8, .string ⟨#[112]⟩, .string ⟨#[]⟩, .int .i64 0, .string ⟨#[]⟩, .int .i64 0, .string ⟨#[]⟩, .slice none 0 0, .slice none 0 0, .int .i64 2, .string ⟨#[]⟩, .int .i64 0, .string ⟨#[]⟩, .int .i64 0, .string ⟨#[]⟩, .int .i64 0, .string ⟨#[]⟩, .int .i64 0, .string ⟨#[119]⟩, .slice none 0 0, .int .i64 0, .string ⟨#[]⟩, .int .i64 0, .string ⟨#[]⟩, .int .i64 0, .string ⟨#[]⟩, .int .i64 0, .string ⟨#[]⟩, .int .i64 0, .string ⟨#[]⟩, .slice none 0 0, .int .i64 0, .string ⟨#[]⟩, .int .i64 0, .string ⟨#[]⟩, .int .i64 0, .string ⟨#[]⟩, .int .i64 0, .string ⟨#[]⟩, .int .i64 0, .string ⟨#[]⟩, .slice none 0 0] 49 (0, 0))) := ⟨HP.out.hJ⟩
  have HD : Aside0 (w4.heap[gD]? = some (.cells #[.string ⟨#[117]⟩, .slice (some ⟨gN, 0, none⟩) 1 1, .slice (some ⟨gP, 0, none⟩) 2 2, .slice (some ⟨gI, 0, none⟩) 1 1, .string ⟨#[116]⟩, .slice none 0 0, .slice none 0 0, .slice (some ⟨gJ, 0, none⟩) 3 3] 34 (0, 0))) := ⟨HP.out.hD⟩
  have HW3 : Aside0 (w.heap.size ≤ w3.heap.size) := ⟨below_size HB.out⟩
  have GJ_HB3 : Aside0 (w3.heap.size ≤ gJ) := ⟨HP.out.ge.2.2.2.2.2.1⟩
  have GJ_HB : Aside0 (w.heap.size ≤ gJ) := ⟨by have h1 := GJ_HB3.out; have h2 := HW3.out; omega⟩
  have HNE : Aside0 (gI ≠ gJ) := ⟨HP.out.ne⟩
  replace HB := Aside0.mk (below_step HB.out HP.out.b)
  replace HB3 := Aside0.mk HP.out.b
  clear HP HW3
  go_wp2_with (first | ((with_reducible refine gate_dst (N := 3) rfl ?_); refine box_event ?hg (N := 3) ?hd (cs := #[.slice none 0 0]) (t := 24) ?hr ?_; (case hd => rfl); (case hg => rfl); (case hr => first | (go_simp; done) | (go_simp; rfl)); intro g3 hg_ wa hbox_ hb_; replace HN := Aside0.mk (blk_below HN.out hb_); replace HP_ := Aside0.mk (blk_below HP_.out hb_); replace HI := Aside0.mk (blk_below HI.out hb_); replace HM := Aside0.mk (blk_below HM.out hb_); replace HBI := Aside0.mk (blk_below HBI.out hb_); replace HJ := Aside0.mk (blk_below HJ.out hb_); replace HD := Aside0.mk (blk_below HD.out hb_); have BZ3 := Aside0.mk (hbox_); have GBZ3_HB : Aside0 (w.heap.size ≤ g3) := ⟨by rw [hg_]; exact below_size HB.out⟩; have GBZ3_HB3 : Aside0 (w3.heap.size ≤ g3) := ⟨by rw [hg_]; exact below_size HB3.out⟩; replace HB : Aside0 (Below w.heap.size w wa) := ⟨below_step HB.out hb_⟩; replace HB3 : Aside0 (Below w3.heap.size w3 wa) := ⟨below_step HB3.out hb_⟩; clear hg_ hbox_ hb_) | ((with_reducible refine gate_ (.store 24 (.tmp 3) (.tmp 20)) rfl ?_); refine wpList_store_box rfl rfl 24 (.tmp 3) (.tmp 20) rfl (g := g3) (e := 24) [.slice (some ⟨gD, 0, none⟩) 2 2] rfl rfl BZ3.out rfl ?hq9 ?h1 ?_; (case hq9 => kernel_rfl); (case h1 => simp [Value.oneCell']); intro wb hbx_ hfar_ hsz_ hbel_; replace HN := Aside0.mk ((hfar_ _ (blk_ne HN.out BZ3.out (by decide))).trans HN.out); replace HP_ := Aside0.mk ((hfar_ _ (blk_ne HP_.out BZ3.out (by decide))).trans HP_.out); replace HI := Aside0.mk ((hfar_ _ (blk_ne HI.out BZ3.out (by decide))).trans HI.out); replace HM := Aside0.mk ((hfar_ _ (blk_ne HM.out BZ3.out (by decide))).trans HM.out); replace HBI := Aside0.mk ((hfar_ _ (blk_ne HBI.out BZ3.out (by decide))).trans HBI.out); replace HJ := Aside0.mk ((hfar_ _ (blk_ne HJ.out BZ3.out (by decide))).trans HJ.out); replace HD := Aside0.mk ((hfar_ _ (blk_ne HD.out BZ3.out (by decide))).trans HD.out); have BK3 := Aside0.mk (hbx_); replace HB : Aside0 (Below w.heap.size w wb) := ⟨hbel_ _ GBZ3_HB.out w HB.out⟩; replace HB3 : Aside0 (Below w3.heap.size w3 wb) := ⟨hbel_ _ GBZ3_HB3.out w3 HB3.out⟩; clear hbx_ hfar_ hsz_ hbel_ BZ3))
  have hk3 : wb.cell? ⟨g3, 0, none⟩ = some (.slice (some ⟨gD, 0, none⟩) 2 2) := blk_cell BK3.out 0
  have hkD : wb.cell? ⟨gD, 7, none⟩ = some (.slice (some ⟨gJ, 0, none⟩) 3 3) := blk_cell HD.out 7
  have hltJ : gJ < wb.heap.size := blk_lt HJ.out
  have hlt3 : g3 < wb.heap.size := blk_lt BK3.out
  have hltD : gD < wb.heap.size := blk_lt HD.out
  have hne1 : g3 ≠ gJ := blk_ne BK3.out HJ.out (by decide)
  have hne1' : gJ ≠ g3 := fun h => hne1 h.symm
  have hne2 : gD ≠ gJ := blk_ne HD.out HJ.out (by decide)
  have hne2' : gJ ≠ gD := fun h => hne2 h.symm
  have hkj93 : wb.cell? ⟨gJ, 93, none⟩ = some (.int .i64 2) := blk_cell HJ.out 93
  have hkj94 : wb.cell? ⟨gJ, 94, none⟩ = some (.string ⟨#[]⟩) := blk_cell HJ.out 94
  have hkj95 : wb.cell? ⟨gJ, 95, none⟩ = some (.int .i64 0) := blk_cell HJ.out 95
  have hkj96 : wb.cell? ⟨gJ, 96, none⟩ = some (.string ⟨#[]⟩) := blk_cell HJ.out 96
  have hkj97 : wb.cell? ⟨gJ, 97, none⟩ = some (.int .i64 0) := blk_cell HJ.out 97
  have hkj98 : wb.cell? ⟨gJ, 98, none⟩ = some (.string ⟨#[]⟩) := blk_cell HJ.out 98
  have hkj99 : wb.cell? ⟨gJ, 99, none⟩ = some (.int .i64 0) := blk_cell HJ.out 99
  have hkj100 : wb.cell? ⟨gJ, 100, none⟩ = some (.string ⟨#[]⟩) := blk_cell HJ.out 100
  have hkj101 : wb.cell? ⟨gJ, 101, none⟩ = some (.int .i64 0) := blk_cell HJ.out 101
  have hkj102 : wb.cell? ⟨gJ, 102, none⟩ = some (.string ⟨#[119]⟩) := blk_cell HJ.out 102
  have hkj103 : wb.cell? ⟨gJ, 103, none⟩ = some (.slice none 0 0) := blk_cell HJ.out 103
  have hfj93 : wb.frozen? ⟨gJ, 93, none⟩ = false := blk_frozen HJ.out 93
  have hfj94 : wb.frozen? ⟨gJ, 94, none⟩ = false := blk_frozen HJ.out 94
  have hfj95 : wb.frozen? ⟨gJ, 95, none⟩ = false := blk_frozen HJ.out 95
  have hfj96 : wb.frozen? ⟨gJ, 96, none⟩ = false := blk_frozen HJ.out 96
  have hfj97 : wb.frozen? ⟨gJ, 97, none⟩ = false := blk_frozen HJ.out 97
  have hfj98 : wb.frozen? ⟨gJ, 98, none⟩ = false := blk_frozen HJ.out 98
  have hfj99 : wb.frozen? ⟨gJ, 99, none⟩ = false := blk_frozen HJ.out 99
  have hfj100 : wb.frozen? ⟨gJ, 100, none⟩ = false := blk_frozen HJ.out 100
  have hfj101 : wb.frozen? ⟨gJ, 101, none⟩ = false := blk_frozen HJ.out 101
  have hfj102 : wb.frozen? ⟨gJ, 102, none⟩ = false := blk_frozen HJ.out 102
  have hfj103 : wb.frozen? ⟨gJ, 103, none⟩ = false := blk_frozen HJ.out 103
  go_region_held3 (fun w' => w'.cell? ⟨g3, 0, none⟩ = some (.slice (some ⟨gD, 0, none⟩) 2 2) ∧ w'.cell? ⟨gD, 7, none⟩ = some (.slice (some ⟨gJ, 0, none⟩) 3 3))
    (go_keep)
    (first | (go_at_call 22; refine (ref_law _ _).mono ?_; rintro e we ⟨rfl, hb⟩; have HBE := Aside0.mk hb; obtain ⟨hc, hf⟩ := bcell (below_step (below_drew (Below.refl wb.heap.size wb)) hb); have hj93 := (hc ⟨gJ, 93, none⟩ hltJ).trans hkj93; have hj94 := (hc ⟨gJ, 94, none⟩ hltJ).trans hkj94; have hj95 := (hc ⟨gJ, 95, none⟩ hltJ).trans hkj95; have hj96 := (hc ⟨gJ, 96, none⟩ hltJ).trans hkj96; have hj97 := (hc ⟨gJ, 97, none⟩ hltJ).trans hkj97; have hj98 := (hc ⟨gJ, 98, none⟩ hltJ).trans hkj98; have hj99 := (hc ⟨gJ, 99, none⟩ hltJ).trans hkj99; have hj100 := (hc ⟨gJ, 100, none⟩ hltJ).trans hkj100; have hj101 := (hc ⟨gJ, 101, none⟩ hltJ).trans hkj101; have hj102 := (hc ⟨gJ, 102, none⟩ hltJ).trans hkj102; have hj103 := (hc ⟨gJ, 103, none⟩ hltJ).trans hkj103; have hg93 := (hf ⟨gJ, 93, none⟩ hltJ).trans hfj93; have hg94 := (hf ⟨gJ, 94, none⟩ hltJ).trans hfj94; have hg95 := (hf ⟨gJ, 95, none⟩ hltJ).trans hfj95; have hg96 := (hf ⟨gJ, 96, none⟩ hltJ).trans hfj96; have hg97 := (hf ⟨gJ, 97, none⟩ hltJ).trans hfj97; have hg98 := (hf ⟨gJ, 98, none⟩ hltJ).trans hfj98; have hg99 := (hf ⟨gJ, 99, none⟩ hltJ).trans hfj99; have hg100 := (hf ⟨gJ, 100, none⟩ hltJ).trans hfj100; have hg101 := (hf ⟨gJ, 101, none⟩ hltJ).trans hfj101; have hg102 := (hf ⟨gJ, 102, none⟩ hltJ).trans hfj102; have hg103 := (hf ⟨gJ, 103, none⟩ hltJ).trans hfj103))
  rename_i hH_
  clear hH_ hk3 hkD hltJ hlt3 hltD hne1 hne1' hne2 hne2' hc hf
  clear hkj93 hfj93 hj93 hg93 hkj94 hfj94 hj94 hg94 hkj95 hfj95 hj95 hg95 hkj96 hfj96 hj96 hg96 hkj97 hfj97 hj97 hg97 hkj98 hfj98 hj98 hg98 hkj99 hfj99 hj99 hg99 hkj100 hfj100 hj100 hg100 hkj101 hfj101 hj101 hg101 hkj102 hfj102 hj102 hg102 hkj103 hfj103 hj103 hg103
  replace HBE := Aside0.mk (below_step (below_drew (Below.refl wb.heap.size wb)) HBE.out)
  replace HN := Aside0.mk (blk_below HN.out HBE.out)
  replace HP_ := Aside0.mk (blk_below HP_.out HBE.out)
  replace HI := Aside0.mk (blk_below HI.out HBE.out)
  replace HM := Aside0.mk (blk_below HM.out HBE.out)
  replace HBI := Aside0.mk (blk_below HBI.out HBE.out)
  replace HJ := Aside0.mk (blk_below HJ.out HBE.out)
  replace HD := Aside0.mk (blk_below HD.out HBE.out)
  replace BK3 := Aside0.mk (blk_below BK3.out HBE.out)
  replace HB := Aside0.mk (below_step HB.out HBE.out)
  replace HB3 := Aside0.mk (below_step HB3.out HBE.out)
  clear HBE
  obtain ⟨cur_, hl_, hbx_, hfar_, hbel_⟩ := store_in (i := 93) [.int .i64 2, .string ⟨#[]⟩, .int .i64 0, .string ⟨#[]⟩, .int .i64 0, .string ⟨#[]⟩, .int .i64 0, .string ⟨#[]⟩, .int .i64 0, .string ⟨#[118]⟩, .slice none 0 0] HJ.out (Nat.le_of_ble_eq_true rfl)
  obtain rfl : cur_ = #[.int .i64 1, .string ⟨#[119]⟩, .string ⟨#[]⟩, .int .i64 1, .string ⟨#[]⟩, .int .i64 0, .string ⟨#[]⟩, .slice none 0 0, .slice none 0 0, .int .i64 2, .string ⟨#[]⟩, .int .i64 0, .string ⟨#[]⟩, .int .i64 0, .string ⟨#[]⟩, .int .i64 0, .string ⟨#[]⟩, .int .i64 0, .string ⟨#[118, 46, 98]⟩, .slice none 0 0, .int .i64 0, .string ⟨#[]⟩, .int .i64 0, .string ⟨#[]⟩, .int .i64 0, .string ⟨#[]⟩, .int .i64 0, .string ⟨#[]⟩, .int .i64 0, .string ⟨#[]⟩, .slice none 0 0, .int .i64 0, .string ⟨#[]⟩, .int .i64 0, .string ⟨#[]⟩, .int .i64 0, .string ⟨#[]⟩, .int .i64 0, .string ⟨#[]⟩, .int .i64 0, .string ⟨#[]⟩, .slice none 0 0, .int .i64 7, .string ⟨#[118]⟩, .string ⟨#[]⟩, .int .i64 0, .string ⟨#[]⟩, .int .i64 0, .string ⟨#[117]⟩, .slice (some ⟨gM, 0, none⟩) 1 1, .slice (some ⟨gB, 0, none⟩) 1 1, .int .i64 0, .string ⟨#[]⟩, .int .i64 0, .string ⟨#[]⟩, .int .i64 0, .string ⟨#[]⟩, .int .i64 0, .string ⟨#[]⟩, .int .i64 0, .string ⟨#[]⟩, .slice none 0 0, .int .i64 0, .string ⟨#[]⟩, .int .i64 0, .string ⟨#[]⟩, .int .i64 0, .string ⟨#[]⟩, .int .i64 0, .string ⟨#[]⟩, .int .i64 0, .string ⟨#[]⟩, .slice none 0 0, .int .i64 0, .string ⟨#[]⟩, .int .i64 0, .string ⟨#[]⟩, .int .i64 0, .string ⟨#[]⟩, .int .i64 0, .string ⟨#[]⟩, .int .i64 0, .string ⟨#[]⟩, .slice none 0 0, .int .i64 8, .string ⟨#[112]⟩, .string ⟨#[]⟩, .int .i64 0, .string ⟨#[]⟩, .int .i64 0, .string ⟨#[]⟩, .slice none 0 0, .slice none 0 0, .int .i64 2, .string ⟨#[]⟩, .int .i64 0, .string ⟨#[]⟩, .int .i64 0, .string ⟨#[]⟩, .int .i64 0, .string ⟨#[]⟩, .int .i64 0, .string ⟨#[118]⟩, .slice none 0 0, .int .i64 0, .string ⟨#[]⟩, .int .i64 0, .string ⟨#[]⟩, .int .i64 0, .string ⟨#[]⟩, .int .i64 0, .string ⟨#[]⟩, .int .i64 0, .string ⟨#[]⟩, .slice none 0 0, .int .i64 0, .string ⟨#[]⟩, .int .i64 0, .string ⟨#[]⟩, .int .i64 0, .string ⟨#[]⟩, .int .i64 0, .string ⟨#[]⟩, .int .i64 0, .string ⟨#[]⟩, .slice none 0 0] := Array.toList_inj.1 (hl_.trans (by rfl))
  clear hl_
  have hW_ : (World.setCell (World.setCell (World.setCell (World.setCell (World.setCell (World.setCell (World.setCell (World.setCell (World.setCell (World.setCell (World.setCell we ⟨gJ, 93, none⟩ (.int .i64 2)) ⟨gJ, 94, none⟩ (.string ⟨#[]⟩)) ⟨gJ, 95, none⟩ (.int .i64 0)) ⟨gJ, 96, none⟩ (.string ⟨#[]⟩)) ⟨gJ, 97, none⟩ (.int .i64 0)) ⟨gJ, 98, none⟩ (.string ⟨#[]⟩)) ⟨gJ, 99, none⟩ (.int .i64 0)) ⟨gJ, 100, none⟩ (.string ⟨#[]⟩)) ⟨gJ, 101, none⟩ (.int .i64 0)) ⟨gJ, 102, none⟩ (.string ⟨#[118]⟩)) ⟨gJ, 103, none⟩ (.slice none 0 0)) = we.setCells gJ 93 [.int .i64 2, .string ⟨#[]⟩, .int .i64 0, .string ⟨#[]⟩, .int .i64 0, .string ⟨#[]⟩, .int .i64 0, .string ⟨#[]⟩, .int .i64 0, .string ⟨#[118]⟩, .slice none 0 0] := rfl
  rw [hW_]
  clear hW_
  generalize we.setCells gJ 93 [.int .i64 2, .string ⟨#[]⟩, .int .i64 0, .string ⟨#[]⟩, .int .i64 0, .string ⟨#[]⟩, .int .i64 0, .string ⟨#[]⟩, .int .i64 0, .string ⟨#[118]⟩, .slice none 0 0] = wq at hbx_ hfar_ hbel_ ⊢
  replace HN := Aside0.mk ((hfar_ _ (blk_ne HN.out HJ.out (by decide))).trans HN.out)
  replace HP_ := Aside0.mk ((hfar_ _ (blk_ne HP_.out HJ.out (by decide))).trans HP_.out)
  replace HI := Aside0.mk ((hfar_ _ HNE.out).trans HI.out)
  replace HM := Aside0.mk ((hfar_ _ (blk_ne HM.out HJ.out (by decide))).trans HM.out)
  replace HBI := Aside0.mk ((hfar_ _ (blk_ne HBI.out HJ.out (by decide))).trans HBI.out)
  replace HD := Aside0.mk ((hfar_ _ (blk_ne HD.out HJ.out (by decide))).trans HD.out)
  replace BK3 := Aside0.mk ((hfar_ _ (blk_ne BK3.out HJ.out (by decide))).trans BK3.out)
  replace HJ := Aside0.mk (hbx_)
  replace HB : Aside0 (Below w.heap.size w wq) := ⟨hbel_ _ GJ_HB.out w HB.out⟩
  replace HB3 : Aside0 (Below w3.heap.size w3 wq) := ⟨hbel_ _ GJ_HB3.out w3 HB3.out⟩
  clear hbx_ hfar_ hbel_
  go_wp2_with fail
  have hk3 : wq.cell? ⟨g3, 0, none⟩ = some (.slice (some ⟨gD, 0, none⟩) 2 2) := blk_cell BK3.out 0
  have hkD : wq.cell? ⟨gD, 7, none⟩ = some (.slice (some ⟨gJ, 0, none⟩) 3 3) := blk_cell HD.out 7
  have hltJ : gJ < wq.heap.size := blk_lt HJ.out
  have hlt3 : g3 < wq.heap.size := blk_lt BK3.out
  have hltD : gD < wq.heap.size := blk_lt HD.out
  have hne1 : g3 ≠ gJ := blk_ne BK3.out HJ.out (by decide)
  have hne1' : gJ ≠ g3 := fun h => hne1 h.symm
  have hne2 : gD ≠ gJ := blk_ne HD.out HJ.out (by decide)
  have hne2' : gJ ≠ gD := fun h => hne2 h.symm
  have hkj9 : wq.cell? ⟨gJ, 9, none⟩ = some (.int .i64 2) := blk_cell HJ.out 9
  have hkj10 : wq.cell? ⟨gJ, 10, none⟩ = some (.string ⟨#[]⟩) := blk_cell HJ.out 10
  have hkj11 : wq.cell? ⟨gJ, 11, none⟩ = some (.int .i64 0) := blk_cell HJ.out 11
  have hkj12 : wq.cell? ⟨gJ, 12, none⟩ = some (.string ⟨#[]⟩) := blk_cell HJ.out 12
  have hkj13 : wq.cell? ⟨gJ, 13, none⟩ = some (.int .i64 0) := blk_cell HJ.out 13
  have hkj14 : wq.cell? ⟨gJ, 14, none⟩ = some (.string ⟨#[]⟩) := blk_cell HJ.out 14
  have hkj15 : wq.cell? ⟨gJ, 15, none⟩ = some (.int .i64 0) := blk_cell HJ.out 15
  have hkj16 : wq.cell? ⟨gJ, 16, none⟩ = some (.string ⟨#[]⟩) := blk_cell HJ.out 16
  have hkj17 : wq.cell? ⟨gJ, 17, none⟩ = some (.int .i64 0) := blk_cell HJ.out 17
  have hkj18 : wq.cell? ⟨gJ, 18, none⟩ = some (.string ⟨#[118, 46, 98]⟩) := blk_cell HJ.out 18
  have hkj19 : wq.cell? ⟨gJ, 19, none⟩ = some (.slice none 0 0) := blk_cell HJ.out 19
  have hfj9 : wq.frozen? ⟨gJ, 9, none⟩ = false := blk_frozen HJ.out 9
  have hfj10 : wq.frozen? ⟨gJ, 10, none⟩ = false := blk_frozen HJ.out 10
  have hfj11 : wq.frozen? ⟨gJ, 11, none⟩ = false := blk_frozen HJ.out 11
  have hfj12 : wq.frozen? ⟨gJ, 12, none⟩ = false := blk_frozen HJ.out 12
  have hfj13 : wq.frozen? ⟨gJ, 13, none⟩ = false := blk_frozen HJ.out 13
  have hfj14 : wq.frozen? ⟨gJ, 14, none⟩ = false := blk_frozen HJ.out 14
  have hfj15 : wq.frozen? ⟨gJ, 15, none⟩ = false := blk_frozen HJ.out 15
  have hfj16 : wq.frozen? ⟨gJ, 16, none⟩ = false := blk_frozen HJ.out 16
  have hfj17 : wq.frozen? ⟨gJ, 17, none⟩ = false := blk_frozen HJ.out 17
  have hfj18 : wq.frozen? ⟨gJ, 18, none⟩ = false := blk_frozen HJ.out 18
  have hfj19 : wq.frozen? ⟨gJ, 19, none⟩ = false := blk_frozen HJ.out 19
  go_region_held3 (fun w' => w'.cell? ⟨g3, 0, none⟩ = some (.slice (some ⟨gD, 0, none⟩) 2 2) ∧ w'.cell? ⟨gD, 7, none⟩ = some (.slice (some ⟨gJ, 0, none⟩) 3 3))
    (go_keep)
    (first | (go_at_call 22; refine (ref_law _ _).mono ?_; rintro e wf ⟨rfl, hb⟩; have HBE := Aside0.mk hb; obtain ⟨hc, hf⟩ := bcell (below_step (below_drew (Below.refl wq.heap.size wq)) hb); have hj9 := (hc ⟨gJ, 9, none⟩ hltJ).trans hkj9; have hj10 := (hc ⟨gJ, 10, none⟩ hltJ).trans hkj10; have hj11 := (hc ⟨gJ, 11, none⟩ hltJ).trans hkj11; have hj12 := (hc ⟨gJ, 12, none⟩ hltJ).trans hkj12; have hj13 := (hc ⟨gJ, 13, none⟩ hltJ).trans hkj13; have hj14 := (hc ⟨gJ, 14, none⟩ hltJ).trans hkj14; have hj15 := (hc ⟨gJ, 15, none⟩ hltJ).trans hkj15; have hj16 := (hc ⟨gJ, 16, none⟩ hltJ).trans hkj16; have hj17 := (hc ⟨gJ, 17, none⟩ hltJ).trans hkj17; have hj18 := (hc ⟨gJ, 18, none⟩ hltJ).trans hkj18; have hj19 := (hc ⟨gJ, 19, none⟩ hltJ).trans hkj19; have hg9 := (hf ⟨gJ, 9, none⟩ hltJ).trans hfj9; have hg10 := (hf ⟨gJ, 10, none⟩ hltJ).trans hfj10; have hg11 := (hf ⟨gJ, 11, none⟩ hltJ).trans hfj11; have hg12 := (hf ⟨gJ, 12, none⟩ hltJ).trans hfj12; have hg13 := (hf ⟨gJ, 13, none⟩ hltJ).trans hfj13; have hg14 := (hf ⟨gJ, 14, none⟩ hltJ).trans hfj14; have hg15 := (hf ⟨gJ, 15, none⟩ hltJ).trans hfj15; have hg16 := (hf ⟨gJ, 16, none⟩ hltJ).trans hfj16; have hg17 := (hf ⟨gJ, 17, none⟩ hltJ).trans hfj17; have hg18 := (hf ⟨gJ, 18, none⟩ hltJ).trans hfj18; have hg19 := (hf ⟨gJ, 19, none⟩ hltJ).trans hfj19))
  rename_i hH_
  clear hH_ hk3 hkD hltJ hlt3 hltD hne1 hne1' hne2 hne2' hc hf
  clear hkj9 hfj9 hj9 hg9 hkj10 hfj10 hj10 hg10 hkj11 hfj11 hj11 hg11 hkj12 hfj12 hj12 hg12 hkj13 hfj13 hj13 hg13 hkj14 hfj14 hj14 hg14 hkj15 hfj15 hj15 hg15 hkj16 hfj16 hj16 hg16 hkj17 hfj17 hj17 hg17 hkj18 hfj18 hj18 hg18 hkj19 hfj19 hj19 hg19
  replace HBE := Aside0.mk (below_step (below_drew (Below.refl wq.heap.size wq)) HBE.out)
  replace HN := Aside0.mk (blk_below HN.out HBE.out)
  replace HP_ := Aside0.mk (blk_below HP_.out HBE.out)
  replace HI := Aside0.mk (blk_below HI.out HBE.out)
  replace HM := Aside0.mk (blk_below HM.out HBE.out)
  replace HBI := Aside0.mk (blk_below HBI.out HBE.out)
  replace HJ := Aside0.mk (blk_below HJ.out HBE.out)
  replace HD := Aside0.mk (blk_below HD.out HBE.out)
  replace BK3 := Aside0.mk (blk_below BK3.out HBE.out)
  replace HB := Aside0.mk (below_step HB.out HBE.out)
  replace HB3 := Aside0.mk (below_step HB3.out HBE.out)
  clear HBE
  obtain ⟨cur_, hl_, hbx_, hfar_, hbel_⟩ := store_in (i := 9) [.int .i64 2, .string ⟨#[]⟩, .int .i64 0, .string ⟨#[]⟩, .int .i64 0, .string ⟨#[]⟩, .int .i64 0, .string ⟨#[]⟩, .int .i64 0, .string ⟨#[118, 46, 97]⟩, .slice none 0 0] HJ.out (Nat.le_of_ble_eq_true rfl)
  obtain rfl : cur_ = #[.int .i64 1, .string ⟨#[119]⟩, .string ⟨#[]⟩, .int .i64 1, .string ⟨#[]⟩, .int .i64 0, .string ⟨#[]⟩, .slice none 0 0, .slice none 0 0, .int .i64 2, .string ⟨#[]⟩, .int .i64 0, .string ⟨#[]⟩, .int .i64 0, .string ⟨#[]⟩, .int .i64 0, .string ⟨#[]⟩, .int .i64 0, .string ⟨#[118, 46, 97]⟩, .slice none 0 0, .int .i64 0, .string ⟨#[]⟩, .int .i64 0, .string ⟨#[]⟩, .int .i64 0, .string ⟨#[]⟩, .int .i64 0, .string ⟨#[]⟩, .int .i64 0, .string ⟨#[]⟩, .slice none 0 0, .int .i64 0, .string ⟨#[]⟩, .int .i64 0, .string ⟨#[]⟩, .int .i64 0, .string ⟨#[]⟩, .int .i64 0, .string ⟨#[]⟩, .int .i64 0, .string ⟨#[]⟩, .slice none 0 0, .int .i64 7, .string ⟨#[118]⟩, .string ⟨#[]⟩, .int .i64 0, .string ⟨#[]⟩, .int .i64 0, .string ⟨#[117]⟩, .slice (some ⟨gM, 0, none⟩) 1 1, .slice (some ⟨gB, 0, none⟩) 1 1, .int .i64 0, .string ⟨#[]⟩, .int .i64 0, .string ⟨#[]⟩, .int .i64 0, .string ⟨#[]⟩, .int .i64 0, .string ⟨#[]⟩, .int .i64 0, .string ⟨#[]⟩, .slice none 0 0, .int .i64 0, .string ⟨#[]⟩, .int .i64 0, .string ⟨#[]⟩, .int .i64 0, .string ⟨#[]⟩, .int .i64 0, .string ⟨#[]⟩, .int .i64 0, .string ⟨#[]⟩, .slice none 0 0, .int .i64 0, .string ⟨#[]⟩, .int .i64 0, .string ⟨#[]⟩, .int .i64 0, .string ⟨#[]⟩, .int .i64 0, .string ⟨#[]⟩, .int .i64 0, .string ⟨#[]⟩, .slice none 0 0, .int .i64 8, .string ⟨#[112]⟩, .string ⟨#[]⟩, .int .i64 0, .string ⟨#[]⟩, .int .i64 0, .string ⟨#[]⟩, .slice none 0 0, .slice none 0 0, .int .i64 2, .string ⟨#[]⟩, .int .i64 0, .string ⟨#[]⟩, .int .i64 0, .string ⟨#[]⟩, .int .i64 0, .string ⟨#[]⟩, .int .i64 0, .string ⟨#[118]⟩, .slice none 0 0, .int .i64 0, .string ⟨#[]⟩, .int .i64 0, .string ⟨#[]⟩, .int .i64 0, .string ⟨#[]⟩, .int .i64 0, .string ⟨#[]⟩, .int .i64 0, .string ⟨#[]⟩, .slice none 0 0, .int .i64 0, .string ⟨#[]⟩, .int .i64 0, .string ⟨#[]⟩, .int .i64 0, .string ⟨#[]⟩, .int .i64 0, .string ⟨#[]⟩, .int .i64 0, .string ⟨#[]⟩, .slice none 0 0] := Array.toList_inj.1 (hl_.trans (by rfl))
  clear hl_
  have hW_ : (World.setCell (World.setCell (World.setCell (World.setCell (World.setCell (World.setCell (World.setCell (World.setCell (World.setCell (World.setCell (World.setCell wf ⟨gJ, 9, none⟩ (.int .i64 2)) ⟨gJ, 10, none⟩ (.string ⟨#[]⟩)) ⟨gJ, 11, none⟩ (.int .i64 0)) ⟨gJ, 12, none⟩ (.string ⟨#[]⟩)) ⟨gJ, 13, none⟩ (.int .i64 0)) ⟨gJ, 14, none⟩ (.string ⟨#[]⟩)) ⟨gJ, 15, none⟩ (.int .i64 0)) ⟨gJ, 16, none⟩ (.string ⟨#[]⟩)) ⟨gJ, 17, none⟩ (.int .i64 0)) ⟨gJ, 18, none⟩ (.string ⟨#[118, 46, 97]⟩)) ⟨gJ, 19, none⟩ (.slice none 0 0)) = wf.setCells gJ 9 [.int .i64 2, .string ⟨#[]⟩, .int .i64 0, .string ⟨#[]⟩, .int .i64 0, .string ⟨#[]⟩, .int .i64 0, .string ⟨#[]⟩, .int .i64 0, .string ⟨#[118, 46, 97]⟩, .slice none 0 0] := rfl
  rw [hW_]
  clear hW_
  generalize wf.setCells gJ 9 [.int .i64 2, .string ⟨#[]⟩, .int .i64 0, .string ⟨#[]⟩, .int .i64 0, .string ⟨#[]⟩, .int .i64 0, .string ⟨#[]⟩, .int .i64 0, .string ⟨#[118, 46, 97]⟩, .slice none 0 0] = wr at hbx_ hfar_ hbel_ ⊢
  replace HN := Aside0.mk ((hfar_ _ (blk_ne HN.out HJ.out (by decide))).trans HN.out)
  replace HP_ := Aside0.mk ((hfar_ _ (blk_ne HP_.out HJ.out (by decide))).trans HP_.out)
  replace HI := Aside0.mk ((hfar_ _ HNE.out).trans HI.out)
  replace HM := Aside0.mk ((hfar_ _ (blk_ne HM.out HJ.out (by decide))).trans HM.out)
  replace HBI := Aside0.mk ((hfar_ _ (blk_ne HBI.out HJ.out (by decide))).trans HBI.out)
  replace HD := Aside0.mk ((hfar_ _ (blk_ne HD.out HJ.out (by decide))).trans HD.out)
  replace BK3 := Aside0.mk ((hfar_ _ (blk_ne BK3.out HJ.out (by decide))).trans BK3.out)
  replace HJ := Aside0.mk (hbx_)
  replace HB : Aside0 (Below w.heap.size w wr) := ⟨hbel_ _ GJ_HB.out w HB.out⟩
  replace HB3 : Aside0 (Below w3.heap.size w3 wr) := ⟨hbel_ _ GJ_HB3.out w3 HB3.out⟩
  clear hbx_ hfar_ hbel_
  have hk3 : wr.cell? ⟨g3, 0, none⟩ = some (.slice (some ⟨gD, 0, none⟩) 2 2) := blk_cell BK3.out 0
  have HCD := Aside0.mk (pairC ⟨#[110]⟩ ⟨#[118, 46, 97]⟩ ⟨#[118]⟩ ⟨#[97]⟩ ⟨#[112]⟩ wr gN gP gI gM gB gJ gD HN.out HP_.out HI.out HM.out HBI.out HJ.out HD.out)
  clear HN HP_ HI HM HBI HJ HD HNE GJ_HB GJ_HB3
  go_wp2_with fail
  refine (check_pair _ _ _ _ _ _ _ HCD.out (by decide) (by decide) (by decide) (by decide) _ d1_told).mono ?_
  rintro e w8 ⟨BA, bc, rfl, _, hbC, hb⟩
  clear hk3
  replace HB := Aside0.mk (below_step HB.out hb)
  replace HNC := Aside0.mk (Kd.C_below HNC.out (below_step HB3.out hb))
  replace HCD := Aside0.mk (Kd.C_below HCD.out hb)
  have HBC := Aside0.mk hbC
  replace BK3 := Aside0.mk (blk_below BK3.out hb)
  have HB8 : Aside0 (Below w8.heap.size w8 w8) := ⟨Below.refl _ _⟩
  clear HB3 hb hbC
  go_wp2_with fail
  refine (pair_law _).mono ?_
  rintro e w9 ⟨gN2, gP2, gI2, gM2, gB2, gJ2, gD2, ⟨he⟩, HP⟩
  obtain rfl := he
  have HN : Aside0 (w9.heap[gN2]? = some (.cells #[.string ⟨#[110]⟩] 9 (0, 0))) := ⟨HP.out.hN⟩
  have HP_ : Aside0 (w9.heap[gP2]? = some (.cells #[.bool true, .string ⟨#[97]⟩, .string ⟨#[110]⟩, .int .i64 0, .bool false, .string ⟨#[98]⟩, .string ⟨#[]⟩, .int .i64 1] 59 (0, 0))) := ⟨HP.out.hP⟩
  have HI : Aside0 (w9.heap[gI2]? = some (.cells #[.int .i64 4, .string ⟨#[98]⟩, .string ⟨#[]⟩, .int .i64 0, .string ⟨#[]⟩, .int .i64 0, .string ⟨#[]⟩, .slice none 0 0, .slice none 0 0, .int .i64 2, .string ⟨#[]⟩, .int .i64 0, .string ⟨#[]⟩, .int .i64 0, .string ⟨#[]⟩, .int .i64 0, .string ⟨#[]⟩, .int .i64 0, .string ⟨#[97]⟩, .slice none 0 0, .int .i64 0, .string ⟨#[]⟩, .int .i64 0, .string ⟨#[]⟩, .int .i64 0, .string ⟨#[]⟩, .int .i64 0, .string ⟨#[]⟩, .int .i64 0, .string ⟨#[]⟩, .slice none 0 0, .int .i64 0, .string ⟨#[]⟩, .int .i64 0, .string ⟨#[]⟩, .int .i64 0, .string ⟨#[]⟩, .int .i64 0, .string ⟨#[]⟩, .int .i64 0, .string ⟨#[]⟩, .slice none 0 0] 49 (0, 0))) := ⟨HP.out.hI⟩
  have HM : Aside0 (w9.heap[gM2]? = some (.cells #[.string ⟨#[]⟩, .int .i64 1] 42 (0, 0))) := ⟨HP.out.hM⟩
  have HBI : Aside0 (w9.heap[gB2]? = some (.cells #[.string ⟨#[97]⟩, .int .i64 1, .string ⟨#[]⟩, .int .i64 1, .string ⟨#[]⟩, .int .i64 1, .string ⟨#[]⟩, .int .i64 0, .string ⟨#[]⟩, .int .i64 0, .string ⟨#[]⟩, .slice none 0 0] 64 (0, 0))) := ⟨HP.out.hB⟩
  have HJ : Aside0 (w9.heap[gJ2]? = some (.cells #[.int .i64 1, .string ⟨#[119]⟩, .string ⟨#[]⟩, .int .i64 1, .string ⟨#[]⟩, .int .i64 0, .string ⟨#[]⟩, .slice none 0 0, .slice none 0 0, .int .i64 2, .string ⟨#[]⟩, .int .i64 0, .string ⟨#[]⟩, .int .i64 0, .string ⟨#[]⟩, .int .i64 0, .string ⟨#[]⟩, .int .i64 0, .string ⟨#[118, 46, 98]⟩, .slice none 0 0, .int .i64 0, .string ⟨#[]⟩, .int .i64 0, .string ⟨#[]⟩, .int .i64 0, .string ⟨#[]⟩, .int .i64 0, .string ⟨#[]⟩, .int .i64 0, .string ⟨#[]⟩, .slice none 0 0, .int .i64 0, .string ⟨#[]⟩, .int .i64 0, .string ⟨#[]⟩, .int .i64 0, .string ⟨#[]⟩, .int .i64 0, .string ⟨#[]⟩, .int .i64 0, .string ⟨#[]⟩, .slice none 0 0, .int .i64 7, .string ⟨#[118]⟩, .string ⟨#[]⟩, .int .i64 0, .string ⟨#[]⟩, .int .i64 0, .string ⟨#[117]⟩, .slice (some ⟨gM2, 0, none⟩) 1 1, .slice (some ⟨gB2, 0, none⟩) 1 1, .int .i64 0, .string ⟨#[]⟩, .int .i64 0, .string ⟨#[]⟩, .int .i64 0, .string ⟨#[]⟩, .int .i64 0, .string ⟨#[]⟩, .int .i64 0, .string ⟨#[]⟩, .slice none 0 0, .int .i64 0, .string ⟨#[]⟩, .int .i64 0, .string ⟨#[]⟩, .int .i64 0, .string ⟨#[]⟩, .int .i64 0, .string ⟨#[]⟩, .int .i64 0, .string ⟨#[]⟩, .slice none 0 0, .int .i64 0, .string ⟨#[]⟩, .int .i64 0, .string ⟨#[]⟩, .int .i64 0, .string ⟨#[]⟩, .int .i64 0, .string ⟨#[]⟩, .int .i64 0, .string ⟨#[]⟩, .slice none 0 0, .int .i64 8, .string ⟨#[112]⟩, .string ⟨#[]⟩, .int .i64 0, .string ⟨#[]⟩, .int .i64 0, .string ⟨#[]⟩, .slice none 0 0, .slice none 0 0, .int .i64 2, .string ⟨#[]⟩, .int .i64 0, .string ⟨#[]⟩, .int .i64 0, .string ⟨#[]⟩, .int .i64 0, .string ⟨#[]⟩, .int .i64 0, .string ⟨#[119]⟩, .slice none 0 0, .int .i64 0, .string ⟨#[]⟩, .int .i64 0, .string ⟨#[]⟩, .int .i64 0, .string ⟨#[]⟩, .int .i64 0, .string ⟨#[]⟩, .int .i64 0, .string ⟨#[]⟩, .slice none 0 0, .int .i64 0, .string ⟨#[]⟩, .int .i64 0, .string ⟨#[]⟩, .int .i64 0, .string ⟨#[]⟩, .int .i64 0, .string ⟨#[]⟩, .int .i64 0, .string ⟨#[]⟩, .slice none 0 0] 49 (0, 0))) := ⟨HP.out.hJ⟩
  have HD : Aside0 (w9.heap[gD2]? = some (.cells #[.string ⟨#[117]⟩, .slice (some ⟨gN2, 0, none⟩) 1 1, .slice (some ⟨gP2, 0, none⟩) 2 2, .slice (some ⟨gI2, 0, none⟩) 1 1, .string ⟨#[116]⟩, .slice none 0 0, .slice none 0 0, .slice (some ⟨gJ2, 0, none⟩) 3 3] 34 (0, 0))) := ⟨HP.out.hD⟩
  have HW8 : Aside0 (w.heap.size ≤ w8.heap.size) := ⟨below_size HB.out⟩
  have HGE := HP.out.ge
  have GB_HB8 : Aside0 (w8.heap.size ≤ gB2) := ⟨HGE.2.2.2.2.1⟩
  have GJ_HB8 : Aside0 (w8.heap.size ≤ gJ2) := ⟨HGE.2.2.2.2.2.1⟩
  have GP_HB8 : Aside0 (w8.heap.size ≤ gP2) := ⟨HGE.2.1⟩
  have GB_HB : Aside0 (w.heap.size ≤ gB2) := ⟨Nat.le_trans HW8.out GB_HB8.out⟩
  have GJ_HB : Aside0 (w.heap.size ≤ gJ2) := ⟨Nat.le_trans HW8.out GJ_HB8.out⟩
  have GP_HB : Aside0 (w.heap.size ≤ gP2) := ⟨Nat.le_trans HW8.out GP_HB8.out⟩
  have HNE : Aside0 (gI2 ≠ gJ2) := ⟨HP.out.ne⟩
  replace HB := Aside0.mk (below_step HB.out HP.out.b)
  replace HB8 := Aside0.mk HP.out.b
  clear HP HW8 HGE
  go_wp2_with (first | ((with_reducible refine gate_dst (N := 5) rfl ?_); refine box_event ?hg (N := 5) ?hd (cs := #[.slice none 0 0]) (t := 24) ?hr ?_; (case hd => rfl); (case hg => rfl); (case hr => first | (go_simp; done) | (go_simp; rfl)); intro g5 hg_ wc hbox_ hb_; replace HN := Aside0.mk (blk_below HN.out hb_); replace HP_ := Aside0.mk (blk_below HP_.out hb_); replace HI := Aside0.mk (blk_below HI.out hb_); replace HM := Aside0.mk (blk_below HM.out hb_); replace HBI := Aside0.mk (blk_below HBI.out hb_); replace HJ := Aside0.mk (blk_below HJ.out hb_); replace HD := Aside0.mk (blk_below HD.out hb_); have BZ5 := Aside0.mk (hbox_); have GBZ5_HB : Aside0 (w.heap.size ≤ g5) := ⟨by rw [hg_]; exact below_size HB.out⟩; have GBZ5_HB8 : Aside0 (w8.heap.size ≤ g5) := ⟨by rw [hg_]; exact below_size HB8.out⟩; replace HB : Aside0 (Below w.heap.size w wc) := ⟨below_step HB.out hb_⟩; replace HB8 : Aside0 (Below w8.heap.size w8 wc) := ⟨below_step HB8.out hb_⟩; clear hg_ hbox_ hb_) | ((with_reducible refine gate_ (.store 24 (.tmp 5) (.tmp 39)) rfl ?_); refine wpList_store_box rfl rfl 24 (.tmp 5) (.tmp 39) rfl (g := g5) (e := 24) [.slice (some ⟨gD2, 0, none⟩) 2 2] rfl rfl BZ5.out rfl ?hq9 ?h1 ?_; (case hq9 => kernel_rfl); (case h1 => simp [Value.oneCell']); intro wd hbx_ hfar_ hsz_ hbel_; replace HN := Aside0.mk ((hfar_ _ (blk_ne HN.out BZ5.out (by decide))).trans HN.out); replace HP_ := Aside0.mk ((hfar_ _ (blk_ne HP_.out BZ5.out (by decide))).trans HP_.out); replace HI := Aside0.mk ((hfar_ _ (blk_ne HI.out BZ5.out (by decide))).trans HI.out); replace HM := Aside0.mk ((hfar_ _ (blk_ne HM.out BZ5.out (by decide))).trans HM.out); replace HBI := Aside0.mk ((hfar_ _ (blk_ne HBI.out BZ5.out (by decide))).trans HBI.out); replace HJ := Aside0.mk ((hfar_ _ (blk_ne HJ.out BZ5.out (by decide))).trans HJ.out); replace HD := Aside0.mk ((hfar_ _ (blk_ne HD.out BZ5.out (by decide))).trans HD.out); have BK5 := Aside0.mk (hbx_); replace HB : Aside0 (Below w.heap.size w wd) := ⟨hbel_ _ GBZ5_HB.out w HB.out⟩; replace HB8 : Aside0 (Below w8.heap.size w8 wd) := ⟨hbel_ _ GBZ5_HB8.out w8 HB8.out⟩; have hk5_0 : wd.cell? ⟨g5, 0, none⟩ = some (.slice (some ⟨gD2, 0, none⟩) 2 2) := blk_cell BK5.out 0; have hkd_2 : wd.cell? ⟨gD2, 2, none⟩ = some (.slice (some ⟨gP2, 0, none⟩) 2 2) := blk_cell HD.out 2; have hkd_7 : wd.cell? ⟨gD2, 7, none⟩ = some (.slice (some ⟨gJ2, 0, none⟩) 3 3) := blk_cell HD.out 7; have hkj_50 : wd.cell? ⟨gJ2, 50, none⟩ = some (.slice (some ⟨gB2, 0, none⟩) 1 1) := blk_cell HJ.out 50; clear hbx_ hfar_ hsz_ hbel_ BZ5) | ((with_reducible refine gate_ (.store 9 (.tmp 49) (.const (.string ⟨#[98]⟩))) rfl ?_); refine wpList_store_at rfl rfl 9 (.tmp 49) (.const (.string ⟨#[98]⟩)) rfl (g := gB2) (i := 0) (e := 64) _ [.string ⟨#[98]⟩] ?hu rfl rfl HBI.out ?hs ?hq9 ?h1 ?_; (case hu => rfl); (case hs => exact Nat.le_of_ble_eq_true rfl); (case hq9 => kernel_rfl); (case h1 => simp [Value.oneCell']); intro wg cur_ hl_ hbx_ hfar_ hsz_ hbel_; obtain rfl : cur_ = #[.string ⟨#[98]⟩, .int .i64 1, .string ⟨#[]⟩, .int .i64 1, .string ⟨#[]⟩, .int .i64 1, .string ⟨#[]⟩, .int .i64 0, .string ⟨#[]⟩, .int .i64 0, .string ⟨#[]⟩, .slice none 0 0] := Array.toList_inj.1 (hl_.trans (by rfl)); replace HN := Aside0.mk ((hfar_ _ (blk_ne HN.out HBI.out (by decide))).trans HN.out); replace HP_ := Aside0.mk ((hfar_ _ (blk_ne HP_.out HBI.out (by decide))).trans HP_.out); replace HI := Aside0.mk ((hfar_ _ (blk_ne HI.out HBI.out (by decide))).trans HI.out); replace HM := Aside0.mk ((hfar_ _ (blk_ne HM.out HBI.out (by decide))).trans HM.out); replace HJ := Aside0.mk ((hfar_ _ (blk_ne HJ.out HBI.out (by decide))).trans HJ.out); replace HD := Aside0.mk ((hfar_ _ (blk_ne HD.out HBI.out (by decide))).trans HD.out); replace BK5 := Aside0.mk ((hfar_ _ (blk_ne BK5.out HBI.out (by decide))).trans BK5.out); replace HBI := Aside0.mk (hbx_); replace HB : Aside0 (Below w.heap.size w wg) := ⟨hbel_ _ GB_HB.out w HB.out⟩; replace HB8 : Aside0 (Below w8.heap.size w8 wg) := ⟨hbel_ _ GB_HB8.out w8 HB8.out⟩; clear hk5_0 hkd_2 hkd_7 hkj_50; have hk5_0 : wg.cell? ⟨g5, 0, none⟩ = some (.slice (some ⟨gD2, 0, none⟩) 2 2) := blk_cell BK5.out 0; have hkd_2 : wg.cell? ⟨gD2, 2, none⟩ = some (.slice (some ⟨gP2, 0, none⟩) 2 2) := blk_cell HD.out 2; have hkd_7 : wg.cell? ⟨gD2, 7, none⟩ = some (.slice (some ⟨gJ2, 0, none⟩) 3 3) := blk_cell HD.out 7; have hkj_50 : wg.cell? ⟨gJ2, 50, none⟩ = some (.slice (some ⟨gB2, 0, none⟩) 1 1) := blk_cell HJ.out 50; clear hl_ hbx_ hfar_ hsz_ hbel_) | ((with_reducible refine gate_ (.store 9 (.tmp 57) (.const (.string ⟨#[109]⟩))) rfl ?_); refine wpList_store_at rfl rfl 9 (.tmp 57) (.const (.string ⟨#[109]⟩)) rfl (g := gP2) (i := 2) (e := 59) _ [.string ⟨#[109]⟩] ?hu rfl rfl HP_.out ?hs ?hq9 ?h1 ?_; (case hu => rfl); (case hs => exact Nat.le_of_ble_eq_true rfl); (case hq9 => kernel_rfl); (case h1 => simp [Value.oneCell']); intro wh cur_ hl_ hbx_ hfar_ hsz_ hbel_; obtain rfl : cur_ = #[.bool true, .string ⟨#[97]⟩, .string ⟨#[109]⟩, .int .i64 0, .bool false, .string ⟨#[98]⟩, .string ⟨#[]⟩, .int .i64 1] := Array.toList_inj.1 (hl_.trans (by rfl)); replace HN := Aside0.mk ((hfar_ _ (blk_ne HN.out HP_.out (by decide))).trans HN.out); replace HI := Aside0.mk ((hfar_ _ (blk_ne HI.out HP_.out (by decide))).trans HI.out); replace HM := Aside0.mk ((hfar_ _ (blk_ne HM.out HP_.out (by decide))).trans HM.out); replace HBI := Aside0.mk ((hfar_ _ (blk_ne HBI.out HP_.out (by decide))).trans HBI.out); replace HJ := Aside0.mk ((hfar_ _ (blk_ne HJ.out HP_.out (by decide))).trans HJ.out); replace HD := Aside0.mk ((hfar_ _ (blk_ne HD.out HP_.out (by decide))).trans HD.out); replace BK5 := Aside0.mk ((hfar_ _ (blk_ne BK5.out HP_.out (by decide))).trans BK5.out); replace HP_ := Aside0.mk (hbx_); replace HB : Aside0 (Below w.heap.size w wh) := ⟨hbel_ _ GP_HB.out w HB.out⟩; replace HB8 : Aside0 (Below w8.heap.size w8 wh) := ⟨hbel_ _ GP_HB8.out w8 HB8.out⟩; clear hk5_0 hkd_2 hkd_7 hkj_50; have hk5_0 : wh.cell? ⟨g5, 0, none⟩ = some (.slice (some ⟨gD2, 0, none⟩) 2 2) := blk_cell BK5.out 0; have hkd_2 : wh.cell? ⟨gD2, 2, none⟩ = some (.slice (some ⟨gP2, 0, none⟩) 2 2) := blk_cell HD.out 2; have hkd_7 : wh.cell? ⟨gD2, 7, none⟩ = some (.slice (some ⟨gJ2, 0, none⟩) 3 3) := blk_cell HD.out 7; have hkj_50 : wh.cell? ⟨gJ2, 50, none⟩ = some (.slice (some ⟨gB2, 0, none⟩) 1 1) := blk_cell HJ.out 50; clear hl_ hbx_ hfar_ hsz_ hbel_) | ((with_reducible refine gate_ (.store 9 (.tmp 64) (.const (.string ⟨#[119]⟩))) rfl ?_); refine wpList_store_at rfl rfl 9 (.tmp 64) (.const (.string ⟨#[119]⟩)) rfl (g := gJ2) (i := 85) (e := 49) _ [.string ⟨#[119]⟩] ?hu rfl rfl HJ.out ?hs ?hq9 ?h1 ?_; (case hu => rfl); (case hs => exact Nat.le_of_ble_eq_true rfl); (case hq9 => kernel_rfl); (case h1 => simp [Value.oneCell']); intro wi cur_ hl_ hbx_ hfar_ hsz_ hbel_; obtain rfl : cur_ = #[.int .i64 1, .string ⟨#[119]⟩, .string ⟨#[]⟩, .int .i64 1, .string ⟨#[]⟩, .int .i64 0, .string ⟨#[]⟩, .slice none 0 0, .slice none 0 0, .int .i64 2, .string ⟨#[]⟩, .int .i64 0, .string ⟨#[]⟩, .int .i64 0, .string ⟨#[]⟩, .int .i64 0, .string ⟨#[]⟩, .int .i64 0, .string ⟨#[118, 46, 98]⟩, .slice none 0 0, .int .i64 0, .string ⟨#[]⟩, .int .i64 0, .string ⟨#[]⟩, .int .i64 0, .string ⟨#[]⟩, .int .i64 0, .string ⟨#[]⟩, .int .i64 0, .string ⟨#[]⟩, .slice none 0 0, .int .i64 0, .string ⟨#[]⟩, .int .i64 0, .string ⟨#[]⟩, .int .i64 0, .string ⟨#[]⟩, .int .i64 0, .string ⟨#[]⟩, .int .i64 0, .string ⟨#[]⟩, .slice none 0 0, .int .i64 7, .string ⟨#[118]⟩, .string ⟨#[]⟩, .int .i64 0, .string ⟨#[]⟩, .int .i64 0, .string ⟨#[117]⟩, .slice (some ⟨gM2, 0, none⟩) 1 1, .slice (some ⟨gB2, 0, none⟩) 1 1, .int .i64 0, .string ⟨#[]⟩, .int .i64 0, .string ⟨#[]⟩, .int .i64 0, .string ⟨#[]⟩, .int .i64 0, .string ⟨#[]⟩, .int .i64 0, .string ⟨#[]⟩, .slice none 0 0, .int .i64 0, .string ⟨#[]⟩, .int .i64 0, .string ⟨#[]⟩, .int .i64 0, .string ⟨#[]⟩, .int .i64 0, .string ⟨#[]⟩, .int .i64 0, .string ⟨#[]⟩, .slice none 0 0, .int .i64 0, .string ⟨#[]⟩, .int .i64 0, .string ⟨#[]⟩, .int .i64 0, .string ⟨#[]⟩, .int .i64 0, .string ⟨#[]⟩, .int .i64 0, .string ⟨#[]⟩, .slice none 0 0, .int .i64 8, .string ⟨#[119]⟩, .string ⟨#[]⟩, .int .i64 0, .string ⟨#[]⟩, .int .i64 0, .string ⟨#[]⟩, .slice none 0 0, .slice none 0 0, .int .i64 2, .string ⟨#[]⟩, .int .i64 0, .string ⟨#[]⟩, .int .i64 0, .string ⟨#[]⟩, .int .i64 0, .string ⟨#[]⟩, .int .i64 0, .string ⟨#[119]⟩, .slice none 0 0, .int .i64 0, .string ⟨#[]⟩, .int .i64 0, .string ⟨#[]⟩, .int .i64 0, .string ⟨#[]⟩, .int .i64 0, .string ⟨#[]⟩, .int .i64 0, .string ⟨#[]⟩, .slice none 0 0, .int .i64 0, .string ⟨#[]⟩, .int .i64 0, .string ⟨#[]⟩, .int .i64 0, .string ⟨#[]⟩, .int .i64 0, .string ⟨#[]⟩, .int .i64 0, .string ⟨#[]⟩, .slice none 0 0] := Array.toList_inj.1 (hl_.trans (by rfl)); replace HN := Aside0.mk ((hfar_ _ (blk_ne HN.out HJ.out (by decide))).trans HN.out); replace HP_ := Aside0.mk ((hfar_ _ (blk_ne HP_.out HJ.out (by decide))).trans HP_.out); replace HI := Aside0.mk ((hfar_ _ HNE.out).trans HI.out); replace HM := Aside0.mk ((hfar_ _ (blk_ne HM.out HJ.out (by decide))).trans HM.out); replace HBI := Aside0.mk ((hfar_ _ (blk_ne HBI.out HJ.out (by decide))).trans HBI.out); replace HD := Aside0.mk ((hfar_ _ (blk_ne HD.out HJ.out (by decide))).trans HD.out); replace BK5 := Aside0.mk ((hfar_ _ (blk_ne BK5.out HJ.out (by decide))).trans BK5.out); replace HJ := Aside0.mk (hbx_); replace HB : Aside0 (Below w.heap.size w wi) := ⟨hbel_ _ GJ_HB.out w HB.out⟩; replace HB8 : Aside0 (Below w8.heap.size w8 wi) := ⟨hbel_ _ GJ_HB8.out w8 HB8.out⟩; clear hk5_0 hkd_2 hkd_7 hkj_50; have hk5_0 : wi.cell? ⟨g5, 0, none⟩ = some (.slice (some ⟨gD2, 0, none⟩) 2 2) := blk_cell BK5.out 0; have hkd_2 : wi.cell? ⟨gD2, 2, none⟩ = some (.slice (some ⟨gP2, 0, none⟩) 2 2) := blk_cell HD.out 2; have hkd_7 : wi.cell? ⟨gD2, 7, none⟩ = some (.slice (some ⟨gJ2, 0, none⟩) 3 3) := blk_cell HD.out 7; have hkj_50 : wi.cell? ⟨gJ2, 50, none⟩ = some (.slice (some ⟨gB2, 0, none⟩) 1 1) := blk_cell HJ.out 50; clear hl_ hbx_ hfar_ hsz_ hbel_))
  have HCE := Aside0.mk (pairC ⟨#[109]⟩ ⟨#[118, 46, 98]⟩ ⟨#[119]⟩ ⟨#[98]⟩ ⟨#[119]⟩ wi gN2 gP2 gI2 gM2 gB2 gJ2 gD2 HN.out HP_.out HI.out HM.out HBI.out HJ.out HD.out)
  clear HN HP_ HI HM HBI HJ HD HNE GJ_HB GJ_HB8 GB_HB GB_HB8 GP_HB GP_HB8 BK5 hk5_0 hkd_2 hkd_7 hkj_50
  refine (check_pair _ _ _ _ _ _ _ HCE.out (by decide) (by decide) (by decide) (by decide) _ d2_told).mono ?_
  rintro e w12 ⟨CA, cc, rfl, _, hcC, hb⟩
  replace HB := Aside0.mk (below_step HB.out hb)
  replace HB8 := Aside0.mk (below_step HB8.out hb)
  have HCC := Aside0.mk hcC
  replace BK3 := Aside0.mk (blk_below BK3.out HB8.out)
  replace HNC := Aside0.mk (Kd.C_below HNC.out HB8.out)
  replace HBC := Aside0.mk (Kd.C_below HBC.out HB8.out)
  replace HCD := Aside0.mk (Kd.C_below HCD.out HB8.out)
  clear HB8 hb hcC HCE
  have hk3 : w12.cell? ⟨g3, 0, none⟩ = some (.slice (some ⟨gD, 0, none⟩) 2 2) := blk_cell BK3.out 0
  have HK0 : Aside0 (∃ M1 d1 M2 d2 M3 d3, k34.K w12 (uM ⟨#[110]⟩) [.string (uM ⟨#[110]⟩).f0, .slice M1 (uM ⟨#[110]⟩).f1.length d1, .slice M2 (uM ⟨#[110]⟩).f2.length d2, .slice M3 (uM ⟨#[110]⟩).f3.length d3] ∧ ∀ w', Below w12.heap.size w12 w' → ∀ (j : Nat) v, ([.string (uM ⟨#[110]⟩).f0, .slice M1 (uM ⟨#[110]⟩).f1.length d1, .slice M2 (uM ⟨#[110]⟩).f2.length d2, .slice M3 (uM ⟨#[110]⟩).f3.length d3] : List Value)[j]? = some v → w'.cell? ((⟨gD, 0, none⟩ : Addr).add j) = some v) := ⟨by
    obtain ⟨ad, cm, he, hK, hc⟩ := el_get (l := [uM ⟨#[110]⟩, tM ⟨#[118, 46, 97]⟩ ⟨#[118]⟩ ⟨#[97]⟩ ⟨#[112]⟩]) HCD.out 0 (by decide)
    cases he
    obtain ⟨M1, d1, M2, d2, M3, d3, rfl, _⟩ := k34_open hK
    exact ⟨M1, d1, M2, d2, M3, d3, hK, hc⟩⟩
  have HK1 : Aside0 (∃ M1 d1 M2 d2 M3 d3, k34.K w12 (tM ⟨#[118, 46, 97]⟩ ⟨#[118]⟩ ⟨#[97]⟩ ⟨#[112]⟩) [.string (tM ⟨#[118, 46, 97]⟩ ⟨#[118]⟩ ⟨#[97]⟩ ⟨#[112]⟩).f0, .slice M1 (tM ⟨#[118, 46, 97]⟩ ⟨#[118]⟩ ⟨#[97]⟩ ⟨#[112]⟩).f1.length d1, .slice M2 (tM ⟨#[118, 46, 97]⟩ ⟨#[118]⟩ ⟨#[97]⟩ ⟨#[112]⟩).f2.length d2, .slice M3 (tM ⟨#[118, 46, 97]⟩ ⟨#[118]⟩ ⟨#[97]⟩ ⟨#[112]⟩).f3.length d3] ∧ ∀ w', Below w12.heap.size w12 w' → ∀ (j : Nat) v, ([.string (tM ⟨#[118, 46, 97]⟩ ⟨#[118]⟩ ⟨#[97]⟩ ⟨#[112]⟩).f0, .slice M1 (tM ⟨#[118, 46, 97]⟩ ⟨#[118]⟩ ⟨#[97]⟩ ⟨#[112]⟩).f1.length d1, .slice M2 (tM ⟨#[118, 46, 97]⟩ ⟨#[118]⟩ ⟨#[97]⟩ ⟨#[112]⟩).f2.length d2, .slice M3 (tM ⟨#[118, 46, 97]⟩ ⟨#[118]⟩ ⟨#[97]⟩ ⟨#[112]⟩).f3.length d3] : List Value)[j]? = some v → w'.cell? ((⟨gD, 4, none⟩ : Addr).add j) = some v) := ⟨by
    obtain ⟨ad, cm, he, hK, hc⟩ := el_get (l := [uM ⟨#[110]⟩, tM ⟨#[118, 46, 97]⟩ ⟨#[118]⟩ ⟨#[97]⟩ ⟨#[112]⟩]) HCD.out 1 (by decide)
    cases he
    obtain ⟨M1, d1, M2, d2, M3, d3, rfl, _⟩ := k34_open hK
    exact ⟨M1, d1, M2, d2, M3, d3, hK, hc⟩⟩
  obtain ⟨M1, d1, M2, d2, M3, d3, hK, hc⟩ := HK0.out
  obtain ⟨T1, e1, T2, e2, T3, e3, hL, hd⟩ := HK1.out
  have HC0 := Aside0.mk hc
  have HD0 := Aside0.mk hd
  have HK0 := Aside0.mk hK
  have HL0 := Aside0.mk hL
  clear hc hd hK hL HK1 HCD
  have HB12 : Aside0 (Below w12.heap.size w12 w12) := ⟨Below.refl _ _⟩
  obtain ⟨UM, hUM⟩ : ∃ m, uM ⟨#[110]⟩ = m := ⟨_, rfl⟩
  obtain ⟨TM, hTM⟩ : ∃ m, tM ⟨#[118, 46, 97]⟩ ⟨#[118]⟩ ⟨#[97]⟩ ⟨#[112]⟩ = m := ⟨_, rfl⟩
  have ku := kind_ub
  have kv := kind_tv
  have kp := kind_tp
  rw [hUM] at HC0 HK0 ku
  rw [hTM] at HD0 HL0 kv kp
  have KU := Aside0.mk ku
  have KV := Aside0.mk kv
  have KP := Aside0.mk kp
  clear ku kv kp hUM hTM
  go_wp2_with (first | ((with_reducible refine gate_dst (N := 71) rfl ?_); refine wpList_load_cells rfl 34 (.tmp 70) rfl _ rfl [.string UM.f0, .slice M1 UM.f1.length d1, .slice M2 UM.f2.length d2, .slice M3 UM.f3.length d3] ?hc _ Try.underlying34 rfl ?hq9 ?_; (case hc => exact HC0.out _ HB12.out); (case hq9 => kernel_rfl)))
  have hq := skind_any UM _ ⟨#[98]⟩ _ (k34.K_below HB12.out HK0.out)
  rw [KU.out] at hq
  refine hq.mono ?_
  clear hq hk3
  rintro e w13 ⟨rfl, hb⟩
  replace HB := Aside0.mk (below_step HB.out hb)
  replace HB12 := Aside0.mk (below_step HB12.out hb)
  have hk3 : w13.cell? ⟨g3, 0, none⟩ = some (.slice (some ⟨gD, 0, none⟩) 2 2) := blk_cell (blk_below BK3.out HB12.out) 0
  clear hb
  go_wp2_with (first | ((with_reducible refine gate_dst (N := 79) rfl ?_); refine wpList_load_cells rfl 34 (.tmp 78) rfl _ rfl [.string TM.f0, .slice T1 TM.f1.length e1, .slice T2 TM.f2.length e2, .slice T3 TM.f3.length e3] ?hc _ Try.underlying34 rfl ?hq9 ?_; (case hc => exact HD0.out _ HB12.out); (case hq9 => kernel_rfl)))
  have hq := skind_any TM _ ⟨#[118]⟩ _ (k34.K_below HB12.out HL0.out)
  rw [KV.out] at hq
  refine hq.mono ?_
  clear hq hk3
  rintro e w14 ⟨rfl, hb⟩
  replace HB := Aside0.mk (below_step HB.out hb)
  replace HB12 := Aside0.mk (below_step HB12.out hb)
  have hk3 : w14.cell? ⟨g3, 0, none⟩ = some (.slice (some ⟨gD, 0, none⟩) 2 2) := blk_cell (blk_below BK3.out HB12.out) 0
  clear hb
  go_wp2_with (first | ((with_reducible refine gate_dst (N := 87) rfl ?_); refine wpList_load_cells rfl 34 (.tmp 86) rfl _ rfl [.string TM.f0, .slice T1 TM.f1.length e1, .slice T2 TM.f2.length e2, .slice T3 TM.f3.length e3] ?hc _ Try.underlying34 rfl ?hq9 ?_; (case hc => exact HD0.out _ HB12.out); (case hq9 => kernel_rfl)))
  have hq := skind_any TM _ ⟨#[112]⟩ _ (k34.K_below HB12.out HL0.out)
  rw [KP.out] at hq
  refine hq.mono ?_
  clear hq hk3
  rintro e w15 ⟨rfl, hb⟩
  replace HB := Aside0.mk (below_step HB.out hb)
  replace HB12 := Aside0.mk (below_step HB12.out hb)
  clear hb HC0 HD0 HK0 HL0 KU KV KP BK3
  go_wp2_with (first | ((with_reducible refine gate_dst (N := 93) rfl ?_); refine lit_event (n := 1) ?hg (N := 93) ?hd (cs := #[.int .i64 51, .int .i64 0, .int .i64 0, .int .i64 (-1)]) (t := 40) ?hr ?_; (case hd => rfl); (case hg => rfl); (case hr => first | (go_simp; done) | (go_simp; rfl)); intro gx hg_ wx1 hbox_ hb_; have HXX := Aside0.mk (hbox_); have GHXX_HB : Aside0 (w.heap.size ≤ gx) := ⟨by rw [hg_]; exact below_size HB.out⟩; have GHXX_HB12 : Aside0 (w12.heap.size ≤ gx) := ⟨by rw [hg_]; exact below_size HB12.out⟩; replace HB : Aside0 (Below w.heap.size w wx1) := ⟨below_step HB.out hb_⟩; replace HB12 : Aside0 (Below w12.heap.size w12 wx1) := ⟨below_step HB12.out hb_⟩; clear hg_ hbox_ hb_))
  have hx_ : Kd.C k40 wx1 (some ⟨gx, 0, none⟩) 1 ([⟨51, 0, 0, -1⟩] : List S40) := C_of_block (d := k40) HXX.out ([⟨51, 0, 0, -1⟩] : List S40) [[.int .i64 51, .int .i64 0, .int .i64 0, .int .i64 (-1)]] rfl (Nat.le_of_ble_eq_true rfl) (fun j p hj => match j, hj with | 0, hj => ⟨_, rfl, by cases hj; exact k40_mk _ _⟩ | j + 1, hj => by simp at hj) (by intro c hc; simp only [List.mem_cons, List.not_mem_nil, or_false] at hc; rcases hc with rfl <;> rfl)
  have hq := same_any NA (some ⟨gx, 0, none⟩) nc 1 ([⟨51, 0, 0, -1⟩] : List S40) ([⟨51, 0, 0, -1⟩] : List S40) _ (Kd.C_below HNC.out HB12.out) hx_
  rw [same_refl] at hq
  refine hq.mono ?_
  clear hq hx_
  rintro e wx2 ⟨rfl, hb⟩
  replace HB := Aside0.mk (below_step HB.out hb)
  replace HB12 := Aside0.mk (below_step HB12.out hb)
  clear hb HXX GHXX_HB GHXX_HB12
  go_wp2_with (first | ((with_reducible refine gate_dst (N := 98) rfl ?_); refine lit_event (n := 2) ?hg (N := 98) ?hd (cs := #[.int .i64 51, .int .i64 0, .int .i64 1, .int .i64 0, .int .i64 52, .int .i64 0, .int .i64 1, .int .i64 2]) (t := 40) ?hr ?_; (case hd => rfl); (case hg => rfl); (case hr => first | (go_simp; done) | (go_simp; rfl)); intro gy hg_ wy1 hbox_ hb_; have HXY := Aside0.mk (hbox_); have GHXY_HB : Aside0 (w.heap.size ≤ gy) := ⟨by rw [hg_]; exact below_size HB.out⟩; have GHXY_HB12 : Aside0 (w12.heap.size ≤ gy) := ⟨by rw [hg_]; exact below_size HB12.out⟩; replace HB : Aside0 (Below w.heap.size w wy1) := ⟨below_step HB.out hb_⟩; replace HB12 : Aside0 (Below w12.heap.size w12 wy1) := ⟨below_step HB12.out hb_⟩; clear hg_ hbox_ hb_))
  have hx_ : Kd.C k40 wy1 (some ⟨gy, 0, none⟩) 2 ([⟨51, 0, 1, 0⟩, ⟨52, 0, 1, 2⟩] : List S40) := C_of_block (d := k40) HXY.out ([⟨51, 0, 1, 0⟩, ⟨52, 0, 1, 2⟩] : List S40) [[.int .i64 51, .int .i64 0, .int .i64 1, .int .i64 0], [.int .i64 52, .int .i64 0, .int .i64 1, .int .i64 2]] rfl (Nat.le_of_ble_eq_true rfl) (fun j p hj => match j, hj with | 0, hj => ⟨_, rfl, by cases hj; exact k40_mk _ _⟩ | 1, hj => ⟨_, rfl, by cases hj; exact k40_mk _ _⟩ | j + 2, hj => by simp at hj) (by intro c hc; simp only [List.mem_cons, List.not_mem_nil, or_false] at hc; rcases hc with rfl | rfl <;> rfl)
  have hq := same_any BA (some ⟨gy, 0, none⟩) bc 2 ([⟨51, 0, 1, 0⟩, ⟨52, 0, 1, 2⟩] : List S40) ([⟨51, 0, 1, 0⟩, ⟨52, 0, 1, 2⟩] : List S40) _ (Kd.C_below HBC.out HB12.out) hx_
  rw [same_refl] at hq
  refine hq.mono ?_
  clear hq hx_
  rintro e wy2 ⟨rfl, hb⟩
  replace HB := Aside0.mk (below_step HB.out hb)
  replace HB12 := Aside0.mk (below_step HB12.out hb)
  clear hb HXY GHXY_HB GHXY_HB12
  go_wp2_with (first | ((with_reducible refine gate_dst (N := 104) rfl ?_); refine lit_event (n := 3) ?hg (N := 104) ?hd (cs := #[.int .i64 40, .int .i64 0, .int .i64 0, .int .i64 (-1), .int .i64 53, .int .i64 0, .int .i64 1, .int .i64 1, .int .i64 50, .int .i64 0, .int .i64 1, .int .i64 2]) (t := 40) ?hr ?_; (case hd => rfl); (case hg => rfl); (case hr => first | (go_simp; done) | (go_simp; rfl)); intro gz hg_ wz1 hbox_ hb_; have HXZ := Aside0.mk (hbox_); have GHXZ_HB : Aside0 (w.heap.size ≤ gz) := ⟨by rw [hg_]; exact below_size HB.out⟩; have GHXZ_HB12 : Aside0 (w12.heap.size ≤ gz) := ⟨by rw [hg_]; exact below_size HB12.out⟩; replace HB : Aside0 (Below w.heap.size w wz1) := ⟨below_step HB.out hb_⟩; replace HB12 : Aside0 (Below w12.heap.size w12 wz1) := ⟨below_step HB12.out hb_⟩; clear hg_ hbox_ hb_))
  have hx_ : Kd.C k40 wz1 (some ⟨gz, 0, none⟩) 3 ([⟨40, 0, 0, -1⟩, ⟨53, 0, 1, 1⟩, ⟨50, 0, 1, 2⟩] : List S40) := C_of_block (d := k40) HXZ.out ([⟨40, 0, 0, -1⟩, ⟨53, 0, 1, 1⟩, ⟨50, 0, 1, 2⟩] : List S40) [[.int .i64 40, .int .i64 0, .int .i64 0, .int .i64 (-1)], [.int .i64 53, .int .i64 0, .int .i64 1, .int .i64 1], [.int .i64 50, .int .i64 0, .int .i64 1, .int .i64 2]] rfl (Nat.le_of_ble_eq_true rfl) (fun j p hj => match j, hj with | 0, hj => ⟨_, rfl, by cases hj; exact k40_mk _ _⟩ | 1, hj => ⟨_, rfl, by cases hj; exact k40_mk _ _⟩ | 2, hj => ⟨_, rfl, by cases hj; exact k40_mk _ _⟩ | j + 3, hj => by simp at hj) (by intro c hc; simp only [List.mem_cons, List.not_mem_nil, or_false] at hc; rcases hc with rfl | rfl | rfl <;> rfl)
  have hq := same_any CA (some ⟨gz, 0, none⟩) cc 3 ([⟨40, 0, 0, -1⟩, ⟨53, 0, 1, 1⟩, ⟨50, 0, 1, 2⟩] : List S40) ([⟨40, 0, 0, -1⟩, ⟨53, 0, 1, 1⟩, ⟨50, 0, 1, 2⟩] : List S40) _ (Kd.C_below HCC.out HB12.out) hx_
  rw [same_refl] at hq
  refine hq.mono ?_
  clear hq hx_
  rintro e wz2 ⟨rfl, hb⟩
  replace HB := Aside0.mk (below_step HB.out hb)
  replace HB12 := Aside0.mk (below_step HB12.out hb)
  clear hb HXZ GHXZ_HB GHXZ_HB12
  go_wp2
  go_ret
  exact ⟨rfl, HB.out⟩
end Go.Proofs.Ytnfhlhjbmcofoaa.S
