/- Scope: the walk of the law ScopeTells. -/
import Derived.Test.YtnfhlhjbmcofoaaM13
import Derived.Deep.RegionHeld3
namespace Go.Proofs.Ytnfhlhjbmcofoaa.S
open Go.RowKit Go.Proofs.YtnfhlhjbmcofoaaW.PrintWords Go.Proofs.YtnfhlhjbmcofoaaW.PrintLast
set_option linter.unusedVariables false
set_option linter.unusedSimpArgs false
theorem b49_of {l : List S34} (h : BL22 l) : ∀ m ∈ l, ∀ x ∈ m.f3, B49 x := fun m hm x hx => (h.2 m hm).2.2.2.2 x hx
set_option maxHeartbeats 16000000 in
set_option maxRecDepth 100000 in
theorem tells_any (A0 : Option Addr) (c0 : Nat) (l : List S34) (w : World) (h0 : Kd.C k34 w A0 l.length l) (hB : BL22 l) :
    Calls Try.prog 3 #[.agg #[.slice A0 l.length c0]] w fun e w' => e = .returned (.bool true) ∧ Below w.heap.size w w' := by
  have HC := Aside0.mk h0
  have HY := Aside0.mk hB
  have HQ := Aside0.mk (b49_of hB)
  have hm : l.length ≤ 9223372036854775807 := h0.2.1
  have HB : Aside0 (Below w.heap.size w w) := ⟨Below.refl _ _⟩
  clear h0 hB
  go_enter Try.func3, Try.ntmps3
  go_wp2_with (first | ((with_reducible refine gate_dst (N := 1) rfl ?_); refine box_event ?hg (N := 1) ?hd (cs := #[.slice A0 l.length c0]) (t := 24) ?hr ?_; (case hd => rfl); (case hg => rfl); (case hr => first | (go_simp; done) | (go_simp; rfl)); intro g1 hg_ wa hbox_ hb_; have BK1 := Aside0.mk (hbox_); have GBK1_HB : Aside0 (w.heap.size ≤ g1) := ⟨by rw [hg_]; exact below_size HB.out⟩; replace HB : Aside0 (Below w.heap.size w wa) := ⟨below_step HB.out hb_⟩; have hk1 : wa.cell? ⟨g1, 0, none⟩ = some (.slice A0 l.length c0) := blk_cell hbox_ 0; clear hg_ hbox_ hb_))
  refine (head_law _).mono ?_
  rintro e wb ⟨rfl, hb⟩
  replace BK1 := Aside0.mk (blk_below BK1.out hb)
  replace HB := Aside0.mk (below_step HB.out hb)
  clear hb hk1
  have hk1 : wb.cell? ⟨g1, 0, none⟩ = some (.slice A0 l.length c0) := blk_cell BK1.out 0
  go_wp2_with fail
  refine (fits_any A0 c0 l _ (Kd.C_below HC.out HB.out) HY.out).mono ?_
  rintro e wc ⟨⟨b, rfl, hs⟩, hb⟩
  have HSM := Aside0.mk hs
  replace BK1 := Aside0.mk (blk_below BK1.out hb)
  replace HB := Aside0.mk (below_step HB.out hb)
  clear hb hk1 hs
  have hk1 : wc.cell? ⟨g1, 0, none⟩ = some (.slice A0 l.length c0) := blk_cell BK1.out 0
  cases b with
  | false =>
    go_wp2
    go_ret
    exact ⟨rfl, HB.out⟩
  | true =>
    have HS := Aside0.mk (HSM.out rfl)
    clear HSM
    go_wp2_with fail
    have hS0 : wc.drew.cell? ⟨g1, 0, none⟩ = some (.slice A0 l.length c0) ∧ Aside0 (Below w.heap.size w wc.drew) := ⟨hk1, ⟨below_drew HB.out⟩⟩
    have hlt1 : g1 < wc.heap.size := blk_lt BK1.out
    go_region_held3 (fun w' => w'.cell? ⟨g1, 0, none⟩ = some (.slice A0 l.length c0) ∧ Aside0 (Below w.heap.size w w'))
      (first | assumption | go_keep)
      (first
        | (go_at_call 14; have hS_ : _ = _ ∧ Aside0 (Below w.heap.size w _) := (by assumption); refine (scheck_any A0 c0 l _ (Kd.C_below HC.out hS_.2.out) HS.out HQ.out).mono ?_; rintro e wd ⟨P0, p0, rfl, hle, hC, hb⟩; have HX := Aside0.mk hC; (try replace HZ := Aside0.mk (Kd.C_below HZ.out hb)); have hS1 : wd.cell? ⟨g1, 0, none⟩ = some (.slice A0 l.length c0) ∧ Aside0 (Below w.heap.size w wd) := ⟨(hb.cell (World.block_lt_of_cell? _ _ hS_.1)).trans hS_.1, ⟨below_step hS_.2.out hb⟩⟩)
        | (go_at_call 15; have hS_ : _ = _ ∧ Aside0 (Below w.heap.size w _) := (by assumption); refine (rcheck_any A0 c0 l _ (Kd.C_below HC.out hS_.2.out) HS.out HQ.out).mono ?_; rintro e we ⟨Q0, q0, rfl, hle, hC, hb⟩; have HZ := Aside0.mk hC; (try replace HX := Aside0.mk (Kd.C_below HX.out hb)); have hS2 : we.cell? ⟨g1, 0, none⟩ = some (.slice A0 l.length c0) ∧ Aside0 (Below w.heap.size w we) := ⟨(hb.cell (World.block_lt_of_cell? _ _ hS_.1)).trans hS_.1, ⟨below_step hS_.2.out hb⟩⟩)
        | (go_at_call 13; have hS_ : _ = _ ∧ Aside0 (Below w.heap.size w _) := (by assumption); have hq := same_any P0 Q0 p0 q0 _ _ _ HX.out HZ.out; rw [same_refl] at hq; refine hq.mono ?_; clear hq; rintro e wf ⟨rfl, hb⟩; have hS3 : wf.cell? ⟨g1, 0, none⟩ = some (.slice A0 l.length c0) ∧ Aside0 (Below w.heap.size w wf) := ⟨(hb.cell (World.block_lt_of_cell? _ _ hS_.1)).trans hS_.1, ⟨below_step hS_.2.out hb⟩⟩))
    all_goals (
      have hS_ : _ = _ ∧ Aside0 (Below w.heap.size w _) := (by assumption)
      go_wp2
      go_ret
      exact ⟨rfl, hS_.2.out⟩)
end Go.Proofs.Ytnfhlhjbmcofoaa.S
