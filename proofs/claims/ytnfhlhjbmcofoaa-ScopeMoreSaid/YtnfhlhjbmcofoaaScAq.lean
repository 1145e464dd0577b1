/- Scope: the walk of the law ScopeKinds. -/
import Derived.Test.YtnfhlhjbmcofoaaScAp
namespace Go.Proofs.Ytnfhlhjbmcofoaa.S
open Go.RowKit Go.Proofs.YtnfhlhjbmcofoaaW.PrintWords Go.Proofs.YtnfhlhjbmcofoaaW.PrintLast
set_option linter.unusedVariables false
set_option linter.unusedSimpArgs false
theorem bl22_one {m : S34} (h : B34 m) : BL22 [m] := ⟨by simp, fun y hy => by rw [List.mem_singleton.1 hy]; exact h⟩
theorem C_one {w : World} {g : Nat} {m : S34} {cs : List Value} (hK : k34.K w m cs) (hl : cs.length = 4) (h : w.heap[g]? = some (.cells cs.toArray 34 (0, 0))) : Kd.C k34 w (some ⟨g, 0, none⟩) 1 [m] :=
  C_of_block (d := k34) h [m] [cs] (by simp) (Nat.le_of_ble_eq_true rfl) (fun j p hj => match j, hj with | 0, hj => ⟨_, rfl, by cases hj; exact hK⟩ | j + 1, hj => by simp at hj) (by intro c hc; simp only [List.mem_cons, List.not_mem_nil, or_false] at hc; rw [hc]; exact hl)
set_option maxHeartbeats 16000000 in
set_option maxRecDepth 100000 in
theorem kinds_any (m : S34) (cs : List Value) (nm : ByteArray) (w : World) (h : k34.K w m cs) (hB : B34 m) (hn : nm.size ≤ 140737488351232) :
    Calls Try.prog 4 #[.agg cs.toArray, .string nm] w fun e w' => e = .returned (.bool true) ∧ Below w.heap.size w w' := by
  have HK := Aside0.mk h
  obtain ⟨A1, c1, A2, c2, A3, c3, rfl, hl1, hC1, hl2, hC2, hl3, hC3⟩ := k34_open h
  have HY := Aside0.mk (bl22_one hB)
  have HB : Aside0 (Below w.heap.size w w) := ⟨Below.refl _ _⟩
  clear h hB hl1 hC1 hl2 hC2 hl3 hC3
  go_enter Try.func4, Try.ntmps4
  go_wp2_with (first | ((with_reducible refine gate_dst (N := 2) rfl ?_); refine box_event ?hg (N := 2) ?hd (cs := #[.string m.f0, .slice A1 m.f1.length c1, .slice A2 m.f2.length c2, .slice A3 m.f3.length c3]) (t := 34) ?hr ?_; (case hd => rfl); (case hg => rfl); (case hr => first | (go_simp; done) | (go_simp; rfl)); intro g2 hg_ wa hbox_ hb_; have BK2 := Aside0.mk (hbox_); have GBK2_HB : Aside0 (w.heap.size ≤ g2) := ⟨by rw [hg_]; exact below_size HB.out⟩; replace HB : Aside0 (Below w.heap.size w wa) := ⟨below_step HB.out hb_⟩; clear hg_ hbox_ hb_))
  refine (head_law _).mono ?_
  rintro e wb ⟨rfl, hb⟩
  replace BK2 := Aside0.mk (blk_below BK2.out hb)
  replace HB := Aside0.mk (below_step HB.out hb)
  clear hb
  go_wp2_with (first | ((with_reducible refine gate_dst (N := 12) rfl ?_); refine wpList_load_row rfl 34 (.tmp 2) rfl g2 rfl 34 #[.string m.f0, .slice A1 m.f1.length c1, .slice A2 m.f2.length c2, .slice A3 m.f3.length c3] (0, 0) _ ?hg Try.underlying34 rfl ?hq9 ?_; (case hg => exact BK2.out); (case hq9 => kernel_rfl)) | ((with_reducible refine gate_dst (N := 13) rfl ?_); refine lit_event (n := 1) ?hg (N := 13) ?hd (cs := #[.string m.f0, .slice A1 m.f1.length c1, .slice A2 m.f2.length c2, .slice A3 m.f3.length c3]) (t := 34) ?hr ?_; (case hd => rfl); (case hg => rfl); (case hr => first | (go_simp; done) | (go_simp; rfl)); intro g3 hg_ wc hbox_ hb_; replace BK2 := Aside0.mk (blk_below BK2.out hb_); have BK3 := Aside0.mk (hbox_); have GBK3_HB : Aside0 (w.heap.size ≤ g3) := ⟨by rw [hg_]; exact below_size HB.out⟩; replace HB : Aside0 (Below w.heap.size w wc) := ⟨below_step HB.out hb_⟩; clear hg_ hbox_ hb_))
  refine (fits_any (some ⟨g3, 0, none⟩) 1 [m] _ (C_one (k34.K_below HB.out HK.out) rfl BK3.out) HY.out).mono ?_
  rintro e wd ⟨⟨b, rfl, hs⟩, hb⟩
  replace BK2 := Aside0.mk (blk_below BK2.out hb)
  replace HB := Aside0.mk (below_step HB.out hb)
  clear hb hs BK3
  by_cases hlong : (60 : Int) < (nm.size : Int)
  · cases b <;> (go_wp2; go_ret; exact ⟨rfl, HB.out⟩)
  cases b with
  | false =>
    go_wp2
    go_ret
    exact ⟨rfl, HB.out⟩
  | true =>
    go_wp2_with (first | ((with_reducible refine gate_dst (N := 25) rfl ?_); refine wpList_load_row rfl 34 (.tmp 2) rfl g2 rfl 34 #[.string m.f0, .slice A1 m.f1.length c1, .slice A2 m.f2.length c2, .slice A3 m.f3.length c3] (0, 0) _ ?hg Try.underlying34 rfl ?hq9 ?_; (case hg => exact BK2.out); (case hq9 => kernel_rfl)))
    refine (skind_any m _ nm _ (k34.K_below HB.out HK.out)).mono ?_
    rintro e we ⟨rfl, hb⟩
    replace BK2 := Aside0.mk (blk_below BK2.out hb)
    replace HB := Aside0.mk (below_step HB.out hb)
    clear hb
    obtain ⟨k1, hk1⟩ : ∃ k, (kindS m nm).1 = k := ⟨_, rfl⟩
    obtain ⟨k2, hk2⟩ : ∃ k, (kindS m nm).2 = k := ⟨_, rfl⟩
    rw [hk1, hk2]
    have K1 := Aside0.mk hk1
    have K2 := Aside0.mk hk2
    clear hk1 hk2
    go_wp2_with (first | ((with_reducible refine gate_dst (N := 31) rfl ?_); refine wpList_load_row rfl 34 (.tmp 2) rfl g2 rfl 34 #[.string m.f0, .slice A1 m.f1.length c1, .slice A2 m.f2.length c2, .slice A3 m.f3.length c3] (0, 0) _ ?hg Try.underlying34 rfl ?hq9 ?_; (case hg => exact BK2.out); (case hq9 => kernel_rfl)))
    have hq := kind_any m _ nm _ (k34.K_below HB.out HK.out)
    rw [K1.out, K2.out] at hq
    refine hq.mono ?_
    clear hq
    rintro e wf ⟨rfl, hb⟩
    replace HB := Aside0.mk (below_step HB.out hb)
    clear hb
    go_wp2
    go_ret
    exact ⟨rfl, HB.out⟩
end Go.Proofs.Ytnfhlhjbmcofoaa.S
