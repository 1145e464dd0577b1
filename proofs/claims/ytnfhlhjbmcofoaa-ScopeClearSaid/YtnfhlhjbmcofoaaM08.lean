/- Scope: walks and plain laws of this seat's functions, merged out of smaller texts of this session (ScV, ScX, ScY). -/
import Derived.Test.YtnfhlhjbmcofoaaM07
namespace Go.Proofs.Ytnfhlhjbmcofoaa.S
open Go.RowKit Go.Proofs.YtnfhlhjbmcofoaaW.PrintWords Go.Proofs.YtnfhlhjbmcofoaaW.PrintLast
set_option linter.unusedVariables false
set_option linter.unusedSimpArgs false
/-- What is wrong with an instance. -/
def sinstS (l : List S34) (at_ : Int) (ps : List ByteArray) (x : S49) : Int := if instS l at_ x ≠ 0 then instS l at_ x else dimsS ps x.f5
theorem want_step (m : S34) (i : Nat) (h : i < m.f2.length) : ((m.f2.take (i + 1)).filter (·.f0)).map (·.f1) = ((m.f2.take i).filter (·.f0)).map (·.f1) ++ if m.f2[i].f0 = true then [m.f2[i].f1] else [] := by
  rw [List.take_succ_eq_append_getElem h, List.filter_append, List.map_append]
  by_cases c : m.f2[i].f0 = true <;> simp [List.filter_cons, c]
theorem want_len (m : S34) (i : Nat) : (((m.f2.take i).filter (·.f0)).map (·.f1)).length ≤ i := by
  rw [List.length_map]
  exact Nat.le_trans (List.length_filter_le _ _) (by rw [List.length_take]; omega)
set_option maxHeartbeats 64000000 in
set_option maxRecDepth 100000 in
theorem sinst_any (A0 : Option Addr) (c0 : Nat) (l : List S34) (m : S34) (cs cx : List Value) (x : S49) (at_ : Int) (w : World) (h : LookAt w A0 c0 l m cs) (hx : k49.K w x cx) (hsm : ∀ m ∈ l, m.f2.length ≤ 1000) (hbl : x.f6.length * 160 ≤ 140737488351232) :
    Calls Try.prog 55 #[.agg cs.toArray, .agg cx.toArray, .int .i64 at_] w fun e w' => e = .returned (.int .i64 (sinstS l at_ m.f1 x)) ∧ Below w.heap.size w w' := by
  obtain ⟨hc0, A1, c1, A2, c2, A3, c3, rfl, hKm, hl1, hC1, hl2, hC2, hl3, hC3⟩ := h
  have HC := Aside0.mk hc0
  have HMK := Aside0.mk hKm
  have HC1 := Aside0.mk hC1
  have HC2 := Aside0.mk hC2
  have HC3 := Aside0.mk hC3
  have HB : Aside0 (Below w.heap.size w w) := ⟨Below.refl _ _⟩
  have HLE := Aside0.mk (And.intro hl1 (And.intro hl2 hl3))
  obtain ⟨X7, y7, X8, y8, X19, y19, X30, y30, X41, y41, rfl, hx7, hX7, hx8, hX8, _⟩ := k49_open hx
  have HX7 := Aside0.mk hX7
  have HX8 := Aside0.mk hX8
  have hm7 : x.f5.length ≤ 9223372036854775807 := hX7.2.1
  have hm8 : x.f6.length ≤ 9223372036854775807 := hX8.2.1
  have HBL := Aside0.mk hbl
  have K1 := Aside0.mk (fun w' hD => sfind_any A0 c0 l x.f4 w' hD)
  have KDM := Aside0.mk (fun (cs' : List Value) w' (hLK : LookAt w' A0 c0 l m cs') hd => sdims_any A0 c0 l m cs' X7 y7 x.f5 w' hLK hd)
  have hfr := find_range l x.f4
  obtain ⟨r, hr⟩ : ∃ r, sinstS l at_ m.f1 x = r := ⟨_, rfl⟩
  rw [hr]
  unfold sinstS instS at hr
  obtain ⟨n, hn⟩ : ∃ n, findS l x.f4 = n := ⟨_, rfl⟩
  rw [hn] at K1 hfr hr
  obtain ⟨d, hd⟩ : ∃ d, dimsS m.f1 x.f5 = d := ⟨_, rfl⟩
  rw [hd] at KDM hr
  clear hn hd hx hx7 hX7 hx8 hX8 hbl
  clear hc0 hKm hl1 hC1 hl2 hC2 hl3 hC3
  by_cases hn0 : n < 0
  · have HE : Aside0 (r = 51) := ⟨by rw [← hr, if_pos hn0]; rfl⟩
    clear hr
    go_enter Try.func55, Try.ntmps55
    go_wp2_with (first | ((with_reducible refine gate_dst (N := 3) rfl ?_); refine box_event ?hg (N := 3) ?hd (cs := #[.slice A0 l.length c0, .string m.f0, .slice A1 m.f1.length c1, .slice A2 m.f2.length c2, .slice A3 m.f3.length c3]) (t := 67) ?hr ?_; (case hd => rfl); (case hg => rfl); (case hr => first | (go_simp; done) | (go_simp; rfl)); intro g3 hg_ w3 hbox_ hb_; have BK3 := Aside0.mk (hbox_); have GBK3 : Aside0 (w.heap.size ≤ g3) := ⟨by rw [hg_]; exact below_size HB.out⟩; replace HB : Aside0 (Below w.heap.size w w3) := ⟨below_step HB.out hb_⟩; clear hg_ hbox_ hb_) | ((with_reducible refine gate_dst (N := 4) rfl ?_); refine box_event ?hg (N := 4) ?hd (cs := #[.int .i64 x.f0, .string x.f1, .string x.f2.f0, .int .i64 x.f2.f1, .string x.f3.f0, .int .i64 x.f3.f1, .string x.f4, .slice X7 x.f5.length y7, .slice X8 x.f6.length y8, .int .i64 x.f7.f0, .string x.f7.f1.f0, .int .i64 x.f7.f1.f1, .string x.f7.f2.f0, .int .i64 x.f7.f2.f1, .string x.f7.f3.f0, .int .i64 x.f7.f3.f1, .string x.f7.f4.f0, .int .i64 x.f7.f4.f1, .string x.f7.f5, .slice X19 x.f7.f6.length y19, .int .i64 x.f8.f0, .string x.f8.f1.f0, .int .i64 x.f8.f1.f1, .string x.f8.f2.f0, .int .i64 x.f8.f2.f1, .string x.f8.f3.f0, .int .i64 x.f8.f3.f1, .string x.f8.f4.f0, .int .i64 x.f8.f4.f1, .string x.f8.f5, .slice X30 x.f8.f6.length y30, .int .i64 x.f9.f0, .string x.f9.f1.f0, .int .i64 x.f9.f1.f1, .string x.f9.f2.f0, .int .i64 x.f9.f2.f1, .string x.f9.f3.f0, .int .i64 x.f9.f3.f1, .string x.f9.f4.f0, .int .i64 x.f9.f4.f1, .string x.f9.f5, .slice X41 x.f9.f6.length y41]) (t := 49) ?hr ?_; (case hd => rfl); (case hg => rfl); (case hr => first | (go_simp; done) | (go_simp; rfl)); intro g4 hg_ w4 hbox_ hb_; replace BK3 := Aside0.mk (blk_below BK3.out hb_); have BK4 := Aside0.mk (hbox_); have GBK4 : Aside0 (w.heap.size ≤ g4) := ⟨by rw [hg_]; exact below_size HB.out⟩; replace HB : Aside0 (Below w.heap.size w w4) := ⟨below_step HB.out hb_⟩; clear hg_ hbox_ hb_; have h30 : w4.cell? ⟨g3, 0, none⟩ = some (.slice A0 l.length c0) := blk_cell BK3.out 0; have h46 : w4.cell? ⟨g4, 6, none⟩ = some (.string x.f4) := blk_cell BK4.out 6))
    refine (K1.out _ (Kd.C_below HC.out HB.out)).mono ?_
    rintro e w5 ⟨rfl, hb⟩
    go_wp2
    go_ret
    exact ⟨by rw [HE.out]; rfl, below_step HB.out hb⟩
  rw [if_neg hn0] at hr
  by_cases hna : n ≥ at_
  · have HE : Aside0 (r = 54) := ⟨by rw [← hr, if_pos hna]; rfl⟩
    clear hr
    go_enter Try.func55, Try.ntmps55
    go_wp2_with (first | ((with_reducible refine gate_dst (N := 3) rfl ?_); refine box_event ?hg (N := 3) ?hd (cs := #[.slice A0 l.length c0, .string m.f0, .slice A1 m.f1.length c1, .slice A2 m.f2.length c2, .slice A3 m.f3.length c3]) (t := 67) ?hr ?_; (case hd => rfl); (case hg => rfl); (case hr => first | (go_simp; done) | (go_simp; rfl)); intro g3 hg_ w3 hbox_ hb_; have BK3 := Aside0.mk (hbox_); have GBK3 : Aside0 (w.heap.size ≤ g3) := ⟨by rw [hg_]; exact below_size HB.out⟩; replace HB : Aside0 (Below w.heap.size w w3) := ⟨below_step HB.out hb_⟩; clear hg_ hbox_ hb_) | ((with_reducible refine gate_dst (N := 4) rfl ?_); refine box_event ?hg (N := 4) ?hd (cs := #[.int .i64 x.f0, .string x.f1, .string x.f2.f0, .int .i64 x.f2.f1, .string x.f3.f0, .int .i64 x.f3.f1, .string x.f4, .slice X7 x.f5.length y7, .slice X8 x.f6.length y8, .int .i64 x.f7.f0, .string x.f7.f1.f0, .int .i64 x.f7.f1.f1, .string x.f7.f2.f0, .int .i64 x.f7.f2.f1, .string x.f7.f3.f0, .int .i64 x.f7.f3.f1, .string x.f7.f4.f0, .int .i64 x.f7.f4.f1, .string x.f7.f5, .slice X19 x.f7.f6.length y19, .int .i64 x.f8.f0, .string x.f8.f1.f0, .int .i64 x.f8.f1.f1, .string x.f8.f2.f0, .int .i64 x.f8.f2.f1, .string x.f8.f3.f0, .int .i64 x.f8.f3.f1, .string x.f8.f4.f0, .int .i64 x.f8.f4.f1, .string x.f8.f5, .slice X30 x.f8.f6.length y30, .int .i64 x.f9.f0, .string x.f9.f1.f0, .int .i64 x.f9.f1.f1, .string x.f9.f2.f0, .int .i64 x.f9.f2.f1, .string x.f9.f3.f0, .int .i64 x.f9.f3.f1, .string x.f9.f4.f0, .int .i64 x.f9.f4.f1, .string x.f9.f5, .slice X41 x.f9.f6.length y41]) (t := 49) ?hr ?_; (case hd => rfl); (case hg => rfl); (case hr => first | (go_simp; done) | (go_simp; rfl)); intro g4 hg_ w4 hbox_ hb_; replace BK3 := Aside0.mk (blk_below BK3.out hb_); have BK4 := Aside0.mk (hbox_); have GBK4 : Aside0 (w.heap.size ≤ g4) := ⟨by rw [hg_]; exact below_size HB.out⟩; replace HB : Aside0 (Below w.heap.size w w4) := ⟨below_step HB.out hb_⟩; clear hg_ hbox_ hb_; have h30 : w4.cell? ⟨g3, 0, none⟩ = some (.slice A0 l.length c0) := blk_cell BK3.out 0; have h46 : w4.cell? ⟨g4, 6, none⟩ = some (.string x.f4) := blk_cell BK4.out 6))
    refine (K1.out _ (Kd.C_below HC.out HB.out)).mono ?_
    rintro e w5 ⟨rfl, hb⟩
    go_wp2
    go_ret
    exact ⟨by rw [HE.out]; rfl, below_step HB.out hb⟩
  rw [if_neg hna] at hr
  obtain ⟨n, rfl⟩ : ∃ b : Nat, n = (b : Int) := ⟨n.toNat, by omega⟩
  have hnl : n < l.length := by omega
  have hnl2 : (n : Int) < (l.length : Int) := by omega
  have hnn : (0 : Int) ≤ (n : Int) := by omega
  have hna' : (n : Int) < at_ := by omega
  rw [Int.toNat_natCast, show l.getD n z34 = l[n] by simp [List.getD_eq_getElem?_getD, hnl]] at hr
  have hpl := hsm _ (List.getElem_mem hnl)
  obtain ⟨ad2, N1, e1, N2, e2, N3, e3, rfl, hy1, hy2, hy3, _, hq1, hQ1, hq2, hQ2, _⟩ := at34 HC.out n hnl
  obtain ⟨u, hu⟩ : ∃ u, l[n] = u := ⟨_, rfl⟩
  rw [hu] at hy1 hy2 hy3 hq1 hQ1 hq2 hQ2 hr hpl
  have HQ2 := Aside0.mk hQ2
  have hu1 : u.f1.length ≤ 9223372036854775807 := hQ1.2.1
  have hu2 : u.f2.length ≤ 9223372036854775807 := hQ2.2.1
  have HPL := Aside0.mk hpl
  clear hfr hn0 hna hu hq1 hQ1 hq2 hQ2 hsm hpl
  go_enter Try.func55, Try.ntmps55
  go_wp2_with (first | ((with_reducible refine gate_dst (N := 3) rfl ?_); refine box_event ?hg (N := 3) ?hd (cs := #[.slice (some ad2) l.length c0, .string m.f0, .slice A1 m.f1.length c1, .slice A2 m.f2.length c2, .slice A3 m.f3.length c3]) (t := 67) ?hr ?_; (case hd => rfl); (case hg => rfl); (case hr => first | (go_simp; done) | (go_simp; rfl)); intro g3 hg_ w3 hbox_ hb_; have BK3 := Aside0.mk (hbox_); have GBK3 : Aside0 (w.heap.size ≤ g3) := ⟨by rw [hg_]; exact below_size HB.out⟩; replace HB : Aside0 (Below w.heap.size w w3) := ⟨below_step HB.out hb_⟩; clear hg_ hbox_ hb_) | ((with_reducible refine gate_dst (N := 4) rfl ?_); refine box_event ?hg (N := 4) ?hd (cs := #[.int .i64 x.f0, .string x.f1, .string x.f2.f0, .int .i64 x.f2.f1, .string x.f3.f0, .int .i64 x.f3.f1, .string x.f4, .slice X7 x.f5.length y7, .slice X8 x.f6.length y8, .int .i64 x.f7.f0, .string x.f7.f1.f0, .int .i64 x.f7.f1.f1, .string x.f7.f2.f0, .int .i64 x.f7.f2.f1, .string x.f7.f3.f0, .int .i64 x.f7.f3.f1, .string x.f7.f4.f0, .int .i64 x.f7.f4.f1, .string x.f7.f5, .slice X19 x.f7.f6.length y19, .int .i64 x.f8.f0, .string x.f8.f1.f0, .int .i64 x.f8.f1.f1, .string x.f8.f2.f0, .int .i64 x.f8.f2.f1, .string x.f8.f3.f0, .int .i64 x.f8.f3.f1, .string x.f8.f4.f0, .int .i64 x.f8.f4.f1, .string x.f8.f5, .slice X30 x.f8.f6.length y30, .int .i64 x.f9.f0, .string x.f9.f1.f0, .int .i64 x.f9.f1.f1, .string x.f9.f2.f0, .int .i64 x.f9.f2.f1, .string x.f9.f3.f0, .int .i64 x.f9.f3.f1, .string x.f9.f4.f0, .int .i64 x.f9.f4.f1, .string x.f9.f5, .slice X41 x.f9.f6.length y41]) (t := 49) ?hr ?_; (case hd => rfl); (case hg => rfl); (case hr => first | (go_simp; done) | (go_simp; rfl)); intro g4 hg_ w4 hbox_ hb_; replace BK3 := Aside0.mk (blk_below BK3.out hb_); have BK4 := Aside0.mk (hbox_); have GBK4 : Aside0 (w.heap.size ≤ g4) := ⟨by rw [hg_]; exact below_size HB.out⟩; replace HB : Aside0 (Below w.heap.size w w4) := ⟨below_step HB.out hb_⟩; clear hg_ hbox_ hb_; have h30 : w4.cell? ⟨g3, 0, none⟩ = some (.slice (some ad2) l.length c0) := blk_cell BK3.out 0; have h46 : w4.cell? ⟨g4, 6, none⟩ = some (.string x.f4) := blk_cell BK4.out 6))
  refine (K1.out _ (Kd.C_below HC.out HB.out)).mono ?_
  rintro e w5 ⟨rfl, hb⟩
  replace BK3 := Aside0.mk (blk_below BK3.out hb)
  replace BK4 := Aside0.mk (blk_below BK4.out hb)
  replace HB := Aside0.mk (below_step HB.out hb)
  clear hb
  replace hy2 := pw_cell_below HB.out hy2
  replace hy3 := pw_cell_below HB.out hy3
  clear h30 h46 hy1
  have h30 : w5.cell? ⟨g3, 0, none⟩ = some (.slice (some ad2) l.length c0) := blk_cell BK3.out 0
  have h47 : w5.cell? ⟨g4, 7, none⟩ = some (.slice X7 x.f5.length y7) := blk_cell BK4.out 7
  by_cases hla : x.f5.length ≠ u.f1.length
  · have hla' : ((x.f5.length : Int) != (u.f1.length : Int)) = true := by simp; omega
    have HE : Aside0 (r = 1) := ⟨by rw [← hr, if_pos hla]; rfl⟩
    clear hr hla
    go_wp2
    go_quiet (fail)
    go_wp2
    go_ret
    exact ⟨by rw [HE.out]; rfl, pw_below_drewN HB.out _⟩
  have hla' : ((x.f5.length : Int) != (u.f1.length : Int)) = false := by simp; omega
  rw [if_neg hla] at hr
  have hwl : (wantS u).length = (u.f2.filter (·.f0)).length := by unfold wantS; rw [List.length_map]
  rw [← hwl, bind_eq] at hr
  obtain ⟨W, hW⟩ : ∃ W, wantS u = W := ⟨_, rfl⟩
  obtain ⟨H, hH⟩ : ∃ H, x.f6.map (·.f0) = H := ⟨_, rfl⟩
  rw [hW, hH] at hr
  have hHl : x.f6.length = H.length := by rw [← hH, List.length_map]
  rw [hHl] at hr
  have HHL := Aside0.mk hHl
  have HW := Aside0.mk hW
  have HH := Aside0.mk hH
  have HR := Aside0.mk hr
  clear hr hla hwl hW hH hHl
  go_wp2
  go_quiet (fail)
  generalize hgw : World.drewN _ _ = wq
  replace BK3 : Aside0 (wq.heap[g3]? = some (.cells #[.slice (some ad2) l.length c0, .string m.f0, .slice A1 m.f1.length c1, .slice A2 m.f2.length c2, .slice A3 m.f3.length c3] 67 (0, 0))) := ⟨by rw [← hgw]; exact BK3.out⟩
  replace BK4 : Aside0 (wq.heap[g4]? = some (.cells #[.int .i64 x.f0, .string x.f1, .string x.f2.f0, .int .i64 x.f2.f1, .string x.f3.f0, .int .i64 x.f3.f1, .string x.f4, .slice X7 x.f5.length y7, .slice X8 x.f6.length y8, .int .i64 x.f7.f0, .string x.f7.f1.f0, .int .i64 x.f7.f1.f1, .string x.f7.f2.f0, .int .i64 x.f7.f2.f1, .string x.f7.f3.f0, .int .i64 x.f7.f3.f1, .string x.f7.f4.f0, .int .i64 x.f7.f4.f1, .string x.f7.f5, .slice X19 x.f7.f6.length y19, .int .i64 x.f8.f0, .string x.f8.f1.f0, .int .i64 x.f8.f1.f1, .string x.f8.f2.f0, .int .i64 x.f8.f2.f1, .string x.f8.f3.f0, .int .i64 x.f8.f3.f1, .string x.f8.f4.f0, .int .i64 x.f8.f4.f1, .string x.f8.f5, .slice X30 x.f8.f6.length y30, .int .i64 x.f9.f0, .string x.f9.f1.f0, .int .i64 x.f9.f1.f1, .string x.f9.f2.f0, .int .i64 x.f9.f2.f1, .string x.f9.f3.f0, .int .i64 x.f9.f3.f1, .string x.f9.f4.f0, .int .i64 x.f9.f4.f1, .string x.f9.f5, .slice X41 x.f9.f6.length y41] 49 (0, 0))) := ⟨by rw [← hgw]; exact BK4.out⟩
  replace HB : Aside0 (Below w.heap.size w wq) := ⟨by rw [← hgw]; exact pw_below_drewN HB.out _⟩
  replace hy3 : wq.cell? ⟨(ad2.add (n * 4)).block, (ad2.add (n * 4)).off + 2, none⟩ = some (.slice N2 u.f2.length e2) := by rw [← hgw]; exact hy3
  clear hgw h30 h47 hy2
  have h30 : wq.cell? ⟨g3, 0, none⟩ = some (.slice (some ad2) l.length c0) := blk_cell BK3.out 0
  have hg3s : g3 < wq.heap.size := blk_lt BK3.out
  have hbk := World.block_lt_of_cell? wq _ hy3
  go_wp2_with (first | ((with_reducible refine gate_dst (N := 8) rfl ?_); refine box_event ?hg (N := 8) ?hd (cs := #[.slice none 0 0]) (t := 30) ?hr ?_; (case hd => rfl); (case hg => rfl); (case hr => first | (go_simp; done) | (go_simp; rfl)); intro g8 hg_ w8 hbox_ hb_; replace BK3 := Aside0.mk (blk_below BK3.out hb_); replace BK4 := Aside0.mk (blk_below BK4.out hb_); have BK8 := Aside0.mk (hbox_); have GBK8 : Aside0 (w.heap.size ≤ g8) := ⟨by rw [hg_]; exact below_size HB.out⟩; replace HB : Aside0 (Below w.heap.size w w8) := ⟨below_step HB.out hb_⟩; replace hy3 := pw_cell_below hb_ hy3; have h83 : w8.cell? ⟨g3, 0, none⟩ = some (.slice (some ad2) l.length c0) := blk_cell BK3.out 0; clear hg_ hbox_ hb_))
  clear h83 hy3 h30 hg3s hbk
  have HO : Aside0 (Kd.string.R 9 w8 w.heap.size (fun k => k ≠ g8) (.slice none 0 0) (((u.f2.take 0).filter (·.f0)).map (·.f1))) := ⟨Kd.R_nil _ _ _ _ _⟩
  go_loopw [48] (fun v wr => ∃ (i : Nat) (vw : Value), v = .int .i64 (i : Int) ∧ i ≤ u.f2.length ∧ Aside0 (Kd.string.R 9 wr w.heap.size (fun k => k ≠ g8) vw (((u.f2.take i).filter (·.f0)).map (·.f1))) ∧ Aside0 (wr.heap[g8]? = some (.cells #[vw] 30 (0, 0))) ∧ Aside0 (wr.heap[g3]? = some (.cells #[.slice (some ad2) l.length c0, .string m.f0, .slice A1 m.f1.length c1, .slice A2 m.f2.length c2, .slice A3 m.f3.length c3] 67 (0, 0))) ∧ Aside0 (wr.heap[g4]? = some (.cells #[.int .i64 x.f0, .string x.f1, .string x.f2.f0, .int .i64 x.f2.f1, .string x.f3.f0, .int .i64 x.f3.f1, .string x.f4, .slice X7 x.f5.length y7, .slice X8 x.f6.length y8, .int .i64 x.f7.f0, .string x.f7.f1.f0, .int .i64 x.f7.f1.f1, .string x.f7.f2.f0, .int .i64 x.f7.f2.f1, .string x.f7.f3.f0, .int .i64 x.f7.f3.f1, .string x.f7.f4.f0, .int .i64 x.f7.f4.f1, .string x.f7.f5, .slice X19 x.f7.f6.length y19, .int .i64 x.f8.f0, .string x.f8.f1.f0, .int .i64 x.f8.f1.f1, .string x.f8.f2.f0, .int .i64 x.f8.f2.f1, .string x.f8.f3.f0, .int .i64 x.f8.f3.f1, .string x.f8.f4.f0, .int .i64 x.f8.f4.f1, .string x.f8.f5, .slice X30 x.f8.f6.length y30, .int .i64 x.f9.f0, .string x.f9.f1.f0, .int .i64 x.f9.f1.f1, .string x.f9.f2.f0, .int .i64 x.f9.f2.f1, .string x.f9.f3.f0, .int .i64 x.f9.f3.f1, .string x.f9.f4.f0, .int .i64 x.f9.f4.f1, .string x.f9.f5, .slice X41 x.f9.f6.length y41] 49 (0, 0))) ∧ Aside0 (Below w.heap.size w wr)) (fun v _ => u.f2.length - (intOf v).toNat)
  case atStart => exact ⟨0, _, rfl, Nat.zero_le _, HO, BK8, BK3, BK4, HB⟩
  case round =>
    clear HO BK8 BK3 BK4 HB
    obtain ⟨i, vw, rfl, hi, HO, BK8, BK3, BK4, HB⟩ := hrel
    by_cases hlt : i < u.f2.length
    · obtain ⟨ad, rfl, hx0, hx1, hx2, hx3⟩ := at59 (Kd.C_below HQ2.out HB.out) i hlt
      have hi0 : (0 : Int) ≤ (i : Int) := by omega
      have hi1 : (i : Int) < (u.f2.length : Int) := by omega
      have hst := want_step u i hlt
      have hll := want_len u i
      obtain ⟨p, hp⟩ : ∃ p, u.f2[i] = p := ⟨_, rfl⟩
      rw [hp] at hx0 hx1 hx2 hx3 hst
      obtain ⟨T, hT⟩ : ∃ T, ((u.f2.take i).filter (·.f0)).map (·.f1) = T := ⟨_, rfl⟩
      rw [hT] at HO hst hll
      have HTL : Aside0 ((T.length + 1) * 16 ≤ 140737488355328) := ⟨by have := HPL.out; omega⟩
      obtain ⟨b, p1, p2⟩ := p
      cases b
      · rw [if_neg (by simp), List.append_nil] at hst
        have HST := Aside0.mk hst
        clear hp hT hst hll
        simp only at hx0 hx1 hx2 hx3
        go_wp2_with (first | ((with_reducible refine gate_dst (N := 11) rfl ?_); refine box_event ?hg (N := 11) ?hd (cs := #[.bool false, .string ⟨#[]⟩, .string ⟨#[]⟩, .int .i64 0]) (t := 59) ?hr ?_; (case hd => rfl); (case hg => rfl); (case hr => first | (go_simp; done) | (go_simp; rfl)); intro gv hg_ wv0 hbox_ hb_; replace BK3 := Aside0.mk (blk_below BK3.out hb_); replace BK4 := Aside0.mk (blk_below BK4.out hb_); replace BK8 := Aside0.mk (blk_below BK8.out hb_); have BZgv := Aside0.mk (hbox_); have GBZgv : Aside0 (w.heap.size ≤ gv) := ⟨by rw [hg_]; exact below_size HB.out⟩; replace HB : Aside0 (Below w.heap.size w wv0) := ⟨below_step HB.out hb_⟩; have HVgv : Aside0 (wr.heap.size ≤ gv ∧ Below wr.heap.size wr wv0) := ⟨Nat.le_of_eq hg_.symm, hb_⟩; clear hg_ hbox_ hb_) | ((with_reducible refine gate_ (.store 59 (.tmp 11) (.tmp 51)) rfl ?_); refine wpList_store_box rfl rfl 59 (.tmp 11) (.tmp 51) rfl (g := gv) (e := 59) [.bool false, .string p1, .string p2.f0, .int .i64 p2.f1] rfl rfl BZgv.out rfl ?hi ?h1 ?_; (case hi => kernel_rfl); (case h1 => simp [Value.oneCell']); intro wv hbx_ hfar_ hsz_ hbel_; replace BK3 := Aside0.mk ((hfar_ _ (blk_ne BK3.out BZgv.out (by decide))).trans BK3.out); replace BK4 := Aside0.mk ((hfar_ _ (blk_ne BK4.out BZgv.out (by decide))).trans BK4.out); replace BK8 := Aside0.mk ((hfar_ _ (blk_ne BK8.out BZgv.out (by decide))).trans BK8.out); have BKv := Aside0.mk (hbx_); replace HB : Aside0 (Below w.heap.size w wv) := ⟨hbel_ _ GBZgv.out w HB.out⟩; replace HO := Aside0.mk (Kd.R_below HO.out (hbel_ _ HVgv.out.1 _ HVgv.out.2)); have hv0 : wv.cell? ⟨gv, 0, none⟩ = some (.bool false) := blk_cell hbx_ 0; have hv1 : wv.cell? ⟨gv, 1, none⟩ = some (.string p1) := blk_cell hbx_ 1; have hv8 : wv.cell? ⟨g8, 0, none⟩ = some vw := blk_cell BK8.out 0; clear HVgv hbx_ hfar_ hsz_ hbel_ BZgv))
        go_roundw
        case rel => exact ⟨i + 1, _, by go_num, by omega, ⟨by rw [HST.out]; exact HO.out⟩, BK8, BK3, BK4, HB⟩
        case measure => simp [intOf]; omega
      · rw [if_pos rfl] at hst
        have HST := Aside0.mk hst
        clear hp hT hst hll
        simp only at hx0 hx1 hx2 hx3
        go_wp2_with (first | ((with_reducible refine gate_dst (N := 11) rfl ?_); refine box_event ?hg (N := 11) ?hd (cs := #[.bool false, .string ⟨#[]⟩, .string ⟨#[]⟩, .int .i64 0]) (t := 59) ?hr ?_; (case hd => rfl); (case hg => rfl); (case hr => first | (go_simp; done) | (go_simp; rfl)); intro gv hg_ wv0 hbox_ hb_; replace BK3 := Aside0.mk (blk_below BK3.out hb_); replace BK4 := Aside0.mk (blk_below BK4.out hb_); replace BK8 := Aside0.mk (blk_below BK8.out hb_); have BZgv := Aside0.mk (hbox_); have GBZgv : Aside0 (w.heap.size ≤ gv) := ⟨by rw [hg_]; exact below_size HB.out⟩; replace HB : Aside0 (Below w.heap.size w wv0) := ⟨below_step HB.out hb_⟩; have HVgv : Aside0 (wr.heap.size ≤ gv ∧ Below wr.heap.size wr wv0) := ⟨Nat.le_of_eq hg_.symm, hb_⟩; clear hg_ hbox_ hb_) | ((with_reducible refine gate_ (.store 59 (.tmp 11) (.tmp 51)) rfl ?_); refine wpList_store_box rfl rfl 59 (.tmp 11) (.tmp 51) rfl (g := gv) (e := 59) [.bool true, .string p1, .string p2.f0, .int .i64 p2.f1] rfl rfl BZgv.out rfl ?hi ?h1 ?_; (case hi => kernel_rfl); (case h1 => simp [Value.oneCell']); intro wv hbx_ hfar_ hsz_ hbel_; replace BK3 := Aside0.mk ((hfar_ _ (blk_ne BK3.out BZgv.out (by decide))).trans BK3.out); replace BK4 := Aside0.mk ((hfar_ _ (blk_ne BK4.out BZgv.out (by decide))).trans BK4.out); replace BK8 := Aside0.mk ((hfar_ _ (blk_ne BK8.out BZgv.out (by decide))).trans BK8.out); have BKv := Aside0.mk (hbx_); replace HB : Aside0 (Below w.heap.size w wv) := ⟨hbel_ _ GBZgv.out w HB.out⟩; replace HO := Aside0.mk (Kd.R_below HO.out (hbel_ _ HVgv.out.1 _ HVgv.out.2)); have hv0 : wv.cell? ⟨gv, 0, none⟩ = some (.bool true) := blk_cell hbx_ 0; have hv1 : wv.cell? ⟨gv, 1, none⟩ = some (.string p1) := blk_cell hbx_ 1; have hv8 : wv.cell? ⟨g8, 0, none⟩ = some vw := blk_cell BK8.out 0; clear HVgv hbx_ hfar_ hsz_ hbel_ BZgv) | (at_builtin; refine Kd.R_append Kd.string (w0 := w) w.heap.size rfl (.tmp 54) (.tmp 57) 30 9 _ 16 rfl Try.underlying30 info9 rfl (by decide) (by omega) vw T p1 [.string p1] (fun k => k ≠ g8) (fun _ => False) rfl rfl ?hp (fun _ h => h.elim) ?hf ?hO ?hB ?hs ?hl ?_; (case hp => exact rfl); (case hf => exact fun k hk he => by have := blk_lt BK8.out; omega); (case hO => exact HO.out); (case hB => exact HB.out); (case hs => exact below_size HB.out); (case hl => exact HTL.out); intro v1 w2 ho hb hgr hat; replace BK3 : Aside0 (w2.heap[g3]? = some (.cells #[.slice (some ad2) l.length c0, .string m.f0, .slice A1 m.f1.length c1, .slice A2 m.f2.length c2, .slice A3 m.f3.length c3] 67 (0, 0))) := ⟨blk_grown BK3.out hgr (Kd.R_ne HO.out BK3.out (by decide))⟩; replace BK4 : Aside0 (w2.heap[g4]? = some (.cells #[.int .i64 x.f0, .string x.f1, .string x.f2.f0, .int .i64 x.f2.f1, .string x.f3.f0, .int .i64 x.f3.f1, .string x.f4, .slice X7 x.f5.length y7, .slice X8 x.f6.length y8, .int .i64 x.f7.f0, .string x.f7.f1.f0, .int .i64 x.f7.f1.f1, .string x.f7.f2.f0, .int .i64 x.f7.f2.f1, .string x.f7.f3.f0, .int .i64 x.f7.f3.f1, .string x.f7.f4.f0, .int .i64 x.f7.f4.f1, .string x.f7.f5, .slice X19 x.f7.f6.length y19, .int .i64 x.f8.f0, .string x.f8.f1.f0, .int .i64 x.f8.f1.f1, .string x.f8.f2.f0, .int .i64 x.f8.f2.f1, .string x.f8.f3.f0, .int .i64 x.f8.f3.f1, .string x.f8.f4.f0, .int .i64 x.f8.f4.f1, .string x.f8.f5, .slice X30 x.f8.f6.length y30, .int .i64 x.f9.f0, .string x.f9.f1.f0, .int .i64 x.f9.f1.f1, .string x.f9.f2.f0, .int .i64 x.f9.f2.f1, .string x.f9.f3.f0, .int .i64 x.f9.f3.f1, .string x.f9.f4.f0, .int .i64 x.f9.f4.f1, .string x.f9.f5, .slice X41 x.f9.f6.length y41] 49 (0, 0))) := ⟨blk_grown BK4.out hgr (Kd.R_ne HO.out BK4.out (by decide))⟩; replace BK8 : Aside0 (w2.heap[g8]? = some (.cells #[vw] 30 (0, 0))) := ⟨blk_grown BK8.out hgr (Kd.R_ne HO.out BK8.out (by decide))⟩; obtain ⟨vA, vc, hvs⟩ := Kd.R_slice ho; have HVS : Aside0 (v1.cells.toList = [v1] ∧ v1.oneCell' = true) := ⟨by rw [hvs]; exact ⟨rfl, rfl⟩⟩; replace HO := Aside0.mk ho; replace HB := Aside0.mk hb; clear ho hb hgr hat hvs) | ((with_reducible refine gate_ (.store 30 (.tmp 8) (.tmp 58)) rfl ?_); refine wpList_store_val rfl rfl 30 (.tmp 8) (.tmp 58) rfl (g := g8) (e := 30) v1 [v1] HVS.out.1 rfl rfl BK8.out rfl ?hi ?h1 ?_; (case hi => kernel_rfl); (case h1 => intro q hq; rw [List.mem_singleton.1 hq]; exact HVS.out.2); intro w3 hbx_ hfar_ hsz_ hbel_; replace BK3 := Aside0.mk ((hfar_ _ (blk_ne BK3.out BK8.out (by decide))).trans BK3.out); replace BK4 := Aside0.mk ((hfar_ _ (blk_ne BK4.out BK8.out (by decide))).trans BK4.out); replace HO : Aside0 (Kd.string.R 9 w3 w.heap.size (fun k => k ≠ g8) v1 (T ++ [p1])) := ⟨Kd.R_move HO.out (fun k hk => hfar_ k hk)⟩; replace BK8 := Aside0.mk (hbx_); replace HB : Aside0 (Below w.heap.size w w3) := ⟨hbel_ _ GBK8.out w HB.out⟩; clear hbx_ hfar_ hsz_ hbel_))
        go_roundw
        case rel => exact ⟨i + 1, _, by go_num, by omega, ⟨by rw [HST.out]; exact HO.out⟩, BK8, BK3, BK4, HB⟩
        case measure => simp [intOf]; omega
    · obtain rfl : i = u.f2.length := by omega
      rw [List.take_length] at HO
      replace HO : Aside0 (Kd.string.R 9 wr w.heap.size (fun k => k ≠ g8) vw W) := ⟨by rw [← HW.out]; exact HO.out⟩
      obtain ⟨WA, wc, rfl, hwl, hwC⟩ := Kd.R_reads HO.out
      have HWC := Aside0.mk hwC
      have hWm : W.length ≤ 9223372036854775807 := hwC.2.1
      obtain ⟨wo, rfl⟩ : ∃ wo : World, wo = wr := ⟨_, rfl⟩
      have hk8 : wo.cell? ⟨g4, 8, none⟩ = some (.slice X8 x.f6.length y8) := blk_cell BK4.out 8
      have HOH : Aside0 (Kd.string.R 9 wo wo.heap.size (fun _ => True) (.slice none 0 0) ((x.f6.take 0).map (·.f0))) := ⟨Kd.R_nil _ _ _ _ _⟩
      have HDB : Aside0 (Below wo.heap.size wo wo) := ⟨Below.refl _ _⟩
      clear hwl hwC HO
      go_wp2
      clear hk8
      go_loopw [9, 63] (fun a b wr => ∃ i : Nat, b = .int .i64 (i : Int) ∧ i ≤ x.f6.length ∧ Aside0 (Kd.string.R 9 wr wo.heap.size (fun _ => True) a ((x.f6.take i).map (·.f0))) ∧ Aside0 (Below wo.heap.size wo wr)) (fun _ b _ => x.f6.length - (intOf b).toNat)
      case atStart => exact ⟨0, rfl, Nat.zero_le _, HOH, HDB⟩
      case round =>
        clear HOH HDB
        obtain ⟨i, rfl, hi, HO, HDB⟩ := hrel
        by_cases hlt : i < x.f6.length
        · obtain ⟨ad, E11, f11, rfl, hx0, hx1, hx2, hx3, hx4, hx5, hx6, hx7, hx8, hx9, hx10, hx11, _⟩ := at64 (Kd.C_below HX8.out (below_then HB.out HB.out.size HDB.out)) i hlt
          have hi0 : (0 : Int) ≤ (i : Int) := by omega
          have hi1 : (i : Int) < (x.f6.length : Int) := by omega
          have hst : (x.f6.take (i + 1)).map (·.f0) = (x.f6.take i).map (·.f0) ++ [x.f6[i].f0] := by rw [List.take_succ_eq_append_getElem hlt, List.map_append]; rfl
          have hll : ((x.f6.take i).map (·.f0)).length = i := by rw [List.length_map, List.length_take]; omega
          obtain ⟨b, hb0⟩ : ∃ b, x.f6[i] = b := ⟨_, rfl⟩
          rw [hb0] at hx0 hx1 hx2 hx3 hx4 hx5 hx6 hx7 hx8 hx9 hx10 hx11 hst
          obtain ⟨T, hT⟩ : ∃ T, (x.f6.take i).map (·.f0) = T := ⟨_, rfl⟩
          rw [hT] at HO hst hll
          have HST := Aside0.mk hst
          have HTL : Aside0 ((T.length + 1) * 16 ≤ 140737488355328) := ⟨by have := HBL.out; omega⟩
          clear hb0 hT hst hll
          go_wp2_with (first | ((with_reducible refine gate_dst (N := 13) rfl ?_); refine box_event ?hg (N := 13) ?hd (cs := #[.string ⟨#[]⟩, .int .i64 0, .string ⟨#[]⟩, .int .i64 0, .string ⟨#[]⟩, .int .i64 0, .string ⟨#[]⟩, .int .i64 0, .string ⟨#[]⟩, .int .i64 0, .string ⟨#[]⟩, .slice none 0 0]) (t := 64) ?hr ?_; (case hd => rfl); (case hg => rfl); (case hr => first | (go_simp; done) | (go_simp; rfl)); intro gv hg_ wv0 hbox_ hb_; have BZgv := Aside0.mk (hbox_); have GBZgv : Aside0 (wo.heap.size ≤ gv) := ⟨by rw [hg_]; exact below_size HDB.out⟩; replace HDB : Aside0 (Below wo.heap.size wo wv0) := ⟨below_step HDB.out hb_⟩; have HVgv : Aside0 (wr.heap.size ≤ gv ∧ Below wr.heap.size wr wv0) := ⟨Nat.le_of_eq hg_.symm, hb_⟩; clear hg_ hbox_ hb_) | ((with_reducible refine gate_ (.store 64 (.tmp 13) (.tmp 66)) rfl ?_); refine wpList_store_box rfl rfl 64 (.tmp 13) (.tmp 66) rfl (g := gv) (e := 64) [.string b.f0, .int .i64 b.f1.f0, .string b.f1.f1.f0, .int .i64 b.f1.f1.f1, .string b.f1.f2.f0, .int .i64 b.f1.f2.f1, .string b.f1.f3.f0, .int .i64 b.f1.f3.f1, .string b.f1.f4.f0, .int .i64 b.f1.f4.f1, .string b.f1.f5, .slice E11 b.f1.f6.length f11] rfl rfl BZgv.out rfl ?hi ?h1 ?_; (case hi => kernel_rfl); (case h1 => simp [Value.oneCell']); intro wv hbx_ hfar_ hsz_ hbel_; have BKv := Aside0.mk (hbx_); replace HDB : Aside0 (Below wo.heap.size wo wv) := ⟨hbel_ _ GBZgv.out wo HDB.out⟩; replace HO := Aside0.mk (Kd.R_below HO.out (hbel_ _ HVgv.out.1 _ HVgv.out.2)); have hv0 : wv.cell? ⟨gv, 0, none⟩ = some (.string b.f0) := blk_cell hbx_ 0; clear HVgv hbx_ hfar_ hsz_ hbel_ BZgv) | (at_builtin; refine Kd.R_append Kd.string (w0 := wo) wo.heap.size rfl (.tmp 67) (.tmp 70) 30 9 _ 16 rfl Try.underlying30 info9 rfl (by decide) (by omega) u9 T b.f0 [.string b.f0] (fun _ => True) (fun _ => False) rfl rfl ?hp (fun _ h => h.elim) (fun _ _ => trivial) ?hO ?hB ?hs ?hl ?_; (case hp => exact rfl); (case hO => exact HO.out); (case hB => exact HDB.out); (case hs => exact HDB.out.size); (case hl => exact HTL.out); intro v1 w2 ho hb hgr hat; replace HO := Aside0.mk ho; replace HDB := Aside0.mk hb; clear ho hb hgr hat))
          go_roundw
          case rel => exact ⟨i + 1, by go_num, by omega, ⟨by rw [HST.out]; exact HO.out⟩, HDB⟩
          case measure => simp [intOf]; omega
        · obtain rfl : i = x.f6.length := by omega
          rw [List.take_length, HH.out] at HO
          obtain ⟨HA, hc, rfl, hhl, hhC⟩ := Kd.R_reads HO.out
          have HHC := Aside0.mk (fun w' (hb : Below wr.heap.size wr w') => Kd.C_below hhC hb)
          have KTW := Aside0.mk (stwice_any HA hc H wr hhC hhl)
          have hHm : H.length ≤ 9223372036854775807 := hhC.2.1
          replace BK8 : Aside0 (wr.heap[g8]? = some (.cells #[.slice WA W.length wc] 30 (0, 0))) := ⟨(HDB.out.block _ (blk_lt BK8.out)).trans BK8.out⟩
          replace BK3 : Aside0 (wr.heap[g3]? = some (.cells #[.slice (some ad2) l.length c0, .string m.f0, .slice A1 m.f1.length c1, .slice A2 m.f2.length c2, .slice A3 m.f3.length c3] 67 (0, 0))) := ⟨(HDB.out.block _ (blk_lt BK3.out)).trans BK3.out⟩
          replace BK4 : Aside0 (wr.heap[g4]? = some (.cells #[.int .i64 x.f0, .string x.f1, .string x.f2.f0, .int .i64 x.f2.f1, .string x.f3.f0, .int .i64 x.f3.f1, .string x.f4, .slice X7 x.f5.length y7, .slice X8 x.f6.length y8, .int .i64 x.f7.f0, .string x.f7.f1.f0, .int .i64 x.f7.f1.f1, .string x.f7.f2.f0, .int .i64 x.f7.f2.f1, .string x.f7.f3.f0, .int .i64 x.f7.f3.f1, .string x.f7.f4.f0, .int .i64 x.f7.f4.f1, .string x.f7.f5, .slice X19 x.f7.f6.length y19, .int .i64 x.f8.f0, .string x.f8.f1.f0, .int .i64 x.f8.f1.f1, .string x.f8.f2.f0, .int .i64 x.f8.f2.f1, .string x.f8.f3.f0, .int .i64 x.f8.f3.f1, .string x.f8.f4.f0, .int .i64 x.f8.f4.f1, .string x.f8.f5, .slice X30 x.f8.f6.length y30, .int .i64 x.f9.f0, .string x.f9.f1.f0, .int .i64 x.f9.f1.f1, .string x.f9.f2.f0, .int .i64 x.f9.f2.f1, .string x.f9.f3.f0, .int .i64 x.f9.f3.f1, .string x.f9.f4.f0, .int .i64 x.f9.f4.f1, .string x.f9.f5, .slice X41 x.f9.f6.length y41] 49 (0, 0))) := ⟨(HDB.out.block _ (blk_lt BK4.out)).trans BK4.out⟩
          replace HB : Aside0 (Below w.heap.size w wr) := ⟨below_then HB.out HB.out.size HDB.out⟩
          replace HWC : Aside0 (Kd.string.C wr WA W.length W) := ⟨Kd.C_below HWC.out HDB.out⟩
          have hge : (x.f6.length : Int) ≤ (x.f6.length : Int) := Int.le_refl _
          have h80 : wr.cell? ⟨g8, 0, none⟩ = some (.slice WA W.length wc) := blk_cell BK8.out 0
          have hg8s : g8 < wr.heap.size := blk_lt BK8.out
          obtain ⟨wz, rfl⟩ : ∃ wz : World, wz = wr := ⟨_, rfl⟩
          clear hhl hhC HO HDB
          have hr := HR.out
          by_cases hlb : H.length ≠ W.length
          · have hlb' : ((H.length : Int) != (W.length : Int)) = true := by simp; omega
            have HE : Aside0 (r = 53) := ⟨by rw [← hr, if_pos hlb]; rfl⟩
            clear hr
            go_wp2
            go_ret
            exact ⟨by rw [HE.out]; rfl, HB.out⟩
          have hlb' : ((H.length : Int) != (W.length : Int)) = false := by simp; omega
          rw [if_neg hlb] at hr
          obtain ⟨tw, htw⟩ : ∃ b, twiceS H = b := ⟨_, rfl⟩
          obtain ⟨an, han⟩ : ∃ b, (fst (gP fun s => !hasStr W s) H 0).isSome = b := ⟨_, rfl⟩
          rw [htw] at KTW hr
          have KAN := Aside0.mk (fun w' (hb : Below wz.heap.size wz w') => containsFuncS 63 #[.pointer (some ⟨g8, 0, none⟩)] (fun s => !hasStr W s) HA hc H w' (HHC.out w' hb) ⟨fun i hi w'' hb' => clo63 ⟨g8, 0, none⟩ WA wc W H[i] w'' (by rw [blk_cell (blk_below (blk_below BK8.out hb) hb')]; rfl) (Kd.C_below (Kd.C_below HWC.out hb) hb')⟩ enter63)
          rw [han] at KAN hr
          replace HR := Aside0.mk hr
          clear hr htw han hlb
          go_wp2_with fail
          refine KTW.out.mono ?_
          rintro e wt ⟨rfl, hb⟩
          have HTB := Aside0.mk hb
          clear hb h80 hg8s
          cases tw
          rotate_left
          · have HE : Aside0 (r = 53) := ⟨by have := HR.out; rw [Bool.true_or] at this; exact this.symm⟩
            go_wp2
            go_ret
            exact ⟨by rw [HE.out]; rfl, below_step HB.out HTB.out⟩
          have h83 : wt.cell? ⟨g3, 0, none⟩ = some (.slice (some ad2) l.length c0) := blk_cell (blk_below BK3.out HTB.out) 0
          go_wp2_with fail
          refine (KAN.out _ HTB.out).mono ?_
          rintro e wv2 ⟨rfl, hb⟩
          replace BK3 := Aside0.mk (blk_below (blk_below BK3.out HTB.out) hb)
          replace BK4 := Aside0.mk (blk_below (blk_below BK4.out HTB.out) hb)
          replace HB := Aside0.mk (below_step (below_step HB.out HTB.out) hb)
          clear hb h83 HTB
          cases an
          rotate_left
          · have HE : Aside0 (r = 53) := ⟨HR.out.symm⟩
            go_wp2
            go_ret
            exact ⟨by rw [HE.out]; rfl, HB.out⟩
          obtain rfl : d = r := HR.out
          have hk47 : wv2.cell? ⟨g4, 7, none⟩ = some (.slice X7 x.f5.length y7) := blk_cell BK4.out 7
          go_wp2_with (first | ((with_reducible refine gate_dst (N := 88) rfl ?_); refine wpList_load_row rfl 67 (.tmp 3) rfl g3 rfl 67 #[.slice (some ad2) l.length c0, .string m.f0, .slice A1 m.f1.length c1, .slice A2 m.f2.length c2, .slice A3 m.f3.length c3] (0, 0) _ ?hg Try.underlying67 rfl ?hi ?_; (case hg => exact BK3.out); (case hi => kernel_rfl)))
          refine (KDM.out _ _ ⟨Kd.C_below HC.out HB.out, A1, c1, A2, c2, A3, c3, rfl, k34.K_below HB.out HMK.out, HLE.out.1, Kd.C_below HC1.out HB.out, HLE.out.2.1, Kd.C_below HC2.out HB.out, HLE.out.2.2, Kd.C_below HC3.out HB.out⟩ (Kd.C_below HX7.out HB.out)).mono ?_
          rintro e wy ⟨rfl, hb⟩
          go_wp2
          go_ret
          exact ⟨rfl, below_step HB.out hb⟩
theorem iM (k : Int) (w : World) (base : Nat) (ok : Nat → Prop) : (Kd.int .i64).M w base ok k [.int .i64 k] := rfl
set_option maxHeartbeats 32000000 in
set_option maxRecDepth 100000 in
theorem sref_any (A0 : Option Addr) (c0 : Nat) (l : List S34) (m : S34) (cs : List Value) (nm : ByteArray) (w : World) (h : LookAt w A0 c0 l m cs) (hs : nm.size ≤ 9223372036854775807) :
    Calls Try.prog 58 #[.agg cs.toArray, .string nm] w fun e w' => e = .returned (.int .i64 (refS l m nm)) ∧ Below w.heap.size w w' := by
  obtain ⟨hc0, A1, c1, A2, c2, A3, c3, rfl, hKm, hl1, hC1, hl2, hC2, hl3, hC3⟩ := h
  have HC := Aside0.mk hc0
  have HMK := Aside0.mk hKm
  have HC1 := Aside0.mk hC1
  have HC2 := Aside0.mk hC2
  have HC3 := Aside0.mk hC3
  have HB : Aside0 (Below w.heap.size w w) := ⟨Below.refl _ _⟩
  have HLE := Aside0.mk (And.intro hl1 (And.intro hl2 hl3))
  have hdr := dot_range nm
  have KCN := fun (hd : dotS nm < 0) w' => cut_no nm w' hs hd
  have KCY := fun (a : Nat) (hd : dotS nm = (a : Int)) (ha : a < nm.size) w' => cut_yes nm a w' hs hd ha
  unfold refS
  obtain ⟨d, hd⟩ : ∃ d, dotS nm = d := ⟨_, rfl⟩
  rw [hd] at hdr KCN KCY ⊢
  clear hd
  clear hc0 hKm hl1 hC1 hl2 hC2 hl3 hC3
  by_cases hd0 : d < 0
  · rw [if_pos hd0]
    have K0 := Aside0.mk (KCN hd0)
    have K1 := Aside0.mk (fun (cs' : List Value) w' (hLK : LookAt w' A0 c0 l m cs') DA dc hd => sis_any A0 c0 l m cs' nm DA dc [2, 4, 5] w' hLK hd)
    rw [is_3] at K1
    obtain ⟨r, hr⟩ : ∃ r, amongS (kindS m nm).1 2 4 5 = r := ⟨_, rfl⟩
    rw [hr] at K1 ⊢
    clear KCN KCY hd0 hdr hr
    go_enter Try.func58, Try.ntmps58
    go_wp2_with (first | ((with_reducible refine gate_dst (N := 2) rfl ?_); refine box_event ?hg (N := 2) ?hd (cs := #[.slice A0 l.length c0, .string m.f0, .slice A1 m.f1.length c1, .slice A2 m.f2.length c2, .slice A3 m.f3.length c3]) (t := 67) ?hr ?_; (case hd => rfl); (case hg => rfl); (case hr => first | (go_simp; done) | (go_simp; rfl)); intro g2 hg_ w2 hbox_ hb_; have BK2 := Aside0.mk (hbox_); have GBK2 : Aside0 (w.heap.size ≤ g2) := ⟨by rw [hg_]; exact below_size HB.out⟩; replace HB : Aside0 (Below w.heap.size w w2) := ⟨below_step HB.out hb_⟩; clear hg_ hbox_ hb_))
    refine (K0.out _).mono ?_
    rintro e w3 ⟨rfl, rfl⟩
    go_wp2_with (first | ((with_reducible refine gate_dst (N := 23) rfl ?_); refine Kd.R_lit (Kd.int .i64) _ 3 ?hg (N := 23) ?hd (xs := [2, 4, 5]) (inner := [.int .i64 2, .int .i64 4, .int .i64 5]) (ok := fun _ => True) (okp := fun _ => True) ?hr ?hp (fun _ hk => hk) trivial (Below.refl _ _) (Nat.le_refl _) (by simp) ?_; (case hd => rfl); (case hg => rfl); (case hr => first | (go_simp; done) | (go_simp; rfl)); (case hp => exact (Reps.snoc (Reps.snoc (Reps.snoc (Reps.none _ _) (iM 2 _ _ _) rfl) (iM 4 _ _ _) rfl) (iM 5 _ _ _) rfl)); intro v_ wl ho_ hb_ hg_ hn_; obtain ⟨KA, kc, rfl, hkl_, hkC_⟩ := Kd.R_reads ho_; have KL := Aside0.mk hkC_; replace BK2 := Aside0.mk (blk_below BK2.out hb_); replace HB := Aside0.mk (below_step HB.out hb_); clear ho_ hb_ hg_ hn_ hkl_ hkC_) | ((with_reducible refine gate_dst (N := 21) rfl ?_); refine wpList_load_row rfl 67 (.tmp 2) rfl g2 rfl 67 #[.slice A0 l.length c0, .string m.f0, .slice A1 m.f1.length c1, .slice A2 m.f2.length c2, .slice A3 m.f3.length c3] (0, 0) _ ?hg Try.underlying67 rfl ?hi ?_; (case hg => exact BK2.out); (case hi => kernel_rfl)))
    refine (K1.out _ _ ⟨Kd.C_below HC.out HB.out, A1, c1, A2, c2, A3, c3, rfl, k34.K_below HB.out HMK.out, HLE.out.1, Kd.C_below HC1.out HB.out, HLE.out.2.1, Kd.C_below HC2.out HB.out, HLE.out.2.2, Kd.C_below HC3.out HB.out⟩ KA kc KL.out).mono ?_
    rintro e w4 ⟨rfl, hb⟩
    go_wp2
    go_ret
    exact ⟨rfl, below_step HB.out hb⟩
  rw [if_neg hd0]
  obtain ⟨a, rfl⟩ : ∃ a : Nat, d = (a : Int) := ⟨d.toNat, by omega⟩
  rw [Int.toNat_natCast]
  have ha : a < nm.size := by omega
  have K0 := Aside0.mk (KCY a rfl ha)
  obtain ⟨u, hu⟩ : ∃ u, nm.extract 0 a = u := ⟨_, rfl⟩
  obtain ⟨pt, hpt⟩ : ∃ u, nm.extract (a + 1) nm.size = u := ⟨_, rfl⟩
  rw [hu, hpt] at K0 ⊢
  have hki := kind_item (m := m) (nm := u)
  have K1 := Aside0.mk (fun w' (hb : Below w.heap.size w w') => skind_any m _ u w' (k34.K_below hb HMK.out))
  obtain ⟨k, hk⟩ : ∃ k, kindS m u = k := ⟨_, rfl⟩
  rw [hk] at K1 hki ⊢
  obtain ⟨k, i⟩ := k
  simp only at K1 hki ⊢
  clear KCN KCY hdr hd0 ha hu hpt hk hs
  by_cases h7 : k = 7
  rotate_left
  · rw [if_pos h7]
    have h71 : (k != 7) = true := by simpa using h7
    go_enter Try.func58, Try.ntmps58
    go_wp2_with (first | ((with_reducible refine gate_dst (N := 2) rfl ?_); refine box_event ?hg (N := 2) ?hd (cs := #[.slice A0 l.length c0, .string m.f0, .slice A1 m.f1.length c1, .slice A2 m.f2.length c2, .slice A3 m.f3.length c3]) (t := 67) ?hr ?_; (case hd => rfl); (case hg => rfl); (case hr => first | (go_simp; done) | (go_simp; rfl)); intro g2 hg_ w2 hbox_ hb_; have BK2 := Aside0.mk (hbox_); have GBK2 : Aside0 (w.heap.size ≤ g2) := ⟨by rw [hg_]; exact below_size HB.out⟩; replace HB : Aside0 (Below w.heap.size w w2) := ⟨below_step HB.out hb_⟩; clear hg_ hbox_ hb_))
    refine (K0.out _).mono ?_
    rintro e w3 ⟨rfl, hb⟩
    replace BK2 := Aside0.mk (blk_below BK2.out hb)
    replace HB := Aside0.mk (below_step HB.out hb)
    clear hb
    have hk0 : w3.cell? ⟨g2, 0, none⟩ = some (.slice A0 l.length c0) := blk_cell BK2.out 0
    have hk1 : w3.cell? ⟨g2, 1, none⟩ = some (.string m.f0) := blk_cell BK2.out 1
    have hk2 : w3.cell? ⟨g2, 2, none⟩ = some (.slice A1 m.f1.length c1) := blk_cell BK2.out 2
    have hk3 : w3.cell? ⟨g2, 3, none⟩ = some (.slice A2 m.f2.length c2) := blk_cell BK2.out 3
    have hk4 : w3.cell? ⟨g2, 4, none⟩ = some (.slice A3 m.f3.length c3) := blk_cell BK2.out 4
    go_wp2_with fail
    refine (K1.out _ HB.out).mono ?_
    rintro e w4 ⟨rfl, hb⟩
    go_wp2
    go_ret
    exact ⟨rfl, below_step HB.out hb⟩
  subst h7
  obtain ⟨hi0, hi1⟩ := hki (by omega)
  obtain ⟨i, rfl⟩ : ∃ n : Nat, i = (n : Int) := ⟨i.toNat, by omega⟩
  have hlt : i < m.f3.length := by omega
  rw [if_neg (by decide), Int.toNat_natCast, show m.f3.getD i z49 = m.f3[i] by simp [List.getD_eq_getElem?_getD, hlt]]
  obtain ⟨ad, rfl, hx⟩ := at49m HC3.out i hlt
  obtain ⟨mo, hmo⟩ : ∃ x, m.f3[i].f4 = x := ⟨_, rfl⟩
  rw [hmo] at hx ⊢
  have K2 := Aside0.mk (fun w' (hb : Kd.C k34 w' A0 l.length l) => sfind_any A0 c0 l mo w' hb)
  have hfr := find_range l mo
  obtain ⟨n, hn⟩ : ∃ n, findS l mo = n := ⟨_, rfl⟩
  rw [hn] at K2 hfr ⊢
  clear hn hki hmo
  by_cases hn0 : n < 0
  · rw [if_pos hn0]
    go_enter Try.func58, Try.ntmps58
    go_wp2_with (first | ((with_reducible refine gate_dst (N := 2) rfl ?_); refine box_event ?hg (N := 2) ?hd (cs := #[.slice A0 l.length c0, .string m.f0, .slice A1 m.f1.length c1, .slice A2 m.f2.length c2, .slice (some ad) m.f3.length c3]) (t := 67) ?hr ?_; (case hd => rfl); (case hg => rfl); (case hr => first | (go_simp; done) | (go_simp; rfl)); intro g2 hg_ w2 hbox_ hb_; have BK2 := Aside0.mk (hbox_); have GBK2 : Aside0 (w.heap.size ≤ g2) := ⟨by rw [hg_]; exact below_size HB.out⟩; replace HB : Aside0 (Below w.heap.size w w2) := ⟨below_step HB.out hb_⟩; clear hg_ hbox_ hb_))
    refine (K0.out _).mono ?_
    rintro e w3 ⟨rfl, hb⟩
    replace BK2 := Aside0.mk (blk_below BK2.out hb)
    replace HB := Aside0.mk (below_step HB.out hb)
    clear hb
    have hk0 : w3.cell? ⟨g2, 0, none⟩ = some (.slice A0 l.length c0) := blk_cell BK2.out 0
    have hk1 : w3.cell? ⟨g2, 1, none⟩ = some (.string m.f0) := blk_cell BK2.out 1
    have hk2 : w3.cell? ⟨g2, 2, none⟩ = some (.slice A1 m.f1.length c1) := blk_cell BK2.out 2
    have hk3 : w3.cell? ⟨g2, 3, none⟩ = some (.slice A2 m.f2.length c2) := blk_cell BK2.out 3
    have hk4 : w3.cell? ⟨g2, 4, none⟩ = some (.slice (some ad) m.f3.length c3) := blk_cell BK2.out 4
    go_wp2_with fail
    refine (K1.out _ HB.out).mono ?_
    rintro e w4 ⟨rfl, hb⟩
    replace BK2 := Aside0.mk (blk_below BK2.out hb)
    replace HB := Aside0.mk (below_step HB.out hb)
    clear hb
    clear hk0 hk1 hk2 hk3 hk4
    replace hx := pw_cell_below HB.out hx
    have hk0 : w4.cell? ⟨g2, 0, none⟩ = some (.slice A0 l.length c0) := blk_cell BK2.out 0
    have hk4 : w4.cell? ⟨g2, 4, none⟩ = some (.slice (some ad) m.f3.length c3) := blk_cell BK2.out 4
    have hg2 : g2 < w4.heap.size := blk_lt BK2.out
    have hbk := World.block_lt_of_cell? w4 _ hx
    simp only at hbk
    go_wp2
    go_region_held3 (fun w' => w'.cell? ⟨g2, 0, none⟩ = some (.slice A0 l.length c0) ∧ w'.cell? ⟨g2, 4, none⟩ = some (.slice (some ad) m.f3.length c3) ∧ w'.cell? ⟨(ad.add (i * 42)).block, (ad.add (i * 42)).off + 6, none⟩ = some (.string mo))
      (go_keep)
      (first | (go_at_call 40; refine (K2.out _ (Kd.C_below HC.out (below_drew HB.out))).mono ?_; rintro e w5 ⟨rfl, hb⟩; obtain ⟨hc, hf⟩ := bcell (below_step (below_drew (Below.refl w4.heap.size w4)) hb)))
    replace BK2 := Aside0.mk (blk_below (blk_drew BK2.out) hb)
    replace HB := Aside0.mk (below_step (below_drew HB.out) hb)
    clear hc hf hb hk0 hk4 hg2 hbk hx
    have hk0 : w5.cell? ⟨g2, 0, none⟩ = some (.slice A0 l.length c0) := blk_cell BK2.out 0
    go_wp2
    go_ret
    exact ⟨rfl, HB.out⟩
  rw [if_neg hn0]
  obtain ⟨n, rfl⟩ : ∃ b : Nat, n = (b : Int) := ⟨n.toNat, by omega⟩
  have hnl : n < l.length := by omega
  have hnl2 : (n : Int) < (l.length : Int) := by omega
  have hnn : (0 : Int) ≤ (n : Int) := by omega
  rw [Int.toNat_natCast, show l.getD n z34 = l[n] by simp [List.getD_eq_getElem?_getD, hnl]]
  obtain ⟨ad2, cm, rfl, hKn, hcm⟩ := el_get HC.out n hnl
  have HKN := Aside0.mk hKn
  have K3 := Aside0.mk (fun cs' w' (hb : k34.K w' l[n] cs') => skind_any l[n] cs' pt w' hb)
  obtain ⟨q, hq⟩ : ∃ q, kindS l[n] pt = q := ⟨_, rfl⟩
  rw [hq] at K3 ⊢
  obtain ⟨q, j⟩ := q
  simp only at K3 ⊢
  obtain ⟨N1, e1, N2, e2, N3, e3, rfl, _⟩ := k34_open hKn
  have HCM := Aside0.mk hcm
  obtain ⟨r, hr⟩ : ∃ r, (if q ≠ 3 then (51 : Int) else 0) = r := ⟨_, rfl⟩
  rw [hr]
  have HR := Aside0.mk hr
  clear hfr hn0 hKn hcm hq hr
  go_enter Try.func58, Try.ntmps58
  go_wp2_with (first | ((with_reducible refine gate_dst (N := 2) rfl ?_); refine box_event ?hg (N := 2) ?hd (cs := #[.slice (some ad2) l.length c0, .string m.f0, .slice A1 m.f1.length c1, .slice A2 m.f2.length c2, .slice (some ad) m.f3.length c3]) (t := 67) ?hr ?_; (case hd => rfl); (case hg => rfl); (case hr => first | (go_simp; done) | (go_simp; rfl)); intro g2 hg_ w2 hbox_ hb_; have BK2 := Aside0.mk (hbox_); have GBK2 : Aside0 (w.heap.size ≤ g2) := ⟨by rw [hg_]; exact below_size HB.out⟩; replace HB : Aside0 (Below w.heap.size w w2) := ⟨below_step HB.out hb_⟩; clear hg_ hbox_ hb_))
  refine (K0.out _).mono ?_
  rintro e w3 ⟨rfl, hb⟩
  replace BK2 := Aside0.mk (blk_below BK2.out hb)
  replace HB := Aside0.mk (below_step HB.out hb)
  clear hb
  have hk0 : w3.cell? ⟨g2, 0, none⟩ = some (.slice (some ad2) l.length c0) := blk_cell BK2.out 0
  have hk1 : w3.cell? ⟨g2, 1, none⟩ = some (.string m.f0) := blk_cell BK2.out 1
  have hk2 : w3.cell? ⟨g2, 2, none⟩ = some (.slice A1 m.f1.length c1) := blk_cell BK2.out 2
  have hk3 : w3.cell? ⟨g2, 3, none⟩ = some (.slice A2 m.f2.length c2) := blk_cell BK2.out 3
  have hk4 : w3.cell? ⟨g2, 4, none⟩ = some (.slice (some ad) m.f3.length c3) := blk_cell BK2.out 4
  go_wp2_with fail
  refine (K1.out _ HB.out).mono ?_
  rintro e w4 ⟨rfl, hb⟩
  replace BK2 := Aside0.mk (blk_below BK2.out hb)
  replace HB := Aside0.mk (below_step HB.out hb)
  clear hb
  clear hk0 hk1 hk2 hk3 hk4
  replace hx := pw_cell_below HB.out hx
  have hk0 : w4.cell? ⟨g2, 0, none⟩ = some (.slice (some ad2) l.length c0) := blk_cell BK2.out 0
  have hk4 : w4.cell? ⟨g2, 4, none⟩ = some (.slice (some ad) m.f3.length c3) := blk_cell BK2.out 4
  have hg2 : g2 < w4.heap.size := blk_lt BK2.out
  have hbk := World.block_lt_of_cell? w4 _ hx
  simp only at hbk
  go_wp2
  go_region_held3 (fun w' => w'.cell? ⟨g2, 0, none⟩ = some (.slice (some ad2) l.length c0) ∧ w'.cell? ⟨g2, 4, none⟩ = some (.slice (some ad) m.f3.length c3) ∧ w'.cell? ⟨(ad.add (i * 42)).block, (ad.add (i * 42)).off + 6, none⟩ = some (.string mo))
    (go_keep)
    (first | (go_at_call 40; refine (K2.out _ (Kd.C_below HC.out (below_drew HB.out))).mono ?_; rintro e w5 ⟨rfl, hb⟩; obtain ⟨hc, hf⟩ := bcell (below_step (below_drew (Below.refl w4.heap.size w4)) hb)))
  replace BK2 := Aside0.mk (blk_below (blk_drew BK2.out) hb)
  replace HB := Aside0.mk (below_step (below_drew HB.out) hb)
  clear hc hf hb hk0 hk4 hg2 hbk hx
  have hk0 : w5.cell? ⟨g2, 0, none⟩ = some (.slice (some ad2) l.length c0) := blk_cell BK2.out 0
  have hu34 := Try.underlying34
  go_wp2_with (first | ((with_reducible refine gate_dst (N := 52) rfl ?_); refine wpList_load_cells rfl 34 (.tmp 51) rfl _ rfl [.string l[n].f0, .slice N1 l[n].f1.length e1, .slice N2 l[n].f2.length e2, .slice N3 l[n].f3.length e3] ?hc _ Try.underlying34 rfl ?hi ?_; (case hc => exact HCM.out _ HB.out); (case hi => kernel_rfl)))
  refine (K3.out _ _ (k34.K_below HB.out HKN.out)).mono ?_
  rintro e w6 ⟨rfl, hb⟩
  go_wp2
  all_goals (go_ret; refine ⟨ret_int ?_, below_step HB.out hb⟩; (try simp only [bne_iff_ne, bne_eq_false_iff_eq, ne_eq] at *); rw [← HR.out]; try ((repeat' split) <;> omega))
set_option maxHeartbeats 16000000 in
set_option maxRecDepth 100000 in
theorem sexprs_2 (x : S49) (cs : List Value) (w : World) (h : k49.K w x cs) (hk : x.f0 = 2) :
    Calls Try.prog 46 #[.agg cs.toArray] w (RetC k47 (([] : List S47)) w) := by
  have HX := Aside0.mk h
  obtain ⟨A7, c7, A8, c8, A19, c19, A30, c30, A41, c41, rfl, hl7, hC7, hl8, hC8, hl19, hC19, hl30, hC30, hl41, hC41⟩ := k49_open h
  have HL7 := Aside0.mk hl7
  have HL8 := Aside0.mk hl8
  have HC7 := Aside0.mk hC7
  have HC8 := Aside0.mk hC8
  have HE7 := Aside0.mk (k47_mk w x.f7 hl19 hC19)
  have HE8 := Aside0.mk (k47_mk w x.f8 hl30 hC30)
  have HE9 := Aside0.mk (k47_mk w x.f9 hl41 hC41)
  have hm8 : x.f6.length ≤ 9223372036854775807 := hC8.2.1
  have HB : Aside0 (Below w.heap.size w w) := ⟨Below.refl _ _⟩
  clear h hl7 hC7 hl8 hC8 hl19 hC19 hl30 hC30 hl41 hC41
  obtain ⟨kd, hkd⟩ : ∃ k, x.f0 = k := ⟨_, rfl⟩
  rw [hkd]
  obtain rfl : kd = 2 := hkd.symm.trans hk
  go_enter Try.func46, Try.ntmps46
  go_wp2_with (first | ((with_reducible refine gate_dst (N := 1) rfl ?_); refine box_event ?hg (N := 1) ?hd (cs := #[.int .i64 2, .string x.f1, .string x.f2.f0, .int .i64 x.f2.f1, .string x.f3.f0, .int .i64 x.f3.f1, .string x.f4, .slice A7 x.f5.length c7, .slice A8 x.f6.length c8, .int .i64 x.f7.f0, .string x.f7.f1.f0, .int .i64 x.f7.f1.f1, .string x.f7.f2.f0, .int .i64 x.f7.f2.f1, .string x.f7.f3.f0, .int .i64 x.f7.f3.f1, .string x.f7.f4.f0, .int .i64 x.f7.f4.f1, .string x.f7.f5, .slice A19 x.f7.f6.length c19, .int .i64 x.f8.f0, .string x.f8.f1.f0, .int .i64 x.f8.f1.f1, .string x.f8.f2.f0, .int .i64 x.f8.f2.f1, .string x.f8.f3.f0, .int .i64 x.f8.f3.f1, .string x.f8.f4.f0, .int .i64 x.f8.f4.f1, .string x.f8.f5, .slice A30 x.f8.f6.length c30, .int .i64 x.f9.f0, .string x.f9.f1.f0, .int .i64 x.f9.f1.f1, .string x.f9.f2.f0, .int .i64 x.f9.f2.f1, .string x.f9.f3.f0, .int .i64 x.f9.f3.f1, .string x.f9.f4.f0, .int .i64 x.f9.f4.f1, .string x.f9.f5, .slice A41 x.f9.f6.length c41]) (t := 49) ?hr ?_; (case hd => rfl); (case hg => rfl); (case hr => first | (go_simp; done) | (go_simp; rfl)); intro g1 hg_ w1 hbox_ hb_; have BK1 := Aside0.mk (hbox_); have GBK1 : Aside0 (w.heap.size ≤ g1) := ⟨by rw [hg_]; exact below_size HB.out⟩; replace HB : Aside0 (Below w.heap.size w w1) := ⟨below_step HB.out hb_⟩; clear hg_ hbox_ hb_; have hz0 : w1.cell? ⟨g1, 0, none⟩ = some (.int .i64 2) := blk_cell BK1.out 0))
  go_ret
  exact ⟨none, 0, rfl, Nat.le_refl _, Kd.C_nil _ _, HB.out⟩
set_option maxHeartbeats 16000000 in
set_option maxRecDepth 100000 in
theorem sexprs_5 (x : S49) (cs : List Value) (w : World) (h : k49.K w x cs) (hk : x.f0 = 5) :
    Calls Try.prog 46 #[.agg cs.toArray] w (RetC k47 (([] : List S47)) w) := by
  have HX := Aside0.mk h
  obtain ⟨A7, c7, A8, c8, A19, c19, A30, c30, A41, c41, rfl, hl7, hC7, hl8, hC8, hl19, hC19, hl30, hC30, hl41, hC41⟩ := k49_open h
  have HL7 := Aside0.mk hl7
  have HL8 := Aside0.mk hl8
  have HC7 := Aside0.mk hC7
  have HC8 := Aside0.mk hC8
  have HE7 := Aside0.mk (k47_mk w x.f7 hl19 hC19)
  have HE8 := Aside0.mk (k47_mk w x.f8 hl30 hC30)
  have HE9 := Aside0.mk (k47_mk w x.f9 hl41 hC41)
  have hm8 : x.f6.length ≤ 9223372036854775807 := hC8.2.1
  have HB : Aside0 (Below w.heap.size w w) := ⟨Below.refl _ _⟩
  clear h hl7 hC7 hl8 hC8 hl19 hC19 hl30 hC30 hl41 hC41
  obtain ⟨kd, hkd⟩ : ∃ k, x.f0 = k := ⟨_, rfl⟩
  rw [hkd]
  obtain rfl : kd = 5 := hkd.symm.trans hk
  go_enter Try.func46, Try.ntmps46
  go_wp2_with (first | ((with_reducible refine gate_dst (N := 1) rfl ?_); refine box_event ?hg (N := 1) ?hd (cs := #[.int .i64 5, .string x.f1, .string x.f2.f0, .int .i64 x.f2.f1, .string x.f3.f0, .int .i64 x.f3.f1, .string x.f4, .slice A7 x.f5.length c7, .slice A8 x.f6.length c8, .int .i64 x.f7.f0, .string x.f7.f1.f0, .int .i64 x.f7.f1.f1, .string x.f7.f2.f0, .int .i64 x.f7.f2.f1, .string x.f7.f3.f0, .int .i64 x.f7.f3.f1, .string x.f7.f4.f0, .int .i64 x.f7.f4.f1, .string x.f7.f5, .slice A19 x.f7.f6.length c19, .int .i64 x.f8.f0, .string x.f8.f1.f0, .int .i64 x.f8.f1.f1, .string x.f8.f2.f0, .int .i64 x.f8.f2.f1, .string x.f8.f3.f0, .int .i64 x.f8.f3.f1, .string x.f8.f4.f0, .int .i64 x.f8.f4.f1, .string x.f8.f5, .slice A30 x.f8.f6.length c30, .int .i64 x.f9.f0, .string x.f9.f1.f0, .int .i64 x.f9.f1.f1, .string x.f9.f2.f0, .int .i64 x.f9.f2.f1, .string x.f9.f3.f0, .int .i64 x.f9.f3.f1, .string x.f9.f4.f0, .int .i64 x.f9.f4.f1, .string x.f9.f5, .slice A41 x.f9.f6.length c41]) (t := 49) ?hr ?_; (case hd => rfl); (case hg => rfl); (case hr => first | (go_simp; done) | (go_simp; rfl)); intro g1 hg_ w1 hbox_ hb_; have BK1 := Aside0.mk (hbox_); have GBK1 : Aside0 (w.heap.size ≤ g1) := ⟨by rw [hg_]; exact below_size HB.out⟩; replace HB : Aside0 (Below w.heap.size w w1) := ⟨below_step HB.out hb_⟩; clear hg_ hbox_ hb_; have hz0 : w1.cell? ⟨g1, 0, none⟩ = some (.int .i64 5) := blk_cell BK1.out 0))
  go_ret
  exact ⟨none, 0, rfl, Nat.le_refl _, Kd.C_nil _ _, HB.out⟩
set_option maxHeartbeats 16000000 in
set_option maxRecDepth 100000 in
theorem sexprs_6 (x : S49) (cs : List Value) (w : World) (h : k49.K w x cs) (hk : x.f0 = 6) :
    Calls Try.prog 46 #[.agg cs.toArray] w (RetC k47 ([x.f8, x.f7, x.f9]) w) := by
  have HX := Aside0.mk h
  obtain ⟨A7, c7, A8, c8, A19, c19, A30, c30, A41, c41, rfl, hl7, hC7, hl8, hC8, hl19, hC19, hl30, hC30, hl41, hC41⟩ := k49_open h
  have HL7 := Aside0.mk hl7
  have HL8 := Aside0.mk hl8
  have HC7 := Aside0.mk hC7
  have HC8 := Aside0.mk hC8
  have HE7 := Aside0.mk (k47_mk w x.f7 hl19 hC19)
  have HE8 := Aside0.mk (k47_mk w x.f8 hl30 hC30)
  have HE9 := Aside0.mk (k47_mk w x.f9 hl41 hC41)
  have hm8 : x.f6.length ≤ 9223372036854775807 := hC8.2.1
  have HB : Aside0 (Below w.heap.size w w) := ⟨Below.refl _ _⟩
  clear h hl7 hC7 hl8 hC8 hl19 hC19 hl30 hC30 hl41 hC41
  obtain ⟨kd, hkd⟩ : ∃ k, x.f0 = k := ⟨_, rfl⟩
  rw [hkd]
  obtain rfl : kd = 6 := hkd.symm.trans hk
  go_enter Try.func46, Try.ntmps46
  go_wp2_with (first | ((with_reducible refine gate_dst (N := 1) rfl ?_); refine box_event ?hg (N := 1) ?hd (cs := #[.int .i64 6, .string x.f1, .string x.f2.f0, .int .i64 x.f2.f1, .string x.f3.f0, .int .i64 x.f3.f1, .string x.f4, .slice A7 x.f5.length c7, .slice A8 x.f6.length c8, .int .i64 x.f7.f0, .string x.f7.f1.f0, .int .i64 x.f7.f1.f1, .string x.f7.f2.f0, .int .i64 x.f7.f2.f1, .string x.f7.f3.f0, .int .i64 x.f7.f3.f1, .string x.f7.f4.f0, .int .i64 x.f7.f4.f1, .string x.f7.f5, .slice A19 x.f7.f6.length c19, .int .i64 x.f8.f0, .string x.f8.f1.f0, .int .i64 x.f8.f1.f1, .string x.f8.f2.f0, .int .i64 x.f8.f2.f1, .string x.f8.f3.f0, .int .i64 x.f8.f3.f1, .string x.f8.f4.f0, .int .i64 x.f8.f4.f1, .string x.f8.f5, .slice A30 x.f8.f6.length c30, .int .i64 x.f9.f0, .string x.f9.f1.f0, .int .i64 x.f9.f1.f1, .string x.f9.f2.f0, .int .i64 x.f9.f2.f1, .string x.f9.f3.f0, .int .i64 x.f9.f3.f1, .string x.f9.f4.f0, .int .i64 x.f9.f4.f1, .string x.f9.f5, .slice A41 x.f9.f6.length c41]) (t := 49) ?hr ?_; (case hd => rfl); (case hg => rfl); (case hr => first | (go_simp; done) | (go_simp; rfl)); intro g1 hg_ w1 hbox_ hb_; have BK1 := Aside0.mk (hbox_); have GBK1 : Aside0 (w.heap.size ≤ g1) := ⟨by rw [hg_]; exact below_size HB.out⟩; replace HB : Aside0 (Below w.heap.size w w1) := ⟨below_step HB.out hb_⟩; clear hg_ hbox_ hb_; have hz0 : w1.cell? ⟨g1, 0, none⟩ = some (.int .i64 6) := blk_cell BK1.out 0; have hz9 : w1.cell? ⟨g1, 9, none⟩ = some (.int .i64 x.f7.f0) := blk_cell BK1.out 9; have hz10 : w1.cell? ⟨g1, 10, none⟩ = some (.string x.f7.f1.f0) := blk_cell BK1.out 10; have hz11 : w1.cell? ⟨g1, 11, none⟩ = some (.int .i64 x.f7.f1.f1) := blk_cell BK1.out 11; have hz12 : w1.cell? ⟨g1, 12, none⟩ = some (.string x.f7.f2.f0) := blk_cell BK1.out 12; have hz13 : w1.cell? ⟨g1, 13, none⟩ = some (.int .i64 x.f7.f2.f1) := blk_cell BK1.out 13; have hz14 : w1.cell? ⟨g1, 14, none⟩ = some (.string x.f7.f3.f0) := blk_cell BK1.out 14; have hz15 : w1.cell? ⟨g1, 15, none⟩ = some (.int .i64 x.f7.f3.f1) := blk_cell BK1.out 15; have hz16 : w1.cell? ⟨g1, 16, none⟩ = some (.string x.f7.f4.f0) := blk_cell BK1.out 16; have hz17 : w1.cell? ⟨g1, 17, none⟩ = some (.int .i64 x.f7.f4.f1) := blk_cell BK1.out 17; have hz18 : w1.cell? ⟨g1, 18, none⟩ = some (.string x.f7.f5) := blk_cell BK1.out 18; have hz19 : w1.cell? ⟨g1, 19, none⟩ = some (.slice A19 x.f7.f6.length c19) := blk_cell BK1.out 19; have hz20 : w1.cell? ⟨g1, 20, none⟩ = some (.int .i64 x.f8.f0) := blk_cell BK1.out 20; have hz21 : w1.cell? ⟨g1, 21, none⟩ = some (.string x.f8.f1.f0) := blk_cell BK1.out 21; have hz22 : w1.cell? ⟨g1, 22, none⟩ = some (.int .i64 x.f8.f1.f1) := blk_cell BK1.out 22; have hz23 : w1.cell? ⟨g1, 23, none⟩ = some (.string x.f8.f2.f0) := blk_cell BK1.out 23; have hz24 : w1.cell? ⟨g1, 24, none⟩ = some (.int .i64 x.f8.f2.f1) := blk_cell BK1.out 24; have hz25 : w1.cell? ⟨g1, 25, none⟩ = some (.string x.f8.f3.f0) := blk_cell BK1.out 25; have hz26 : w1.cell? ⟨g1, 26, none⟩ = some (.int .i64 x.f8.f3.f1) := blk_cell BK1.out 26; have hz27 : w1.cell? ⟨g1, 27, none⟩ = some (.string x.f8.f4.f0) := blk_cell BK1.out 27; have hz28 : w1.cell? ⟨g1, 28, none⟩ = some (.int .i64 x.f8.f4.f1) := blk_cell BK1.out 28; have hz29 : w1.cell? ⟨g1, 29, none⟩ = some (.string x.f8.f5) := blk_cell BK1.out 29; have hz30 : w1.cell? ⟨g1, 30, none⟩ = some (.slice A30 x.f8.f6.length c30) := blk_cell BK1.out 30; have hz31 : w1.cell? ⟨g1, 31, none⟩ = some (.int .i64 x.f9.f0) := blk_cell BK1.out 31; have hz32 : w1.cell? ⟨g1, 32, none⟩ = some (.string x.f9.f1.f0) := blk_cell BK1.out 32; have hz33 : w1.cell? ⟨g1, 33, none⟩ = some (.int .i64 x.f9.f1.f1) := blk_cell BK1.out 33; have hz34 : w1.cell? ⟨g1, 34, none⟩ = some (.string x.f9.f2.f0) := blk_cell BK1.out 34; have hz35 : w1.cell? ⟨g1, 35, none⟩ = some (.int .i64 x.f9.f2.f1) := blk_cell BK1.out 35; have hz36 : w1.cell? ⟨g1, 36, none⟩ = some (.string x.f9.f3.f0) := blk_cell BK1.out 36; have hz37 : w1.cell? ⟨g1, 37, none⟩ = some (.int .i64 x.f9.f3.f1) := blk_cell BK1.out 37; have hz38 : w1.cell? ⟨g1, 38, none⟩ = some (.string x.f9.f4.f0) := blk_cell BK1.out 38; have hz39 : w1.cell? ⟨g1, 39, none⟩ = some (.int .i64 x.f9.f4.f1) := blk_cell BK1.out 39; have hz40 : w1.cell? ⟨g1, 40, none⟩ = some (.string x.f9.f5) := blk_cell BK1.out 40; have hz41 : w1.cell? ⟨g1, 41, none⟩ = some (.slice A41 x.f9.f6.length c41) := blk_cell BK1.out 41) | ((with_reducible refine gate_dst (N := 19) rfl ?_); refine Kd.R_lit (Kd.fixed k47 w) _ 47 ?hg (N := 19) ?hd (xs := [x.f8, x.f7, x.f9]) (inner := [.int .i64 x.f8.f0, .string x.f8.f1.f0, .int .i64 x.f8.f1.f1, .string x.f8.f2.f0, .int .i64 x.f8.f2.f1, .string x.f8.f3.f0, .int .i64 x.f8.f3.f1, .string x.f8.f4.f0, .int .i64 x.f8.f4.f1, .string x.f8.f5, .slice A30 x.f8.f6.length c30, .int .i64 x.f7.f0, .string x.f7.f1.f0, .int .i64 x.f7.f1.f1, .string x.f7.f2.f0, .int .i64 x.f7.f2.f1, .string x.f7.f3.f0, .int .i64 x.f7.f3.f1, .string x.f7.f4.f0, .int .i64 x.f7.f4.f1, .string x.f7.f5, .slice A19 x.f7.f6.length c19, .int .i64 x.f9.f0, .string x.f9.f1.f0, .int .i64 x.f9.f1.f1, .string x.f9.f2.f0, .int .i64 x.f9.f2.f1, .string x.f9.f3.f0, .int .i64 x.f9.f3.f1, .string x.f9.f4.f0, .int .i64 x.f9.f4.f1, .string x.f9.f5, .slice A41 x.f9.f6.length c41]) (ok := fun _ => True) (okp := fun _ => True) ?hr ?hp (fun _ hk => hk) trivial (Below.refl _ _) (Nat.le_refl _) (by simp) ?_; (case hd => rfl); (case hg => rfl); (case hr => first | (go_simp; done) | (go_simp; rfl)); (case hp => exact (Reps.snoc (Reps.snoc (Reps.snoc (Reps.none _ _) (show k47.K w x.f8 _ from HE8.out) rfl) (show k47.K w x.f7 _ from HE7.out) rfl) (show k47.K w x.f9 _ from HE9.out) rfl)); intro v_ wl ho_ hb_ hg_ hn_; have HO : Aside0 ((Kd.fixed k47 w).R 47 wl w1.heap.size (fun _ => True) v_ [x.f8, x.f7, x.f9]) := ⟨ho_⟩; have HBL : Aside0 (Below w.heap.size w wl) := ⟨below_step HB.out hb_⟩; clear ho_ hb_ hg_ hn_))
  go_ret
  obtain ⟨A, c, rfl, hle, hC⟩ := Kd.R_reads HO.out
  exact ⟨A, c, rfl, hle, C_fixed HBL.out hC, HBL.out⟩
set_option maxHeartbeats 16000000 in
set_option maxRecDepth 100000 in
theorem sexprs_0 (x : S49) (cs : List Value) (w : World) (h : k49.K w x cs) (hk : x.f0 ≠ 2 ∧ x.f0 ≠ 5 ∧ x.f0 ≠ 6 ∧ x.f0 ≠ 7) :
    Calls Try.prog 46 #[.agg cs.toArray] w (RetC k47 ([x.f7]) w) := by
  have HX := Aside0.mk h
  obtain ⟨A7, c7, A8, c8, A19, c19, A30, c30, A41, c41, rfl, hl7, hC7, hl8, hC8, hl19, hC19, hl30, hC30, hl41, hC41⟩ := k49_open h
  have HL7 := Aside0.mk hl7
  have HL8 := Aside0.mk hl8
  have HC7 := Aside0.mk hC7
  have HC8 := Aside0.mk hC8
  have HE7 := Aside0.mk (k47_mk w x.f7 hl19 hC19)
  have HE8 := Aside0.mk (k47_mk w x.f8 hl30 hC30)
  have HE9 := Aside0.mk (k47_mk w x.f9 hl41 hC41)
  have hm8 : x.f6.length ≤ 9223372036854775807 := hC8.2.1
  have HB : Aside0 (Below w.heap.size w w) := ⟨Below.refl _ _⟩
  clear h hl7 hC7 hl8 hC8 hl19 hC19 hl30 hC30 hl41 hC41
  obtain ⟨kd, hkd⟩ : ∃ k, x.f0 = k := ⟨_, rfl⟩
  rw [hkd]
  have e2 : (kd == 2) = false := by simp; omega
  have e5 : (kd == 5) = false := by simp; omega
  have e6 : (kd == 6) = false := by simp; omega
  have e7 : (kd == 7) = false := by simp; omega
  clear hk
  go_enter Try.func46, Try.ntmps46
  go_wp2_with (first | ((with_reducible refine gate_dst (N := 1) rfl ?_); refine box_event ?hg (N := 1) ?hd (cs := #[.int .i64 kd, .string x.f1, .string x.f2.f0, .int .i64 x.f2.f1, .string x.f3.f0, .int .i64 x.f3.f1, .string x.f4, .slice A7 x.f5.length c7, .slice A8 x.f6.length c8, .int .i64 x.f7.f0, .string x.f7.f1.f0, .int .i64 x.f7.f1.f1, .string x.f7.f2.f0, .int .i64 x.f7.f2.f1, .string x.f7.f3.f0, .int .i64 x.f7.f3.f1, .string x.f7.f4.f0, .int .i64 x.f7.f4.f1, .string x.f7.f5, .slice A19 x.f7.f6.length c19, .int .i64 x.f8.f0, .string x.f8.f1.f0, .int .i64 x.f8.f1.f1, .string x.f8.f2.f0, .int .i64 x.f8.f2.f1, .string x.f8.f3.f0, .int .i64 x.f8.f3.f1, .string x.f8.f4.f0, .int .i64 x.f8.f4.f1, .string x.f8.f5, .slice A30 x.f8.f6.length c30, .int .i64 x.f9.f0, .string x.f9.f1.f0, .int .i64 x.f9.f1.f1, .string x.f9.f2.f0, .int .i64 x.f9.f2.f1, .string x.f9.f3.f0, .int .i64 x.f9.f3.f1, .string x.f9.f4.f0, .int .i64 x.f9.f4.f1, .string x.f9.f5, .slice A41 x.f9.f6.length c41]) (t := 49) ?hr ?_; (case hd => rfl); (case hg => rfl); (case hr => first | (go_simp; done) | (go_simp; rfl)); intro g1 hg_ w1 hbox_ hb_; have BK1 := Aside0.mk (hbox_); have GBK1 : Aside0 (w.heap.size ≤ g1) := ⟨by rw [hg_]; exact below_size HB.out⟩; replace HB : Aside0 (Below w.heap.size w w1) := ⟨below_step HB.out hb_⟩; clear hg_ hbox_ hb_; have hz0 : w1.cell? ⟨g1, 0, none⟩ = some (.int .i64 kd) := blk_cell BK1.out 0; have hz9 : w1.cell? ⟨g1, 9, none⟩ = some (.int .i64 x.f7.f0) := blk_cell BK1.out 9; have hz10 : w1.cell? ⟨g1, 10, none⟩ = some (.string x.f7.f1.f0) := blk_cell BK1.out 10; have hz11 : w1.cell? ⟨g1, 11, none⟩ = some (.int .i64 x.f7.f1.f1) := blk_cell BK1.out 11; have hz12 : w1.cell? ⟨g1, 12, none⟩ = some (.string x.f7.f2.f0) := blk_cell BK1.out 12; have hz13 : w1.cell? ⟨g1, 13, none⟩ = some (.int .i64 x.f7.f2.f1) := blk_cell BK1.out 13; have hz14 : w1.cell? ⟨g1, 14, none⟩ = some (.string x.f7.f3.f0) := blk_cell BK1.out 14; have hz15 : w1.cell? ⟨g1, 15, none⟩ = some (.int .i64 x.f7.f3.f1) := blk_cell BK1.out 15; have hz16 : w1.cell? ⟨g1, 16, none⟩ = some (.string x.f7.f4.f0) := blk_cell BK1.out 16; have hz17 : w1.cell? ⟨g1, 17, none⟩ = some (.int .i64 x.f7.f4.f1) := blk_cell BK1.out 17; have hz18 : w1.cell? ⟨g1, 18, none⟩ = some (.string x.f7.f5) := blk_cell BK1.out 18; have hz19 : w1.cell? ⟨g1, 19, none⟩ = some (.slice A19 x.f7.f6.length c19) := blk_cell BK1.out 19) | ((with_reducible refine gate_dst (N := 38) rfl ?_); refine Kd.R_lit (Kd.fixed k47 w) _ 47 ?hg (N := 38) ?hd (xs := [x.f7]) (inner := [.int .i64 x.f7.f0, .string x.f7.f1.f0, .int .i64 x.f7.f1.f1, .string x.f7.f2.f0, .int .i64 x.f7.f2.f1, .string x.f7.f3.f0, .int .i64 x.f7.f3.f1, .string x.f7.f4.f0, .int .i64 x.f7.f4.f1, .string x.f7.f5, .slice A19 x.f7.f6.length c19]) (ok := fun _ => True) (okp := fun _ => True) ?hr ?hp (fun _ hk => hk) trivial (Below.refl _ _) (Nat.le_refl _) (by simp) ?_; (case hd => rfl); (case hg => rfl); (case hr => first | (go_simp; done) | (go_simp; rfl)); (case hp => exact (Reps.snoc (Reps.none _ _) (show k47.K w x.f7 _ from HE7.out) rfl)); intro v_ wl ho_ hb_ hg_ hn_; have HO : Aside0 ((Kd.fixed k47 w).R 47 wl w1.heap.size (fun _ => True) v_ [x.f7]) := ⟨ho_⟩; have HBL : Aside0 (Below w.heap.size w wl) := ⟨below_step HB.out hb_⟩; clear ho_ hb_ hg_ hn_))
  go_ret
  obtain ⟨A, c, rfl, hle, hC⟩ := Kd.R_reads HO.out
  exact ⟨A, c, rfl, hle, C_fixed HBL.out hC, HBL.out⟩
set_option maxHeartbeats 16000000 in
set_option maxRecDepth 100000 in
theorem sexprs_7 (x : S49) (cs : List Value) (w : World) (h : k49.K w x cs) (hk : x.f0 = 7) (hlen : x.f6.length * 160 ≤ 140737488351232) :
    Calls Try.prog 46 #[.agg cs.toArray] w (RetC k47 (x.f6.map (·.f1)) w) := by
  have HX := Aside0.mk h
  obtain ⟨A7, c7, A8, c8, A19, c19, A30, c30, A41, c41, rfl, hl7, hC7, hl8, hC8, hl19, hC19, hl30, hC30, hl41, hC41⟩ := k49_open h
  have HL7 := Aside0.mk hl7
  have HL8 := Aside0.mk hl8
  have HC7 := Aside0.mk hC7
  have HC8 := Aside0.mk hC8
  have HE7 := Aside0.mk (k47_mk w x.f7 hl19 hC19)
  have HE8 := Aside0.mk (k47_mk w x.f8 hl30 hC30)
  have HE9 := Aside0.mk (k47_mk w x.f9 hl41 hC41)
  have hm8 : x.f6.length ≤ 9223372036854775807 := hC8.2.1
  have HB : Aside0 (Below w.heap.size w w) := ⟨Below.refl _ _⟩
  clear h hl7 hC7 hl8 hC8 hl19 hC19 hl30 hC30 hl41 hC41
  obtain ⟨kd, hkd⟩ : ∃ k, x.f0 = k := ⟨_, rfl⟩
  rw [hkd]
  obtain rfl : kd = 7 := hkd.symm.trans hk
  obtain ⟨L, hL⟩ : ∃ L, x.f6.map (·.f1) = L := ⟨_, rfl⟩
  rw [hL]
  have HLL := Aside0.mk hL
  clear hL
  go_enter Try.func46, Try.ntmps46
  go_wp2_with (first | ((with_reducible refine gate_dst (N := 1) rfl ?_); refine box_event ?hg (N := 1) ?hd (cs := #[.int .i64 7, .string x.f1, .string x.f2.f0, .int .i64 x.f2.f1, .string x.f3.f0, .int .i64 x.f3.f1, .string x.f4, .slice A7 x.f5.length c7, .slice A8 x.f6.length c8, .int .i64 x.f7.f0, .string x.f7.f1.f0, .int .i64 x.f7.f1.f1, .string x.f7.f2.f0, .int .i64 x.f7.f2.f1, .string x.f7.f3.f0, .int .i64 x.f7.f3.f1, .string x.f7.f4.f0, .int .i64 x.f7.f4.f1, .string x.f7.f5, .slice A19 x.f7.f6.length c19, .int .i64 x.f8.f0, .string x.f8.f1.f0, .int .i64 x.f8.f1.f1, .string x.f8.f2.f0, .int .i64 x.f8.f2.f1, .string x.f8.f3.f0, .int .i64 x.f8.f3.f1, .string x.f8.f4.f0, .int .i64 x.f8.f4.f1, .string x.f8.f5, .slice A30 x.f8.f6.length c30, .int .i64 x.f9.f0, .string x.f9.f1.f0, .int .i64 x.f9.f1.f1, .string x.f9.f2.f0, .int .i64 x.f9.f2.f1, .string x.f9.f3.f0, .int .i64 x.f9.f3.f1, .string x.f9.f4.f0, .int .i64 x.f9.f4.f1, .string x.f9.f5, .slice A41 x.f9.f6.length c41]) (t := 49) ?hr ?_; (case hd => rfl); (case hg => rfl); (case hr => first | (go_simp; done) | (go_simp; rfl)); intro g1 hg_ w1 hbox_ hb_; have BK1 := Aside0.mk (hbox_); have GBK1 : Aside0 (w.heap.size ≤ g1) := ⟨by rw [hg_]; exact below_size HB.out⟩; replace HB : Aside0 (Below w.heap.size w w1) := ⟨below_step HB.out hb_⟩; clear hg_ hbox_ hb_; have hz0 : w1.cell? ⟨g1, 0, none⟩ = some (.int .i64 7) := blk_cell BK1.out 0; have hz8 : w1.cell? ⟨g1, 8, none⟩ = some (.slice A8 x.f6.length c8) := blk_cell BK1.out 8))
  clear hz0 hz8
  have HO : Aside0 ((Kd.fixed k47 w).R 47 w1 w.heap.size (fun _ => True) (.slice none 0 0) ((x.f6.take 0).map (·.f1))) := ⟨Kd.R_nil _ _ _ _ _⟩
  go_loopw [3, 25] (fun a b wr => ∃ i : Nat, b = .int .i64 (i : Int) ∧ i ≤ x.f6.length ∧ Aside0 ((Kd.fixed k47 w).R 47 wr w.heap.size (fun _ => True) a ((x.f6.take i).map (·.f1))) ∧ Aside0 (wr.heap[g1]? = some (.cells #[.int .i64 7, .string x.f1, .string x.f2.f0, .int .i64 x.f2.f1, .string x.f3.f0, .int .i64 x.f3.f1, .string x.f4, .slice A7 x.f5.length c7, .slice A8 x.f6.length c8, .int .i64 x.f7.f0, .string x.f7.f1.f0, .int .i64 x.f7.f1.f1, .string x.f7.f2.f0, .int .i64 x.f7.f2.f1, .string x.f7.f3.f0, .int .i64 x.f7.f3.f1, .string x.f7.f4.f0, .int .i64 x.f7.f4.f1, .string x.f7.f5, .slice A19 x.f7.f6.length c19, .int .i64 x.f8.f0, .string x.f8.f1.f0, .int .i64 x.f8.f1.f1, .string x.f8.f2.f0, .int .i64 x.f8.f2.f1, .string x.f8.f3.f0, .int .i64 x.f8.f3.f1, .string x.f8.f4.f0, .int .i64 x.f8.f4.f1, .string x.f8.f5, .slice A30 x.f8.f6.length c30, .int .i64 x.f9.f0, .string x.f9.f1.f0, .int .i64 x.f9.f1.f1, .string x.f9.f2.f0, .int .i64 x.f9.f2.f1, .string x.f9.f3.f0, .int .i64 x.f9.f3.f1, .string x.f9.f4.f0, .int .i64 x.f9.f4.f1, .string x.f9.f5, .slice A41 x.f9.f6.length c41] 49 (0, 0))) ∧ Aside0 (Below w.heap.size w wr)) (fun _ b _ => x.f6.length - (intOf b).toNat)
  case atStart => exact ⟨0, rfl, Nat.zero_le _, HO, BK1, HB⟩
  case round =>

    clear HO BK1 HB
    obtain ⟨i, rfl, hi, HO, BK1, HB⟩ := hrel
    have hg1 : g1 < wr.heap.size := blk_lt BK1.out
    by_cases hlt : i < x.f6.length
    · have hi0 : (0 : Int) ≤ (i : Int) := by omega
      have hi1 : (i : Int) < (x.f6.length : Int) := by omega
      obtain ⟨ad, E11, e11, rfl, hx0, hx1, hx2, hx3, hx4, hx5, hx6, hx7, hx8, hx9, hx10, hx11, hle, hCe⟩ := at64 HC8.out i hlt
      replace hx0 := pw_cell_below HB.out hx0
      replace hx1 := pw_cell_below HB.out hx1
      replace hx2 := pw_cell_below HB.out hx2
      replace hx3 := pw_cell_below HB.out hx3
      replace hx4 := pw_cell_below HB.out hx4
      replace hx5 := pw_cell_below HB.out hx5
      replace hx6 := pw_cell_below HB.out hx6
      replace hx7 := pw_cell_below HB.out hx7
      replace hx8 := pw_cell_below HB.out hx8
      replace hx9 := pw_cell_below HB.out hx9
      replace hx10 := pw_cell_below HB.out hx10
      replace hx11 := pw_cell_below HB.out hx11
      have HK := Aside0.mk (k47_mk w x.f6[i].f1 hle hCe)
      have hst : (x.f6.take (i + 1)).map (·.f1) = (x.f6.take i).map (·.f1) ++ [x.f6[i].f1] := by rw [List.take_succ_eq_append_getElem hlt, List.map_append]; rfl
      have hll : ((x.f6.take i).map (·.f1)).length = i := by rw [List.length_map, List.length_take]; omega
      obtain ⟨y, hy⟩ : ∃ y, x.f6[i].f1 = y := ⟨_, rfl⟩
      rw [hy] at hx1 hx2 hx3 hx4 hx5 hx6 hx7 hx8 hx9 hx10 hx11 HK hst
      obtain ⟨T, hT⟩ : ∃ T, (x.f6.take i).map (·.f1) = T := ⟨_, rfl⟩
      rw [hT] at HO hst hll
      have HST := Aside0.mk hst
      have HTL : Aside0 ((T.length + 1) * 144 ≤ 140737488355328) := ⟨by omega⟩
      generalize x.f6[i].f0 = y0 at hx0
      clear hle hCe hy hT hst hll
      go_wp2_with (first | ((with_reducible refine gate_dst (N := 5) rfl ?_); refine box_event ?hg (N := 5) ?hd (cs := #[.string ⟨#[]⟩, .int .i64 0, .string ⟨#[]⟩, .int .i64 0, .string ⟨#[]⟩, .int .i64 0, .string ⟨#[]⟩, .int .i64 0, .string ⟨#[]⟩, .int .i64 0, .string ⟨#[]⟩, .slice none 0 0]) (t := 64) ?hr ?_; (case hd => rfl); (case hg => rfl); (case hr => first | (go_simp; done) | (go_simp; rfl)); intro gv hg_ wv0 hbox_ hb_; replace BK1 := Aside0.mk (blk_below BK1.out hb_); have BZgv := Aside0.mk (hbox_); have GBZgv : Aside0 (w.heap.size ≤ gv) := ⟨by rw [hg_]; exact below_size HB.out⟩; replace HB : Aside0 (Below w.heap.size w wv0) := ⟨below_step HB.out hb_⟩; have HVgv : Aside0 (wr.heap.size ≤ gv ∧ Below wr.heap.size wr wv0) := ⟨Nat.le_of_eq hg_.symm, hb_⟩; clear hg_ hbox_ hb_) | ((with_reducible refine gate_ (.store 64 (.tmp 5) (.tmp 28)) rfl ?_); refine wpList_store_box rfl rfl 64 (.tmp 5) (.tmp 28) rfl (g := gv) (e := 64) [.string y0, .int .i64 y.f0, .string y.f1.f0, .int .i64 y.f1.f1, .string y.f2.f0, .int .i64 y.f2.f1, .string y.f3.f0, .int .i64 y.f3.f1, .string y.f4.f0, .int .i64 y.f4.f1, .string y.f5, .slice E11 y.f6.length e11] rfl rfl BZgv.out rfl ?hi ?h1 ?_; (case hi => kernel_rfl); (case h1 => simp [Value.oneCell']); intro wv hbx_ hfar_ hsz_ hbel_; replace BK1 := Aside0.mk ((hfar_ _ (blk_ne BK1.out BZgv.out (by decide))).trans BK1.out); have BKv := Aside0.mk (hbx_); replace HB : Aside0 (Below w.heap.size w wv) := ⟨hbel_ _ GBZgv.out w HB.out⟩; replace HO := Aside0.mk (Kd.R_below HO.out (hbel_ _ HVgv.out.1 _ HVgv.out.2)); have hv1 : wv.cell? ⟨gv, 1, none⟩ = some (.int .i64 y.f0) := blk_cell hbx_ 1; have hv2 : wv.cell? ⟨gv, 2, none⟩ = some (.string y.f1.f0) := blk_cell hbx_ 2; have hv3 : wv.cell? ⟨gv, 3, none⟩ = some (.int .i64 y.f1.f1) := blk_cell hbx_ 3; have hv4 : wv.cell? ⟨gv, 4, none⟩ = some (.string y.f2.f0) := blk_cell hbx_ 4; have hv5 : wv.cell? ⟨gv, 5, none⟩ = some (.int .i64 y.f2.f1) := blk_cell hbx_ 5; have hv6 : wv.cell? ⟨gv, 6, none⟩ = some (.string y.f3.f0) := blk_cell hbx_ 6; have hv7 : wv.cell? ⟨gv, 7, none⟩ = some (.int .i64 y.f3.f1) := blk_cell hbx_ 7; have hv8 : wv.cell? ⟨gv, 8, none⟩ = some (.string y.f4.f0) := blk_cell hbx_ 8; have hv9 : wv.cell? ⟨gv, 9, none⟩ = some (.int .i64 y.f4.f1) := blk_cell hbx_ 9; have hv10 : wv.cell? ⟨gv, 10, none⟩ = some (.string y.f5) := blk_cell hbx_ 10; have hv11 : wv.cell? ⟨gv, 11, none⟩ = some (.slice E11 y.f6.length e11) := blk_cell hbx_ 11; clear HVgv hbx_ hfar_ hsz_ hbel_ BZgv) | (at_builtin; refine Kd.R_append (Kd.fixed k47 w) (w0 := w) w.heap.size rfl (.tmp 29) (.tmp 32) 45 47 _ 144 rfl Try.underlying45 info47 rfl (show 0 < 11 by decide) (by omega) u3 T y [.int .i64 y.f0, .string y.f1.f0, .int .i64 y.f1.f1, .string y.f2.f0, .int .i64 y.f2.f1, .string y.f3.f0, .int .i64 y.f3.f1, .string y.f4.f0, .int .i64 y.f4.f1, .string y.f5, .slice E11 y.f6.length e11] (fun _ => True) (fun _ => False) rfl rfl ?hp (fun _ h => h.elim) (fun _ _ => trivial) ?hO ?hB ?hs ?hl ?_; (case hp => exact HK.out); (case hO => exact HO.out); (case hB => exact HB.out); (case hs => exact below_size HB.out); (case hl => exact HTL.out); intro v1 w2 ho hb hgr hat; have HO2 := Aside0.mk ho; have HB2 := Aside0.mk hb; have BK2 : Aside0 (w2.heap[g1]? = some (.cells #[.int .i64 7, .string x.f1, .string x.f2.f0, .int .i64 x.f2.f1, .string x.f3.f0, .int .i64 x.f3.f1, .string x.f4, .slice A7 x.f5.length c7, .slice (some ad) x.f6.length c8, .int .i64 x.f7.f0, .string x.f7.f1.f0, .int .i64 x.f7.f1.f1, .string x.f7.f2.f0, .int .i64 x.f7.f2.f1, .string x.f7.f3.f0, .int .i64 x.f7.f3.f1, .string x.f7.f4.f0, .int .i64 x.f7.f4.f1, .string x.f7.f5, .slice A19 x.f7.f6.length c19, .int .i64 x.f8.f0, .string x.f8.f1.f0, .int .i64 x.f8.f1.f1, .string x.f8.f2.f0, .int .i64 x.f8.f2.f1, .string x.f8.f3.f0, .int .i64 x.f8.f3.f1, .string x.f8.f4.f0, .int .i64 x.f8.f4.f1, .string x.f8.f5, .slice A30 x.f8.f6.length c30, .int .i64 x.f9.f0, .string x.f9.f1.f0, .int .i64 x.f9.f1.f1, .string x.f9.f2.f0, .int .i64 x.f9.f2.f1, .string x.f9.f3.f0, .int .i64 x.f9.f3.f1, .string x.f9.f4.f0, .int .i64 x.f9.f4.f1, .string x.f9.f5, .slice A41 x.f9.f6.length c41] 49 (0, 0))) := ⟨blk_grown BK1.out hgr (Kd.R_ne HO.out BK1.out (by decide))⟩; clear ho hb hgr hat))
      go_roundw
      case rel => exact ⟨i + 1, by go_num, by omega, ⟨by rw [HST.out]; exact HO2.out⟩, BK2, HB2⟩
      case measure => simp [intOf]; omega
    · obtain rfl : i = x.f6.length := by omega
      rw [List.take_length] at HO
      rw [HLL.out] at HO
      obtain ⟨A, c, rfl, hle, hC⟩ := Kd.R_reads HO.out
      have HLE := Aside0.mk hle
      have HCC := Aside0.mk (C_fixed HB.out hC)
      clear hle hC
      go_wp2
      go_ret
      exact ⟨A, c, rfl, HLE.out, HCC.out, HB.out⟩
theorem sexprs_any (x : S49) (cs : List Value) (w : World) (h : k49.K w x cs) (hlen : x.f6.length * 160 ≤ 140737488351232) : Calls Try.prog 46 #[.agg cs.toArray] w (RetC k47 (exprsL x) w) := by
  unfold exprsL
  by_cases h2 : x.f0 = 2
  · rw [if_pos (.inl h2)]; exact sexprs_2 x cs w h h2
  by_cases h5 : x.f0 = 5
  · rw [if_pos (.inr h5)]; exact sexprs_5 x cs w h h5
  rw [if_neg (by omega)]
  by_cases h6 : x.f0 = 6
  · rw [if_pos h6]; exact sexprs_6 x cs w h h6
  rw [if_neg h6]
  by_cases h7 : x.f0 = 7
  · rw [if_pos h7]; exact sexprs_7 x cs w h h7 hlen
  rw [if_neg h7]
  exact sexprs_0 x cs w h ⟨h2, h5, h6, h7⟩
end Go.Proofs.Ytnfhlhjbmcofoaa.S
