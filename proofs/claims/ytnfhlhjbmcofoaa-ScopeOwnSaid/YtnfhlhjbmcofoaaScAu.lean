/- Scope: the walk of the law ScopeAhead. -/
import Derived.Test.YtnfhlhjbmcofoaaScAs
namespace Go.Proofs.Ytnfhlhjbmcofoaa.S
open Go.RowKit Go.Proofs.YtnfhlhjbmcofoaaW.PrintWords Go.Proofs.YtnfhlhjbmcofoaaW.PrintLast
set_option linter.unusedVariables false
set_option linter.unusedSimpArgs false
theorem info49 : (Try.prog.info? 49).map (fun i => (i.zero, i.size, i.bytes)) = some (some (.agg #[.int .i64 0, .string ⟨#[]⟩, .string ⟨#[]⟩, .int .i64 0, .string ⟨#[]⟩, .int .i64 0, .string ⟨#[]⟩, .slice none 0 0, .slice none 0 0, .int .i64 0, .string ⟨#[]⟩, .int .i64 0, .string ⟨#[]⟩, .int .i64 0, .string ⟨#[]⟩, .int .i64 0, .string ⟨#[]⟩, .int .i64 0, .string ⟨#[]⟩, .slice none 0 0, .int .i64 0, .string ⟨#[]⟩, .int .i64 0, .string ⟨#[]⟩, .int .i64 0, .string ⟨#[]⟩, .int .i64 0, .string ⟨#[]⟩, .int .i64 0, .string ⟨#[]⟩, .slice none 0 0, .int .i64 0, .string ⟨#[]⟩, .int .i64 0, .string ⟨#[]⟩, .int .i64 0, .string ⟨#[]⟩, .int .i64 0, .string ⟨#[]⟩, .int .i64 0, .string ⟨#[]⟩, .slice none 0 0]), 42, 568) := by kernel_rfl
theorem u8_rng {n : Int} (h : (Lit.int .u8 n).wf = true) : 0 ≤ n ∧ n ≤ 255 := by
  simp [Lit.wf, IntKind.min, IntKind.max, IntKind.signed, IntKind.bits] at h
  omega
theorem w64_u8 {x : Int} (h : 0 ≤ x ∧ x ≤ 255) : wrap64 x = ((x.toNat : Nat) : Int) := by unfold wrap64; omega
theorem mod_at {x : Int} (h : 0 ≤ x ∧ x ≤ 255) {n : Nat} (hn : 0 < n) : (wrap64 x).tmod (n : Int) = ((x.toNat % n : Nat) : Int) := by
  rw [w64_u8 h]; rfl
theorem R_fresh {α : Type} {d : Kd α} {e base : Nat} {ok : Nat → Prop} {W : World} {v : Value} {xs : List α} (h : d.R e W base ok v xs) (k : Nat) (hk : W.heap.size ≤ k) : some k ≠ v.ownBlock := fun he => by
  obtain ⟨inner, ho⟩ := Kd.R_own h
  have := own_lt ho k he.symm
  omega
theorem R_two {α : Type} {d : Kd α} {e base : Nat} {W W1 : World} {u v v' : Value} {xs : List α} (h : d.R e W base (fun k => some k ≠ v.ownBlock) u xs) (hgr : W.grownBy W1 v.ownBlock) (hat : v'.ownBlock = v.ownBlock ∨ ∃ b, v'.ownBlock = some b ∧ W.heap.size ≤ b) : d.R e W1 base (fun k => some k ≠ v'.ownBlock) u xs :=
  Kd.R_mono (Kd.R_move (Kd.R_bound h) (fun k hk => hgr.block k hk.2.2.1 hk.1)) (fun k hk he => by
    rcases hat with h | ⟨b, h, hle⟩
    · rw [h] at he; exact hk.1 he
    · rw [h] at he
      injection he with he
      have := hk.2.2.1; omega)
def turnL (xs : List S49) (t k : Nat) : List S49 := (List.range k).map fun j => xs.getD ((j + t) % xs.length) z49
def backL (xs : List S49) (k : Nat) : List S49 := (List.range k).map fun j => xs.getD (xs.length - 1 - j) z49
theorem back_perm (xs : List S49) : (backL xs xs.length).Perm xs := by
  have e : backL xs xs.length = xs.reverse := by
    refine List.ext_getElem (by simp [backL]) fun j h1 h2 => ?_
    simp only [backL, List.length_map, List.length_range] at h1
    simp only [backL, List.getElem_map, List.getElem_range, List.getElem_reverse, List.getD_eq_getElem?_getD]
    rw [List.getElem?_eq_getElem (by omega)]; rfl
  rw [e]; exact List.reverse_perm xs
theorem turn_perm (xs : List S49) (t : Nat) : (turnL xs t xs.length).Perm xs := by
  by_cases h0 : xs.length = 0
  · rw [List.length_eq_zero_iff] at h0; subst h0; exact List.Perm.refl _
  have hr : t % xs.length < xs.length := Nat.mod_lt _ (by omega)
  have e : turnL xs t xs.length = xs.drop (t % xs.length) ++ xs.take (t % xs.length) := by
    refine List.ext_getElem (by simp [turnL]; omega) fun j h1 h2 => ?_
    simp only [turnL, List.length_map, List.length_range] at h1
    simp only [turnL, List.getElem_map, List.getElem_range, List.getD_eq_getElem?_getD]
    have hm : (j + t) % xs.length < xs.length := Nat.mod_lt _ (by omega)
    rw [List.getElem?_eq_getElem hm, Option.getD_some]
    by_cases hj : j < xs.length - t % xs.length
    · rw [List.getElem_append_left (by simpa using hj), List.getElem_drop]
      congr 1
      rw [Nat.add_mod, Nat.mod_eq_of_lt h1, Nat.mod_eq_of_lt (by omega)]; omega
    · rw [List.getElem_append_right (by simp; omega), List.getElem_take]
      congr 1
      rw [List.length_drop, Nat.add_mod, Nat.mod_eq_of_lt h1, Nat.mod_eq_sub_mod (by omega), Nat.mod_eq_of_lt (by omega)]; omega
  rw [e]
  exact (List.perm_append_comm).trans (by rw [List.take_append_drop])
theorem turn_step (xs : List S49) (t k : Nat) : turnL xs t (k + 1) = turnL xs t k ++ [xs.getD ((k + t) % xs.length) z49] := by simp [turnL, List.range_succ]
theorem back_step (xs : List S49) (k : Nat) : backL xs (k + 1) = backL xs k ++ [xs.getD (xs.length - 1 - k) z49] := by simp [backL, List.range_succ]
theorem sml_set {l : List S34} (h : Sml l) {i : Nat} (hi : i < l.length) {xs : List S49} (hx : xs.length = l[i].f3.length) : Sml (l.set i (its l[i] xs)) := ⟨by rw [List.length_set]; exact h.1, fun m hm => by
  rcases List.mem_or_eq_of_mem_set hm with hm | rfl
  · exact h.2 m hm
  · obtain ⟨h1, h2, h3⟩ := h.2 _ (List.getElem_mem hi)
    exact ⟨h1, h2, by show xs.length ≤ 1000; omega⟩⟩
theorem b49_set {l : List S34} (h : ∀ m ∈ l, ∀ x ∈ m.f3, B49 x) {i : Nat} (hi : i < l.length) {xs : List S49} (hx : ∀ x ∈ xs, x ∈ l[i].f3) : ∀ m ∈ l.set i (its l[i] xs), ∀ x ∈ m.f3, B49 x := fun m hm x hx2 => by
  rcases List.mem_or_eq_of_mem_set hm with hm | rfl
  · exact h m hm x hx2
  · exact h _ (List.getElem_mem hi) x (hx x hx2)
set_option maxHeartbeats 32000000 in
set_option maxRecDepth 100000 in
theorem lawAhead (A0 : Option Addr) (c0 : Nat) (l : List S34) (x1 x2 : Int) (w : World) (h0 : Kd.C k34 w A0 l.length l) (hB : BL22 l) (hx1 : (Lit.int .u8 x1).wf = true) (hx2 : (Lit.int .u8 x2).wf = true) :
    Calls Try.prog 7 #[.agg #[.slice A0 l.length c0], .int .u8 x1, .int .u8 x2] w fun e w' => e = .returned (.bool true) ∧ Below w.heap.size w w' := by
  have HX1 := Aside0.mk (u8_rng hx1)
  have HX2 := Aside0.mk (u8_rng hx2)
  clear hx1 hx2
  have HC := Aside0.mk h0
  have HY := Aside0.mk hB
  have HQ := Aside0.mk (b49_of hB)
  have hm : l.length ≤ 9223372036854775807 := h0.2.1
  have HB : Aside0 (Below w.heap.size w w) := ⟨Below.refl _ _⟩
  clear h0 hB
  go_enter Try.func7, Try.ntmps7
  go_wp2_with (first | ((with_reducible refine gate_dst (N := 3) rfl ?_); refine box_event ?hg (N := 3) ?hd (cs := #[.slice A0 l.length c0]) (t := 24) ?hr ?_; (case hd => rfl); (case hg => rfl); (case hr => first | (go_simp; done) | (go_simp; rfl)); intro g1 hg_ wa hbox_ hb_; have BK1 := Aside0.mk (hbox_); have GBK1_HB : Aside0 (w.heap.size ≤ g1) := ⟨by rw [hg_]; exact below_size HB.out⟩; replace HB : Aside0 (Below w.heap.size w wa) := ⟨below_step HB.out hb_⟩; have hk1 : wa.cell? ⟨g1, 0, none⟩ = some (.slice A0 l.length c0) := blk_cell hbox_ 0; clear hg_ hbox_ hb_))
  refine (head_law _).mono ?_
  rintro e wb ⟨rfl, hb⟩
  replace BK1 := Aside0.mk (blk_below BK1.out hb)
  replace HB := Aside0.mk (below_step HB.out hb)
  clear hb hk1
  have hk1 : wb.cell? ⟨g1, 0, none⟩ = some (.slice A0 l.length c0) := blk_cell BK1.out 0
  go_wp2_with fail
  refine (fits_any A0 c0 l _ (Kd.C_below HC.out HB.out) HY.out).mono ?_
  rintro e wc ⟨⟨b, rfl, hs⟩, hb⟩
  have HSM := Aside0.mk hs
  replace BK1 := Aside0.mk (blk_below BK1.out hb)
  replace HB := Aside0.mk (below_step HB.out hb)
  clear hb hk1 hs
  have hk1 : wc.cell? ⟨g1, 0, none⟩ = some (.slice A0 l.length c0) := blk_cell BK1.out 0
  cases b with
  | false =>
    go_wp2
    go_ret
    exact ⟨rfl, HB.out⟩
  | true =>
  have HS := Aside0.mk (HSM.out rfl)
  clear HSM
  by_cases hl : l.length = 0
  · have hl0 : ((l.length : Int) == 0) = true := by rw [beq_iff_eq]; omega
    go_wp2
    go_ret
    exact ⟨rfl, HB.out⟩
  have hl0 : ((l.length : Int) == 0) = false := by rw [beq_eq_false_iff_ne]; omega
  have HNL : Aside0 (0 < l.length) := ⟨by omega⟩
  clear hl
  go_wp2_with fail
  refine (scheck_any A0 c0 l _ (Kd.C_below HC.out HB.out) HS.out HQ.out).mono ?_
  rintro e wf ⟨RA, rc, rfl, hle, hC, hb⟩
  obtain ⟨R, hR⟩ : ∃ R, checkS l = R := ⟨_, rfl⟩
  rw [hR] at hC hle
  rw [hR]
  have hmr : R.length ≤ 9223372036854775807 := hC.2.1
  have HRR := Aside0.mk hR
  replace BK1 := Aside0.mk (blk_below BK1.out hb)
  replace HB := Aside0.mk (below_step HB.out hb)
  clear hb hk1 hR hC hle
  have hk1 : wf.cell? ⟨g1, 0, none⟩ = some (.slice A0 l.length c0) := blk_cell BK1.out 0
  cases R with
  | cons r0 rs =>
    have hpos : (0 : Int) < ((r0 :: rs).length : Int) := by rw [List.length_cons]; omega
    go_wp2
    all_goals (go_ret; exact ⟨rfl, HB.out⟩)
  | nil =>
  have HCL := HRR
  clear HRR hmr
  obtain ⟨i, hr1, hil⟩ : ∃ i : Nat, (wrap64 x1).tmod (l.length : Int) = (i : Int) ∧ i < l.length := ⟨_, mod_at HX1.out HNL.out, Nat.mod_lt _ HNL.out⟩
  have hi0 : (0 : Int) ≤ (i : Int) := by omega
  have hi1 : (i : Int) < (l.length : Int) := by omega
  have hnz : (l.length : Int) ≠ 0 := by have := HNL.out; omega
  have hnz2 : l.length ≠ 0 := by have := HNL.out; omega
  have HIL := Aside0.mk hil
  obtain ⟨md, M1, d1, M2, d2, M3, d3, hmd, hm0, hm1, hm2, hm3, hq1, hC1, hq2, hC2, hq3, hC3⟩ := at34 (Kd.C_below HC.out HB.out) i hil
  subst hmd
  obtain ⟨xs, hxs⟩ : ∃ xs, l[i].f3 = xs := ⟨_, rfl⟩
  rw [hxs] at hm3 hq3 hC3
  have HXS := Aside0.mk hxs
  have HCX := Aside0.mk hC3
  have hmx : xs.length ≤ 1000 := by rw [← hxs]; exact (HS.out.2 _ (List.getElem_mem hil)).2.2
  have HMX := Aside0.mk hmx
  obtain ⟨t, hw2, ht⟩ : ∃ t : Nat, wrap64 x2 = (t : Int) ∧ t ≤ 255 := ⟨_, w64_u8 HX2.out, by have := HX2.out; omega⟩
  clear hxs hC3 hq3 hm0 hm1 hm2 hq1 hC1 hq2 hC2
  go_wp2_with fail
  have H1 : Aside0 ((Kd.fixed k49 wf).R 49 wf wf.heap.size (fun k => some k ≠ (Value.slice none 0 0).ownBlock) (.slice none 0 0) (turnL xs t 0)) := ⟨Kd.R_nil _ _ _ _ _⟩
  have H2 : Aside0 ((Kd.fixed k49 wf).R 49 wf wf.heap.size (fun k => some k ≠ (Value.slice none 0 0).ownBlock) (.slice none 0 0) (backL xs 0)) := ⟨Kd.R_nil _ _ _ _ _⟩
  have HBf : Aside0 (Below wf.heap.size wf wf) := ⟨Below.refl _ _⟩
  go_loopw [12, 13, 14] (fun a b c wr => ∃ k : Nat, c = .int .i64 (k : Int) ∧ k ≤ xs.length ∧ Aside0 ((Kd.fixed k49 wf).R 49 wr wf.heap.size (fun k => some k ≠ b.ownBlock) a (turnL xs t k)) ∧ Aside0 ((Kd.fixed k49 wf).R 49 wr wf.heap.size (fun k => some k ≠ a.ownBlock) b (backL xs k)) ∧ Aside0 (wr.heap[g1]? = some (.cells #[.slice (some md) l.length c0] 24 (0, 0))) ∧ Aside0 (Below wf.heap.size wf wr)) (fun _ _ c _ => xs.length - (intOf c).toNat)
  case atStart => exact ⟨0, rfl, Nat.zero_le _, H1, H2, BK1, HBf⟩
  case round =>
    clear H1 H2 BK1 HBf hk1 hm3
    obtain ⟨k, rfl, hk, H1, H2, BK1, HBf⟩ := hrel
    have hk1 : wr.cell? ⟨g1, 0, none⟩ = some (.slice (some md) l.length c0) := blk_cell BK1.out 0
    by_cases hlt : k < xs.length
    · have hkn : (k : Int) < (xs.length : Int) := by omega
      have hxz : (xs.length : Int) ≠ 0 := by omega
      have hxz2 : xs.length ≠ 0 := by omega
      have hpl : (k + t) % xs.length < xs.length := Nat.mod_lt _ (by omega)
      have hbl : xs.length - 1 - k < xs.length := by omega
      obtain ⟨u, hu⟩ : ∃ u : Nat, (k + t) % xs.length = u := ⟨_, rfl⟩
      obtain ⟨v, hv⟩ : ∃ v : Nat, xs.length - 1 - k = v := ⟨_, rfl⟩
      have hs1 := turn_step xs t k
      have hs2 := back_step xs k
      rw [hu] at hs1 hpl
      rw [hv] at hs2 hbl
      have ha1 : IntKind.i64.wrap ((k : Int) + (t : Int)) = (k : Int) + (t : Int) := Go.IntWalk.i64_in _ (by omega)
      have ha2 : ((k : Int) + (t : Int)).tmod (xs.length : Int) = (u : Int) := by rw [← hu]; rfl
      have ha3 : IntKind.i64.wrap ((xs.length : Int) - 1) = (xs.length : Int) - 1 := Go.IntWalk.i64_in _ (by omega)
      have ha4 : IntKind.i64.wrap ((xs.length : Int) - 1 - (k : Int)) = (v : Int) := (Go.IntWalk.i64_in _ (by omega)).trans (by omega)
      have hb1 : wrap64 ((k : Int) + (t : Int)) = (k : Int) + (t : Int) := by unfold wrap64; omega
      have hb3 : wrap64 ((xs.length : Int) - 1) = (xs.length : Int) - 1 := by unfold wrap64; omega
      have hb4 : wrap64 ((xs.length : Int) - 1 - (k : Int)) = (v : Int) := by unfold wrap64; omega
      have hu1 : (u : Int) < (xs.length : Int) := by omega
      have hv1 : (v : Int) < (xs.length : Int) := by omega
      have hu0 : (0 : Int) ≤ (u : Int) := by omega
      have hv0 : (0 : Int) ≤ (v : Int) := by omega
      obtain ⟨ad, cy, he1, hKy, hcy⟩ := el_get HCX.out u hpl
      obtain ⟨ad2, cz, he2, hKz, hcz⟩ := el_get HCX.out v hbl
      subst he1
      obtain rfl : ad = ad2 := Option.some.inj he2
      have hgy : xs.getD u z49 = xs[u] := by rw [List.getD_eq_getElem?_getD, List.getElem?_eq_getElem hpl]; rfl
      have hgz : xs.getD v z49 = xs[v] := by rw [List.getD_eq_getElem?_getD, List.getElem?_eq_getElem hbl]; rfl
      rw [hgy] at hs1
      rw [hgz] at hs2
      obtain ⟨y, hy⟩ : ∃ y, xs[u] = y := ⟨_, rfl⟩
      obtain ⟨z, hz⟩ : ∃ z, xs[v] = z := ⟨_, rfl⟩
      rw [hy] at hKy hs1
      rw [hz] at hKz hs2
      obtain ⟨Y7, p7, Y8, p8, Y19, p19, Y30, p30, Y41, p41, rfl, _⟩ := k49_open hKy
      obtain ⟨Z7, q7, Z8, q8, Z19, q19, Z30, q30, Z41, q41, rfl, _⟩ := k49_open hKz
      have HYC := Aside0.mk hcy
      have HZC := Aside0.mk hcz
      have HYK := Aside0.mk hKy
      have HZK := Aside0.mk hKz
      obtain ⟨T1, hT1⟩ : ∃ T, turnL xs t k = T := ⟨_, rfl⟩
      obtain ⟨T2, hT2⟩ : ∃ T, backL xs k = T := ⟨_, rfl⟩
      rw [hT1] at H1 hs1
      rw [hT2] at H2 hs2
      have HS1 := Aside0.mk hs1
      have HS2 := Aside0.mk hs2
      have HTLT : Aside0 ((T1.length + 1) * 568 ≤ 140737488355328) := ⟨by rw [← hT1]; simp [turnL]; omega⟩
      have HTLB : Aside0 ((T2.length + 1) * 568 ≤ 140737488355328) := ⟨by rw [← hT2]; simp [backL]; omega⟩
      clear hcy hcz hKy hKz hy hz hT1 hT2 hs1 hs2 hgy hgz he2 hpl hbl hu hv hlt
      go_wp2_with (first | ((with_reducible refine gate_dst (N := 63) rfl ?_); refine wpList_load_cells rfl 49 (.tmp 62) rfl _ rfl [.int .i64 y.f0, .string y.f1, .string y.f2.f0, .int .i64 y.f2.f1, .string y.f3.f0, .int .i64 y.f3.f1, .string y.f4, .slice Y7 y.f5.length p7, .slice Y8 y.f6.length p8, .int .i64 y.f7.f0, .string y.f7.f1.f0, .int .i64 y.f7.f1.f1, .string y.f7.f2.f0, .int .i64 y.f7.f2.f1, .string y.f7.f3.f0, .int .i64 y.f7.f3.f1, .string y.f7.f4.f0, .int .i64 y.f7.f4.f1, .string y.f7.f5, .slice Y19 y.f7.f6.length p19, .int .i64 y.f8.f0, .string y.f8.f1.f0, .int .i64 y.f8.f1.f1, .string y.f8.f2.f0, .int .i64 y.f8.f2.f1, .string y.f8.f3.f0, .int .i64 y.f8.f3.f1, .string y.f8.f4.f0, .int .i64 y.f8.f4.f1, .string y.f8.f5, .slice Y30 y.f8.f6.length p30, .int .i64 y.f9.f0, .string y.f9.f1.f0, .int .i64 y.f9.f1.f1, .string y.f9.f2.f0, .int .i64 y.f9.f2.f1, .string y.f9.f3.f0, .int .i64 y.f9.f3.f1, .string y.f9.f4.f0, .int .i64 y.f9.f4.f1, .string y.f9.f5, .slice Y41 y.f9.f6.length p41] ?hc _ Try.underlying49 rfl ?hq9 ?_; (case hc => exact HYC.out _ HBf.out); (case hq9 => kernel_rfl)) | (at_builtin; refine Kd.R_append (Kd.fixed k49 wf) (w0 := wf) (W := wr) wf.heap.size rfl (.tmp 54) (.tmp 64) 32 49 _ 568 rfl Try.underlying32 info49 rfl (show 0 < 42 by decide) (by omega) u12 T1 y _ (fun k => some k ≠ (u13).ownBlock) (fun _ => False) rfl rfl ?hp (fun _ h => h.elim) ?hf ?hO ?hB ?hs ?hl ?_; (case hp => exact HYK.out); (case hf => exact fun k hk => R_fresh H2.out k hk); (case hO => exact H1.out); (case hB => exact HBf.out); (case hs => exact below_size HBf.out); (case hl => exact HTLT.out); intro v1 w1 ho hb hgr hat; replace BK1 := Aside0.mk (blk_grown BK1.out hgr (Kd.R_ne H1.out BK1.out (by decide))); replace H2 := Aside0.mk (R_two H2.out hgr hat); replace H1 := Aside0.mk ho; replace HBf := Aside0.mk hb; clear ho hb hgr hat) | ((with_reducible refine gate_dst (N := 73) rfl ?_); refine wpList_load_cells rfl 49 (.tmp 72) rfl _ rfl [.int .i64 z.f0, .string z.f1, .string z.f2.f0, .int .i64 z.f2.f1, .string z.f3.f0, .int .i64 z.f3.f1, .string z.f4, .slice Z7 z.f5.length q7, .slice Z8 z.f6.length q8, .int .i64 z.f7.f0, .string z.f7.f1.f0, .int .i64 z.f7.f1.f1, .string z.f7.f2.f0, .int .i64 z.f7.f2.f1, .string z.f7.f3.f0, .int .i64 z.f7.f3.f1, .string z.f7.f4.f0, .int .i64 z.f7.f4.f1, .string z.f7.f5, .slice Z19 z.f7.f6.length q19, .int .i64 z.f8.f0, .string z.f8.f1.f0, .int .i64 z.f8.f1.f1, .string z.f8.f2.f0, .int .i64 z.f8.f2.f1, .string z.f8.f3.f0, .int .i64 z.f8.f3.f1, .string z.f8.f4.f0, .int .i64 z.f8.f4.f1, .string z.f8.f5, .slice Z30 z.f8.f6.length q30, .int .i64 z.f9.f0, .string z.f9.f1.f0, .int .i64 z.f9.f1.f1, .string z.f9.f2.f0, .int .i64 z.f9.f2.f1, .string z.f9.f3.f0, .int .i64 z.f9.f3.f1, .string z.f9.f4.f0, .int .i64 z.f9.f4.f1, .string z.f9.f5, .slice Z41 z.f9.f6.length q41] ?hc _ Try.underlying49 rfl ?hq9 ?_; (case hc => exact HZC.out _ HBf.out); (case hq9 => kernel_rfl)) | (at_builtin; refine Kd.R_append (Kd.fixed k49 wf) (w0 := wf) (W := w1) wf.heap.size rfl (.tmp 66) (.tmp 74) 32 49 _ 568 rfl Try.underlying32 info49 rfl (show 0 < 42 by decide) (by omega) u13 T2 z _ (fun k => some k ≠ (v1).ownBlock) (fun _ => False) rfl rfl ?hp (fun _ h => h.elim) ?hf ?hO ?hB ?hs ?hl ?_; (case hp => exact HZK.out); (case hf => exact fun k hk => R_fresh H1.out k hk); (case hO => exact H2.out); (case hB => exact HBf.out); (case hs => exact below_size HBf.out); (case hl => exact HTLB.out); intro v2 w2 ho hb hgr hat; replace BK1 := Aside0.mk (blk_grown BK1.out hgr (Kd.R_ne H2.out BK1.out (by decide))); replace H1 := Aside0.mk (R_two H1.out hgr hat); replace H2 := Aside0.mk ho; replace HBf := Aside0.mk hb; clear ho hb hgr hat))
      go_roundw
      case rel => exact ⟨k + 1, by go_num, by omega, ⟨by rw [HS1.out]; exact H1.out⟩, ⟨by rw [HS2.out]; exact H2.out⟩, BK1, HBf⟩
      case measure => simp [intOf]; omega
    · obtain rfl : k = xs.length := by omega
      obtain ⟨B1, b1, hb1, hble1, hbC1⟩ := Kd.R_reads H1.out
      obtain ⟨B2, b2, hb2, hble2, hbC2⟩ := Kd.R_reads H2.out
      subst hb1 hb2
      have HP1 := Aside0.mk (turn_perm xs t)
      have HP2 := Aside0.mk (back_perm xs)
      have hl1 : (turnL xs t xs.length).length = xs.length := by simp [turnL]
      have hl2 : (backL xs xs.length).length = xs.length := by simp [backL]
      obtain ⟨L1, hL1⟩ : ∃ L, turnL xs t xs.length = L := ⟨_, rfl⟩
      obtain ⟨L2, hL2⟩ : ∃ L, backL xs xs.length = L := ⟨_, rfl⟩
      rw [hL1] at hble1 hbC1 HP1 hl1
      rw [hL2] at hble2 hbC2 HP2 hl2
      rw [hL1, hL2]
      have HCA := Aside0.mk (C_fixed HBf.out hbC1)
      have HCB := Aside0.mk (C_fixed HBf.out hbC2)
      have HLE1 := Aside0.mk hble1
      have HLE2 := Aside0.mk hble2
      have HBW := Aside0.mk (below_step HB.out HBf.out)
      have hLs : l.length ≤ 1000 := HS.out.1
      have HPX1 : Aside0 (L1.Perm l[i].f3) := ⟨by rw [HXS.out]; exact HP1.out⟩
      have HPX2 : Aside0 (L2.Perm l[i].f3) := ⟨by rw [HXS.out]; exact HP2.out⟩
      have HIL2 := Aside0.mk hil
      obtain ⟨N1, hN1⟩ : ∃ N, l.set i (its l[i] L1) = N := ⟨_, rfl⟩
      obtain ⟨N2, hN2⟩ : ∃ N, l.set i (its l[i] L2) = N := ⟨_, rfl⟩
      have K1 : Aside0 (checkS N1 = [] ∧ Sml N1 ∧ ∀ m ∈ N1, ∀ x ∈ m.f3, B49 x) := ⟨by
        rw [← hN1]
        exact ⟨ahead_clear HCL.out (List.getElem?_eq_getElem hil) HPX1.out, sml_set HS.out hil HPX1.out.length_eq, b49_set HQ.out hil (fun x hx => HPX1.out.mem_iff.1 hx)⟩⟩
      have K2 : Aside0 (checkS N2 = [] ∧ Sml N2 ∧ ∀ m ∈ N2, ∀ x ∈ m.f3, B49 x) := ⟨by
        rw [← hN2]
        exact ⟨ahead_clear HCL.out (List.getElem?_eq_getElem hil) HPX2.out, sml_set HS.out hil HPX2.out.length_eq, b49_set HQ.out hil (fun x hx => HPX2.out.mem_iff.1 hx)⟩⟩
      have W1 : Aside0 (∀ w', Below w.heap.size w w' → Kd.C k49 w' B1 L1.length L1 → Calls Try.prog 21 #[.agg #[.slice (some md) l.length c0], .int .i64 (i : Int), .slice B1 L1.length b1] w' (RetD N1 w')) := ⟨fun w' hb hc => by
        rw [← hN1]; exact with_any (some md) c0 l i hil B1 b1 L1 w' (Kd.C_below HC.out hb) hc hble1 HS.out.1⟩
      have W2 : Aside0 (∀ w', Below w.heap.size w w' → Kd.C k49 w' B2 L2.length L2 → Calls Try.prog 21 #[.agg #[.slice (some md) l.length c0], .int .i64 (i : Int), .slice B2 L2.length b2] w' (RetD N2 w')) := ⟨fun w' hb hc => by
        rw [← hN2]; exact with_any (some md) c0 l i hil B2 b2 L2 w' (Kd.C_below HC.out hb) hc hble2 HS.out.1⟩
      clear HPX1 HPX2 HCL HY HX1 HX2 hN1 hN2 HIL HIL2 HMX HCX
      clear H1 H2 hL1 hL2 hbC1 hbC2 hble1 hble2 HP1 HP2 HXS hmx hl1 hl2
      have hk1 : wr.cell? ⟨g1, 0, none⟩ = some (.slice (some md) l.length c0) := blk_cell BK1.out 0
      go_wp2_with fail
      refine (W1.out _ HBW.out HCA.out).mono ?_
      rintro e wg ⟨D1, d1', rfl, hle, hC, hb⟩
      have hq := scheck_any D1 d1' N1 wg hC K1.out.2.1 K1.out.2.2
      rw [K1.out.1] at hq
      replace HBW := Aside0.mk (below_step HBW.out hb)
      replace BK1 := Aside0.mk (blk_below BK1.out hb)
      replace HCB := Aside0.mk (Kd.C_below HCB.out hb)
      clear hk1 hb hC hle
      go_wp2_with fail
      refine hq.mono ?_
      clear hq
      rintro e wh ⟨E1, e1, rfl, _, _, hb⟩
      replace HBW := Aside0.mk (below_step HBW.out hb)
      replace BK1 := Aside0.mk (blk_below BK1.out hb)
      replace HCB := Aside0.mk (Kd.C_below HCB.out hb)
      have hk1 : wh.cell? ⟨g1, 0, none⟩ = some (.slice (some md) l.length c0) := blk_cell BK1.out 0
      clear hb
      go_wp2_with fail
      refine (W2.out _ HBW.out HCB.out).mono ?_
      rintro e wi ⟨D2, d2', rfl, hle, hC, hb⟩
      have hq := scheck_any D2 d2' N2 wi hC K2.out.2.1 K2.out.2.2
      rw [K2.out.1] at hq
      replace HBW := Aside0.mk (below_step HBW.out hb)
      clear hk1 hb hC hle
      go_wp2_with fail
      refine hq.mono ?_
      clear hq
      rintro e wj ⟨E2, e2, rfl, _, _, hb⟩
      replace HBW := Aside0.mk (below_step HBW.out hb)
      clear hb
      go_wp2
      go_ret
      exact ⟨rfl, HBW.out⟩
end Go.Proofs.Ytnfhlhjbmcofoaa.S
