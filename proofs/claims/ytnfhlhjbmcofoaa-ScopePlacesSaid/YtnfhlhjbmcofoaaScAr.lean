/- Scope: the walk of the law ScopePlaces. -/
import Derived.Test.YtnfhlhjbmcofoaaScAp
import Derived.Test.YtnfhlhjbmcofoaaScPu
namespace Go.Proofs.Ytnfhlhjbmcofoaa.S
open Go.RowKit Go.Proofs.YtnfhlhjbmcofoaaW.PrintWords Go.Proofs.YtnfhlhjbmcofoaaW.PrintLast
set_option linter.unusedVariables false
set_option linter.unusedSimpArgs false
set_option maxHeartbeats 16000000 in
set_option maxRecDepth 100000 in
theorem places_any (A0 : Option Addr) (c0 : Nat) (l : List S34) (w : World) (h0 : Kd.C k34 w A0 l.length l) (hB : BL22 l) :
    Calls Try.prog 5 #[.agg #[.slice A0 l.length c0]] w fun e w' => e = .returned (.bool true) ∧ Below w.heap.size w w' := by
  have HC := Aside0.mk h0
  have HY := Aside0.mk hB
  have HQ := Aside0.mk (b49_of hB)
  have hm : l.length ≤ 9223372036854775807 := h0.2.1
  have HB : Aside0 (Below w.heap.size w w) := ⟨Below.refl _ _⟩
  clear h0 hB
  go_enter Try.func5, Try.ntmps5
  go_wp2_with (first | ((with_reducible refine gate_dst (N := 1) rfl ?_); refine box_event ?hg (N := 1) ?hd (cs := #[.slice A0 l.length c0]) (t := 24) ?hr ?_; (case hd => rfl); (case hg => rfl); (case hr => first | (go_simp; done) | (go_simp; rfl)); intro g1 hg_ wa hbox_ hb_; have BK1 := Aside0.mk (hbox_); have GBK1_HB : Aside0 (w.heap.size ≤ g1) := ⟨by rw [hg_]; exact below_size HB.out⟩; replace HB : Aside0 (Below w.heap.size w wa) := ⟨below_step HB.out hb_⟩; have hk1 : wa.cell? ⟨g1, 0, none⟩ = some (.slice A0 l.length c0) := blk_cell hbox_ 0; clear hg_ hbox_ hb_))
  refine (head_law _).mono ?_
  rintro e wb ⟨rfl, hb⟩
  replace BK1 := Aside0.mk (blk_below BK1.out hb)
  replace HB := Aside0.mk (below_step HB.out hb)
  clear hb hk1
  have hk1 : wb.cell? ⟨g1, 0, none⟩ = some (.slice A0 l.length c0) := blk_cell BK1.out 0
  go_wp2_with fail
  refine (fits_any A0 c0 l _ (Kd.C_below HC.out HB.out) HY.out).mono ?_
  rintro e wc ⟨⟨b, rfl, hs⟩, hb⟩
  have HSM := Aside0.mk hs
  replace BK1 := Aside0.mk (blk_below BK1.out hb)
  replace HB := Aside0.mk (below_step HB.out hb)
  clear hb hk1 hs
  have hk1 : wc.cell? ⟨g1, 0, none⟩ = some (.slice A0 l.length c0) := blk_cell BK1.out 0
  cases b with
  | false =>
    go_wp2
    go_ret
    exact ⟨rfl, HB.out⟩
  | true =>
    have HS := Aside0.mk (HSM.out rfl)
    clear HSM
    go_wp2_with fail
    refine (scheck_any A0 c0 l _ (Kd.C_below HC.out HB.out) HS.out HQ.out).mono ?_
    rintro e w5 ⟨RA, rc, rfl, hle, hC, hb⟩
    obtain ⟨R, hR⟩ : ∃ R, checkS l = R := ⟨_, rfl⟩
    rw [hR] at hC hle
    rw [hR]
    have HRR := Aside0.mk hR
    have HCR := Aside0.mk hC
    replace BK1 := Aside0.mk (blk_below BK1.out hb)
    replace HB := Aside0.mk (below_step HB.out hb)
    have HB5 : Aside0 (Below w5.heap.size w5 w5) := ⟨Below.refl _ _⟩
    have hmr : R.length ≤ 9223372036854775807 := hC.2.1
    clear hb hk1 hR hC hle
    have hk1 : w5.cell? ⟨g1, 0, none⟩ = some (.slice A0 l.length c0) := blk_cell BK1.out 0
    by_cases hl : l.length = 0
    · obtain rfl : l = [] := List.length_eq_zero_iff.1 hl
      obtain rfl : [⟨51, 0, 0, -1⟩] = R := none_told.symm.trans HRR.out
      go_wp2
      go_ret
      exact ⟨rfl, HB.out⟩
    have hl0 : ((l.length : Int) == 0) = false := by rw [beq_eq_false_iff_ne]; omega
    have HPL : Aside0 (∀ x ∈ R, placed l x) := ⟨by rw [← HRR.out]; exact fun x hx => checkS_placed (fun h => hl (by rw [h]; rfl)) hx⟩
    have HPB : Aside0 (∀ (i : Nat) (p x : S40), R[i]? = some p → R[i + 1]? = some x → before p x) := ⟨by rw [← HRR.out]; exact fun i p x => checkS_before⟩
    clear HRR
    go_wp2_with fail
    go_loopw [6] (fun v wr => ∃ i : Nat, v = .int .i64 (i : Int) ∧ i ≤ R.length ∧ Aside0 (wr.heap[g1]? = some (.cells #[.slice A0 l.length c0] 24 (0, 0))) ∧ Aside0 (Below w.heap.size w wr) ∧ Aside0 (Below w5.heap.size w5 wr)) (fun v _ => R.length - (intOf v).toNat)
    case atStart => exact ⟨0, rfl, Nat.zero_le _, BK1, HB, HB5⟩
    case round =>
      clear BK1 HB HB5 hk1
      obtain ⟨i, rfl, hi, BK1, HB, HB5⟩ := hrel
      by_cases hlt : i < R.length
      rotate_left
      · go_wp2
        go_ret
        exact ⟨rfl, HB.out⟩
      have hi0 : (0 : Int) ≤ (i : Int) := by omega
      have hi1 : (i : Int) < (R.length : Int) := by omega
      have hpl := HPL.out R[i] (List.getElem_mem hlt)
      have HPV : Aside0 (∀ j, i = j + 1 → ∃ hj : j < R.length, before R[j] R[i]) := ⟨fun j e => ⟨by omega, HPB.out j _ _ (List.getElem?_eq_getElem (by omega)) (by rw [← e]; exact List.getElem?_eq_getElem hlt)⟩⟩
      obtain ⟨ad, rfl, hy0, hy1, hy2, hy3⟩ := at40 (Kd.C_below HCR.out HB5.out) i hlt
      obtain ⟨x, hx⟩ : ∃ x, R[i] = x := ⟨_, rfl⟩
      rw [hx] at hpl hy0 hy1 hy2 hy3 HPV
      clear hx
      obtain ⟨x0, x1, x2, x3⟩ := x
      obtain ⟨q1, q0, n, m, qm, q2, q3, q4⟩ := hpl
      simp only at q1 q0 q2 q3 q4
      subst q1 q2
      have hn : n < l.length := (List.getElem?_eq_some_iff.1 qm).1
      obtain ⟨ln, hln⟩ : ∃ x, l[n] = x := ⟨_, rfl⟩
      obtain rfl : ln = m := Option.some.inj ((hln ▸ (List.getElem?_eq_getElem hn).symm).trans qm)
      have hz0 : ((0 : Int) != 0) = false := rfl
      have hz1 : (x0 == 0) = false := by rw [beq_eq_false_iff_ne]; exact q0
      have hz2 : decide ((n : Int) < 0) = false := by simp
      have hz3 : decide ((n : Int) ≥ (l.length : Int)) = false := by simp; omega
      have hz4 : decide (x3 < -1) = false := by simp; omega
      have hz5 : decide (x3 ≥ (ln.f3.length : Int)) = false := by simp; omega
      have hn0 : (0 : Int) ≤ (n : Int) := by omega
      have hn1 : (n : Int) < (l.length : Int) := by omega
      have HN := Aside0.mk hn
      clear qm q0 q3 q4
      go_wp2_with (first | ((with_reducible refine gate_dst (N := 7) rfl ?_); refine box_event ?hg (N := 7) ?hd (cs := #[.int .i64 0, .int .i64 0, .int .i64 0, .int .i64 0]) (t := 40) ?hr ?_; (case hd => rfl); (case hg => rfl); (case hr => first | (go_simp; done) | (go_simp; rfl)); intro g7 hg_ wx hbox_ hb_; replace BK1 := Aside0.mk (blk_below BK1.out hb_); have BZ7 := Aside0.mk (hbox_); have GBZ7_HB : Aside0 (w.heap.size ≤ g7) := ⟨by rw [hg_]; exact below_size HB.out⟩; have GBZ7_HB5 : Aside0 (w5.heap.size ≤ g7) := ⟨by rw [hg_]; exact below_size HB5.out⟩; replace HB : Aside0 (Below w.heap.size w wx) := ⟨below_step HB.out hb_⟩; replace HB5 : Aside0 (Below w5.heap.size w5 wx) := ⟨below_step HB5.out hb_⟩; clear hg_ hbox_ hb_) | ((with_reducible refine gate_ (.store 40 (.tmp 7) (.tmp 35)) rfl ?_); refine wpList_store_box rfl rfl 40 (.tmp 7) (.tmp 35) rfl (g := g7) (e := 40) [.int .i64 x0, .int .i64 0, .int .i64 (n : Int), .int .i64 x3] rfl rfl BZ7.out rfl ?hq9 ?h1 ?_; (case hq9 => kernel_rfl); (case h1 => simp [Value.oneCell']); intro wy hbx_ hfar_ hsz_ hbel_; replace BK1 := Aside0.mk ((hfar_ _ (blk_ne BK1.out BZ7.out (by decide))).trans BK1.out); have BK7 := Aside0.mk (hbx_); replace HB : Aside0 (Below w.heap.size w wy) := ⟨hbel_ _ GBZ7_HB.out w HB.out⟩; replace HB5 : Aside0 (Below w5.heap.size w5 wy) := ⟨hbel_ _ GBZ7_HB5.out w5 HB5.out⟩; have hx0 : wy.cell? ⟨g7, 0, none⟩ = some (.int .i64 x0) := blk_cell BK7.out 0; have hx1 : wy.cell? ⟨g7, 1, none⟩ = some (.int .i64 0) := blk_cell BK7.out 1; have hx2 : wy.cell? ⟨g7, 2, none⟩ = some (.int .i64 (n : Int)) := blk_cell BK7.out 2; have hx3 : wy.cell? ⟨g7, 3, none⟩ = some (.int .i64 x3) := blk_cell BK7.out 3; have hk1 : wy.cell? ⟨g1, 0, none⟩ = some (.slice A0 l.length c0) := blk_cell BK1.out 0; clear hbx_ hfar_ hsz_ hbel_ BZ7))
      obtain ⟨md, M1, d1, M2, d2, M3, d3, hmd, hm0, hm1, hm2, hm3, _⟩ := at34 (Kd.C_below HC.out HB.out) n HN.out
      rw [hln] at hm0 hm1 hm2 hm3
      have hadn : md.add ((n : Int).toNat * 4) = md.add (n * 4) := by rw [Int.toNat_natCast]
      clear hm0 hm1 hm2 hln
      subst hmd
      go_quiet (fail)
      clear hz0 hz1 hz2 hz3 hz4 hz5 hm3
      by_cases hi00 : i = 0
      · have hz6 : decide ((0 : Int) < (i : Int)) = false := by simp; omega
        have hz6d : decide (0 < i) = false := by simp; omega
        have hz6b : decide ((i : Int) > (0 : Int)) = false := by simp; omega
        clear hi00
        go_wp2_with fail
        go_quiet (fail)
        clear hz6 hz6d hz6b
        go_wp2
        go_roundw
        case rel => exact ⟨i + 1, by go_num, by omega, ⟨BK1.out⟩, ⟨pw_below_drewN HB.out _⟩, ⟨pw_below_drewN HB5.out _⟩⟩
        case measure => simp [intOf]; omega
      · obtain ⟨j, hj⟩ : ∃ j, i = j + 1 := ⟨i - 1, by omega⟩
        obtain ⟨hjl, hbf⟩ := HPV.out j hj
        have hj0 : (0 : Int) ≤ (j : Int) := by omega
        have hj1 : (j : Int) < (R.length : Int) := by omega
        obtain ⟨ae, hae, hp0, hp1, hp2, hp3⟩ := at40 (Kd.C_below HCR.out HB5.out) j hjl
        obtain rfl : ad = ae := Option.some.inj hae
        obtain ⟨p, hp⟩ : ∃ p, R[j] = p := ⟨_, rfl⟩
        rw [hp] at hp0 hp1 hp2 hp3 hbf
        unfold before at hbf
        simp only at hbf
        have hz7 : decide ((n : Int) < p.f2) = false := by simp; omega
        have hwj : IntKind.i64.wrap (j : Int) = (j : Int) := Go.IntWalk.i64_in _ (by omega)
        clear hp hae
        subst hj
        have hz6 : (0 : Int) < (j : Int) + 1 := by omega
        by_cases hpn : p.f2 = (n : Int)
        · have hz8 : (p.f2 == (n : Int)) = true := by simpa using hpn
          have hz9 : decide (p.f3 ≥ x3) = false := by simp; omega
          clear hpn hbf
          go_wp2_with fail
          go_quiet (fail)
          go_wp2
          go_roundw
          case rel => exact ⟨j + 1 + 1, by go_num, by omega, ⟨BK1.out⟩, ⟨pw_below_drewN HB.out _⟩, ⟨pw_below_drewN HB5.out _⟩⟩
          case measure => simp [intOf]; omega
        · have hz8 : (p.f2 == (n : Int)) = false := by simpa using hpn
          clear hpn hbf
          go_wp2_with fail
          go_quiet (fail)
          go_wp2
          go_roundw
          case rel => exact ⟨j + 1 + 1, by go_num, by omega, ⟨BK1.out⟩, ⟨pw_below_drewN HB.out _⟩, ⟨pw_below_drewN HB5.out _⟩⟩
          case measure => simp [intOf]; omega
end Go.Proofs.Ytnfhlhjbmcofoaa.S
