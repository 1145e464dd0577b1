/- Unroll: walks and plain laws of this seat's functions, merged out of smaller texts of this session (Ur). -/
import Derived.Test.YteilkojmefipcaaM04
namespace Go.Proofs.Yteilkojmefipcaa.U
open Go.RowKit Go.Proofs.YteilkojmefipcaaW.PrintWords Go.Proofs.YteilkojmefipcaaW.PrintLast
set_option linter.unusedVariables false
set_option linter.unusedSimpArgs false
set_option maxHeartbeats 64000000 in
set_option maxRecDepth 100000 in
theorem compile_any (n : S27) (cs : List Value) (w : World) (h : k27.K w n cs) (ok : NetOk n) : Calls Try.prog 11 #[.agg cs.toArray] w (RetC w) := by
  have HK := am h
  have HN := am ok
  obtain ⟨A0, c0, A1, c1, A2, c2, A3, c3, A4, c4, rfl, _, hC0, _, hC1, _, hC2, _, hC3, _, hC4⟩ := k27_open h
  have HC0 := am hC0
  have HC1 := am hC1
  have HC2 := am hC2
  have HC3 := am hC3
  have HL : Aside0 (Led [] w w) := ⟨Led.nil w⟩
  have hu30 := Try.underlying30
  have hu35 := Try.underlying35
  have hu27 := Try.underlying27
  have hu82 := Try.underlying82
  have ln0 : n.f0.length ≤ 100 := ok.len
  have ln1 : n.f1.length ≤ 100 := ok.lp
  have ln2 : n.f2.length ≤ 16 := ok.lc
  have ln3 : n.f3.length ≤ 100 := ok.lo
  have KM := am (fun W (hb : Below w.heap.size w W) => made_any n _ W (k27.K_below hb HK.out) HN.out.nodes HN.out.len)
  have HT := am (show wideS 21 n.f0 + wideS 22 n.f0 = wideS 21 n.f0 + wideS 22 n.f0 from rfl)
  obtain ⟨T, hT⟩ : ∃ T, wideS 21 n.f0 + wideS 22 n.f0 = T := ⟨_, rfl⟩
  rw [hT] at KM
  replace HT := am hT
  clear h ok hC0 hC1 hC2 hC3 hC4 hT
  go_enter Try.func11, Try.ntmps11
  go_wp2_with (first
    | ((with_reducible refine zg 1 rfl ?_); refine zx 1 [.slice A0 n.f0.length c0, .slice A1 n.f1.length c1, .slice A2 n.f2.length c2, .slice A3 n.f3.length c3, .slice A4 n.f4.length c4] 27 HL ?_; clear HL; intro g1 w1_ HL hb_; clear hb_)
    | ((with_reducible refine zg 2 rfl ?_); refine zx 2 [.int .i64 0, .slice none 0 0, .slice none 0 0, .slice none 0 0, .slice none 0 0] 35 HL ?_; clear HL; intro g2 w2_ HL hb_; clear hb_)
    | ((with_reducible refine zg 13 rfl ?_); refine zl 1 27 (.tmp 1) HL hu27 ?_)
    | (go_at_call 43; refine (KM.out _ HL.out.below).mono ?_; rintro e_ wm ⟨v', l', vo, outs, rfl, hg, hl', ho, hol, hrk, hb⟩; obtain ⟨A', c', rfl, _⟩ := hg.slice; obtain ⟨AO, cO, rfl⟩ := Kd.R_slice ho; have HLw := am (HL.out.step hb); have HG := am hg; have HO := am ho; have HOL := am hol; have HRK := am hrk; have HLL := am hl'; clear HL; have HL : Aside0 (Led [] wm wm) := ⟨Led.nil wm⟩; clear hb hg ho hol hrk hl')
    | ((with_reducible refine zg 3 rfl ?_); refine zx 3 [.int .i64 0, .slice none 0 0] 30 HL ?_; clear HL; intro g3 w3_ HL hb_; clear hb_)
    | ((with_reducible refine zst 30 (.tmp 3) (.tmp 15) rfl ?_); refine zs 0 0 30 (.tmp 3) (.tmp 15) [.int .i64 T, .slice A' l'.length c'] HL ?_; intro w4_ HLn hfar; replace HL := HLn; clear HLn hfar)
    | ((with_reducible refine zg 17 rfl ?_); refine zl 0 30 (.tmp 3) HL hu30 ?_)
    | ((with_reducible refine zg 5 rfl ?_); refine zx 5 [.int .i64 0, .slice none 0 0, .slice none 0 0, .slice none 0 0, .slice none 0 0] 35 HL ?_; clear HL; intro g5 w5_ HL hb_; clear hb_)
    | ((with_reducible refine zst 35 (.tmp 5) (.tmp 18) rfl ?_); refine zs 0 0 35 (.tmp 5) (.tmp 18) [.int .i64 T, .slice A' l'.length c', .slice none 0 0, .slice none 0 0, .slice none 0 0] HL ?_; intro w6_ HLn hfar; replace HL := HLn; clear HLn hfar))
  have HB1 : Aside0 (∀ W, Below wm.heap.size wm W → W.cell? ⟨g1, 0, none⟩ = some (.slice A0 n.f0.length c0) ∧ W.cell? ⟨g1, 1, none⟩ = some (.slice A1 n.f1.length c1) ∧ W.cell? ⟨g1, 2, none⟩ = some (.slice A2 n.f2.length c2) ∧ W.cell? ⟨g1, 3, none⟩ = some (.slice A3 n.f3.length c3)) := ⟨fun W hb => ⟨pw_cell_below hb (blk_cell (HLw.out.get 1 rfl) 0), pw_cell_below hb (blk_cell (HLw.out.get 1 rfl) 1), pw_cell_below hb (blk_cell (HLw.out.get 1 rfl) 2), pw_cell_below hb (blk_cell (HLw.out.get 1 rfl) 3)⟩⟩
  have HBW : Aside0 (∀ W, Below wm.heap.size wm W → Below w.heap.size w W) := ⟨fun W hb => below_step HLw.out.below hb⟩
  have HI : Aside0 (k80.R 80 w6_ wm.heap.size Any (.slice none 0 0) []) := ⟨Kd.R_nil _ _ _ _ _⟩
  go_loopw [6] (fun v6 wr => ∃ (i : Nat) (vI : Value) (xs : List S80), v6 = .int .i64 (i : Int) ∧ i ≤ n.f1.length ∧ Aside0 (Led [(g5, [.int .i64 T, .slice A' l'.length c', vI, .slice none 0 0, .slice none 0 0], 35), (g3, [.int .i64 T, .slice A' l'.length c'], 30)] wm wr) ∧ Aside0 (k80.R 80 wr wm.heap.size Any vI xs) ∧ Aside0 (Pins xs) ∧ Aside0 ((xs.length : Int) = sumW n.f0 ((n.f1.take i).map S79.f1))) (fun v _ => n.f1.length - (intOf v).toNat)
  case atStart => exact ⟨0, _, [], rfl, Nat.zero_le _, HL, HI, ⟨fun j hj => by simp at hj⟩, ⟨by simp [sumW]⟩⟩
  case round =>
    clear HL HI
    obtain ⟨i, vI, xs, rfl, hi, HL, HI, HP, HX⟩ := hrel
    obtain ⟨AI, cI, rfl⟩ := Kd.R_slice HI.out
    obtain ⟨hn0, hn1, hn2, hn3⟩ := HB1.out wr HL.out.below
    by_cases hlt : i < n.f1.length
    · have q0 : (0 : Int) ≤ (i : Int) := by omega
      have q1 : (i : Int) < (n.f1.length : Int) := by omega
      obtain ⟨pd, rfl, _, hp1⟩ := at79 HC1.out i hlt
      obtain ⟨j, hj, hjl⟩ := HN.out.pins i hlt
      have hst := sumW_take n.f0 S79.f1 n.f1 i hlt
      have hsb := sumW_bnd HN.out.nodes ((n.f1.take i).map S79.f1)
      rw [List.length_map, List.length_take] at hsb
      rw [hj] at hp1 hst
      rw [Int.toNat_natCast] at hst
      obtain ⟨nd, rfl, _, hw1, _⟩ := at77 HC0.out j hjl
      have hwd := (HN.out.nodes j hjl).w
      obtain ⟨m, hm⟩ : ∃ m : Nat, n.f0[j].f1 = (m : Int) := ⟨n.f0[j].f1.toNat, by omega⟩
      have hm2 := wdt_eq hjl hm
      rw [hm] at hw1 hwd
      rw [hm2] at hst
      have j0 : (0 : Int) ≤ (j : Int) := by omega
      have j1 : (j : Int) < (n.f0.length : Int) := by omega
      obtain ⟨s1, hs1⟩ : ∃ s1, sumW n.f0 ((n.f1.take i).map S79.f1) = s1 := ⟨_, rfl⟩
      rw [hs1] at hst hsb HX
      have HST := am hst
      have HP1 := am hp1
      have HW1 := am hw1
      have hm16 : m ≤ 16 := by omega
      have hs16 : s1 ≤ 1600 := by omega
      clear hp1 hw1 hst hs1 hm hm2 hj hsb hwd
      go_wp2_with (fail)
      obtain ⟨wo, rfl⟩ : ∃ x : World, x = wr := ⟨_, rfl⟩
      clear hn0 hn1 hn2 hn3
      go_loopw [7] (fun v7 wr => ∃ (k : Nat) (vI : Value) (xs : List S80), v7 = .int .i64 (k : Int) ∧ k ≤ m ∧ Aside0 (Led [(g5, [.int .i64 T, .slice A' l'.length c', vI, .slice none 0 0, .slice none 0 0], 35), (g3, [.int .i64 T, .slice A' l'.length c'], 30)] wm wr) ∧ Aside0 (k80.R 80 wr wm.heap.size Any vI xs) ∧ Aside0 (Pins xs) ∧ Aside0 ((xs.length : Int) = s1 + k)) (fun v _ => m - (intOf v).toNat)
      case atStart => exact ⟨0, _, xs, rfl, Nat.zero_le _, HL, HI, HP, ⟨by have := HX.out; omega⟩⟩
      case round =>
        clear HL HI HP HX
        obtain ⟨k, vI, xs, rfl, hk, HL, HI, HP, HX⟩ := hrel
        obtain ⟨AI, cI, rfl⟩ := Kd.R_slice HI.out
        obtain ⟨hn0, hn1, hn2, hn3⟩ := HB1.out wr HL.out.below
        have hp1 := pw_cell_below (HBW.out _ HL.out.below) HP1.out
        have hw1 := pw_cell_below (HBW.out _ HL.out.below) HW1.out
        have hxl : xs.length ≤ 100000 := by have := HX.out; omega
        by_cases hkm : k < m
        · go_wp2_with (fail)
          go_quiet (fail)
          generalize hgw : World.drewN _ _ = wd
          have hbw : Below wr.heap.size wr wd := by rw [← hgw]; exact pw_below_drewN (Below.refl _ _) _
          replace HL := am (HL.out.step hbw)
          replace HI := am (Kd.R_below HI.out hbw)
          clear hgw hbw hn0 hn1 hn2 hn3 hp1 hw1
          have hi2 : wd.cell? ⟨g5, 2, none⟩ = some (.slice AI xs.length cI) := blk_cell HL.out.g0 2
          go_wp2_with (first | ((with_reducible refine zg 51 rfl ?_); refine zap k80 (.tmp 42) (.tmp 50) 31 80 ⟨(xs.length : Int) + 1, i, k⟩ [.int .i64 ((xs.length : Int) + 1), .int .i64 (i : Int), .int .i64 (k : Int)] HL HI Try.underlying31 info80 (k80_mkM _ _ _ ⟨(xs.length : Int) + 1, i, k⟩) (by omega) ?_; intro v9_ w9_ HI9 HL9 hg_; obtain ⟨xs2, hx2⟩ : ∃ z, xs ++ [(⟨(xs.length : Int) + 1, i, k⟩ : S80)] = z := ⟨_, rfl⟩; rw [hx2] at HI9; have HXE := am hx2; clear hx2 hi2; obtain ⟨A9, c9, rfl⟩ := Kd.R_slice HI9.out; replace HL := HL9; replace HI := HI9; clear HL9 HI9 hg_) | ((with_reducible refine zst 31 (.tmp 52) (.tmp 51) rfl ?_); refine zs 0 2 31 (.tmp 52) (.tmp 51) [.slice A9 xs2.length c9] HL ?_; intro w10_ HLn hfar; replace HI := am (Rfar HI.out HL.out 0 rfl hfar); replace HL := HLn; clear HLn hfar))
          go_roundw
          case rel => exact ⟨k + 1, _, xs2, by go_num, by omega, HL, HI, ⟨by rw [← HXE.out]; exact HP.out.snoc rfl⟩, ⟨by rw [← HXE.out, List.length_append]; have := HX.out; simp; omega⟩⟩
          case measure => simp [intOf]; omega
        · obtain rfl : k = m := by omega
          go_wp2_with (fail)
          go_quiet (fail)
          generalize hgw : World.drewN _ _ = wd
          have hbw : Below wr.heap.size wr wd := by rw [← hgw]; exact pw_below_drewN (Below.refl _ _) _
          replace HL := am (HL.out.step hbw)
          replace HI := am (Kd.R_below HI.out hbw)
          clear hgw hbw hn0 hn1 hn2 hn3 hp1 hw1
          go_wp2_with (fail)
          go_roundw
          case rel => exact ⟨i + 1, _, xs, by go_num, by omega, HL, HI, HP, ⟨by rw [HST.out]; exact HX.out⟩⟩
          case measure => simp [intOf]; omega
    · obtain rfl : i = n.f1.length := by omega
      have HXL : Aside0 ((xs.length : Int) = wideS 21 n.f0) := ⟨by rw [HX.out, List.take_length]; exact HN.out.psum⟩
      clear HX
      go_wp2_with (fail)
      have HTL : Aside0 (k84.R 84 wr wm.heap.size Any (.slice none 0 0) []) := ⟨Kd.R_nil _ _ _ _ _⟩
      have hxl : xs.length ≤ 1600 := by have := HXL.out; have := wideS_bnd 21 _ HN.out.nodes.wid; omega
      clear hn0 hn1 hn2 hn3 hi
      obtain ⟨wo, rfl⟩ : ∃ x : World, x = wr := ⟨_, rfl⟩
      go_loopw [8] (fun v8 wr => ∃ (i : Nat) (vL : Value) (ys : List S84), v8 = .int .i64 (i : Int) ∧ i ≤ n.f2.length ∧ Aside0 (Led [(g5, [.int .i64 T, .slice A' l'.length c', .slice AI xs.length cI, vL, .slice none 0 0], 35), (g3, [.int .i64 T, .slice A' l'.length c'], 30)] wm wr) ∧ Aside0 (k80.R 80 wr wm.heap.size Any (.slice AI xs.length cI) xs) ∧ Aside0 (k84.R 84 wr wm.heap.size Any vL ys) ∧ Aside0 (Lats T l'.length xs.length ys) ∧ Aside0 ((ys.length : Int) = sumW n.f0 ((n.f2.take i).map S82.f1))) (fun v _ => n.f2.length - (intOf v).toNat)
      case atStart => exact ⟨0, _, [], rfl, Nat.zero_le _, HL, HI, HTL, ⟨fun j hj => by simp at hj⟩, ⟨by simp [sumW]⟩⟩
      case round =>
        clear HL HI HTL
        obtain ⟨i, vL, ys, rfl, hi, HL, HI, HTL, HT2, HY⟩ := hrel
        obtain ⟨AL, cL, rfl⟩ := Kd.R_slice HTL.out
        obtain ⟨hn0, hn1, hn2, hn3⟩ := HB1.out wr HL.out.below
        by_cases hlt : i < n.f2.length
        · have q0 : (0 : Int) ≤ (i : Int) := by omega
          have q1 : (i : Int) < (n.f2.length : Int) := by omega
          obtain ⟨pd, cx, rfl, hKx, hcx⟩ := el_get HC2.out i hlt
          obtain ⟨j, nx, hj, hjl, hnx, hnl, hww⟩ := HN.out.cells i hlt
          have hst := sumW_take n.f0 S82.f1 n.f2 i hlt
          have hsb := sumW_bnd HN.out.nodes ((n.f2.take i).map S82.f1)
          rw [List.length_map, List.length_take] at hsb
          obtain ⟨⟨nm, fj, fx, rs⟩, hx⟩ : ∃ x, n.f2[i] = x := ⟨_, rfl⟩
          rw [hx] at hKx hj hnx hst
          obtain rfl := k82_open hKx
          subst hj
          subst hnx
          simp only [] at hst
          rw [Int.toNat_natCast] at hst
          have HCX := am hcx
          obtain ⟨nd, rfl, _, hw1, _⟩ := at77 HC0.out j hjl
          have hwd := (HN.out.nodes j hjl).w
          obtain ⟨m, hm⟩ : ∃ m : Nat, n.f0[j].f1 = (m : Int) := ⟨n.f0[j].f1.toNat, by omega⟩
          have hm2 := wdt_eq hjl hm
          rw [hm] at hw1 hwd
          rw [hm2] at hst hww
          have j0 : (0 : Int) ≤ (j : Int) := by omega
          have j1 : (j : Int) < (n.f0.length : Int) := by omega
          obtain ⟨s1, hs1⟩ : ∃ s1, sumW n.f0 ((n.f2.take i).map S82.f1) = s1 := ⟨_, rfl⟩
          rw [hs1] at hst hsb HY
          have HST := am hst
          have HW1 := am hw1
          have HWW := am hww
          have hm16 : m ≤ 16 := by omega
          have hs16 : s1 ≤ 1600 := by omega
          clear hw1 hst hs1 hm hm2 hsb hwd hKx hcx hx hww
          go_wp2_with (first | ((with_reducible refine zg 64 rfl ?_); refine zle 64 82 (.tmp 63) [.string nm, .int .i64 (j : Int), .int .i64 (nx : Int), .int .i64 rs] (HCX.out _ (HBW.out _ HL.out.below)) hu82 ?_) | ((with_reducible refine zg 9 rfl ?_); refine zx 9 [.string ⟨#[]⟩, .int .i64 0, .int .i64 0, .int .i64 0] 82 HL ?_; clear HL; intro g9 w1_ HL hb_; replace HI := am (Kd.R_below HI.out hb_); replace HTL := am (Kd.R_below HTL.out hb_); clear hb_) | ((with_reducible refine zst 82 (.tmp 9) (.tmp 64) rfl ?_); refine zs 0 0 82 (.tmp 9) (.tmp 64) [.string nm, .int .i64 (j : Int), .int .i64 (nx : Int), .int .i64 rs] HL ?_; intro w2_ HLn hfar; replace HI := am (Rfar HI.out HL.out 0 rfl hfar); replace HTL := am (Rfar HTL.out HL.out 0 rfl hfar); replace HL := HLn; have hg9_ : w2_.cell? ⟨g9, 1, none⟩ = some (.int .i64 (j : Int)) := blk_cell HLn.out.g0 1; clear HLn hfar hg9_))
          obtain ⟨wo2, rfl⟩ : ∃ x : World, x = w2_ := ⟨_, rfl⟩
          clear hn0 hn1 hn2 hn3
          go_loopw [10] (fun v10 wr => ∃ (k : Nat) (vL : Value) (ys : List S84), v10 = .int .i64 (k : Int) ∧ k ≤ m ∧ Aside0 (Led [(g9, [.string nm, .int .i64 (j : Int), .int .i64 (nx : Int), .int .i64 rs], 82), (g5, [.int .i64 T, .slice A' l'.length c', .slice AI xs.length cI, vL, .slice none 0 0], 35), (g3, [.int .i64 T, .slice A' l'.length c'], 30)] wm wr) ∧ Aside0 (k80.R 80 wr wm.heap.size Any (.slice AI xs.length cI) xs) ∧ Aside0 (k84.R 84 wr wm.heap.size Any vL ys) ∧ Aside0 (Lats T l'.length xs.length ys) ∧ Aside0 ((ys.length : Int) = s1 + k)) (fun v _ => m - (intOf v).toNat)
          case atStart => exact ⟨0, _, ys, rfl, Nat.zero_le _, HL, HI, HTL, HT2, ⟨by have := HY.out; omega⟩⟩
          case round =>
            clear HL HI HTL HT2 HY
            obtain ⟨k, vL, ys, rfl, hk, HL, HI, HTL, HT2, HY⟩ := hrel
            obtain ⟨AL, cL, rfl⟩ := Kd.R_slice HTL.out
            obtain ⟨hn0, hn1, hn2, hn3⟩ := HB1.out wr HL.out.below
            have hw1 := pw_cell_below (HBW.out _ HL.out.below) HW1.out
            have hg1 : wr.cell? ⟨g9, 1, none⟩ = some (.int .i64 (j : Int)) := blk_cell HL.out.g0 1
            have hyl : ys.length ≤ 1700 := by have := HY.out; omega
            by_cases hkm : k < m
            · go_wp2_with (fail)
              have k0 : (0 : Int) ≤ (k : Int) := by omega
              have k64 : (k : Int) ≤ 64 := by omega
              obtain ⟨od, AN, cN, hod, hxN, _, hCN⟩ := atS (rowC HO.out) nx (by have := HOL.out; omega)
              subst hod
              have HRN := HRK.out nx (by have := HOL.out; omega)
              obtain ⟨xn, hxn⟩ : ∃ z, outs[nx]'(by have := HOL.out; omega) = z := ⟨_, rfl⟩
              rw [hxn] at hxN hCN HRN
              have hkl : k < xn.length := by rw [HRN.1, HWW.out]; exact hkm
              obtain ⟨rd_, rfl, hr0⟩ := atI hCN k hkl
              have HVY := am (HRN.2 _ (List.getElem_mem hkl))
              obtain ⟨y, hy⟩ : ∃ z, xn[k] = z := ⟨_, rfl⟩
              rw [hy] at hr0 HVY
              have p1 : (0 : Int) ≤ (nx : Int) := by omega
              have p2 : (nx : Int) < (outs.length : Int) := by have := HOL.out; omega
              have p3 : (k : Int) < (xn.length : Int) := by omega
              have e1 : IntKind.i64.wrap ((xs.length : Int) + (ys.length : Int)) = (xs.length : Int) + (ys.length : Int) := IntWalk.i64_in _ (by omega)
              have e2 : IntKind.i64.wrap ((xs.length : Int) + (ys.length : Int) + 1) = (xs.length : Int) + (ys.length : Int) + 1 := IntWalk.i64_in _ (by omega)
              clear hn0 hn1 hn2 hn3 hw1 hg1 HRN hxn hkl hy
              have KS : Aside0 (∀ W, Below wr.heap.size wr W → W.cell? ⟨g5, 2, none⟩ = some (.slice AI xs.length cI) ∧ W.cell? ⟨g5, 3, none⟩ = some (.slice AL ys.length cL) ∧ W.cell? ⟨g9, 2, none⟩ = some (.int .i64 (nx : Int)) ∧ W.cell? ⟨g9, 3, none⟩ = some (.int .i64 rs) ∧ W.cell? (od.add nx) = some (.slice (some rd_) xn.length cN) ∧ W.cell? (rd_.add k) = some (.int .i64 y)) := ⟨fun W hb => ⟨pw_cell_below hb (blk_cell HL.out.g1 2), pw_cell_below hb (blk_cell HL.out.g1 3), pw_cell_below hb (blk_cell HL.out.g0 2), pw_cell_below hb (blk_cell HL.out.g0 3), pw_cell_below (below_step HL.out.below hb) hxN, pw_cell_below (below_step HL.out.below hb) hr0⟩⟩
              refine start_ (n := 31) (S := fun W => W.cell? ⟨g5, 2, none⟩ = some (.slice AI xs.length cI) ∧ W.cell? ⟨g5, 3, none⟩ = some (.slice AL ys.length cL) ∧ W.cell? ⟨g9, 2, none⟩ = some (.int .i64 (nx : Int)) ∧ W.cell? ⟨g9, 3, none⟩ = some (.int .i64 rs) ∧ W.cell? (od.add nx) = some (.slice (some rd_) xn.length cN) ∧ W.cell? (rd_.add k) = some (.int .i64 y)) (ds := [28, 30]) #[false, false, false, false, false, false, false, false, false, false, false, false, false, false, false, false, false, false, false, false, false, false, false, false, false, false, false, false, false, false, false] (by kernel_rfl) rfl rfl (KS.out _ (below_drew (Below.refl _ _))) (fun hHeld => ?_)
              have hbd : Below wr.heap.size wr wr.drew := below_drew (Below.refl _ _)
              have HLd := HL.out.drew
              have HId := Kd.R_below HI.out hbd
              have HTd := Kd.R_below HTL.out hbd
              generalize wr.drew = wd at hHeld hbd HLd HId HTd ⊢
              refine pu 0 76 ?_
              refine tk 1 77 hHeld ?_
              refine pu 2 78 ?_
              refine tk 3 79 hHeld ?_
              refine pu 4 80 ?_
              refine pu 5 81 ?_
              refine tk 6 82 hHeld ?_
              refine pu 7 83 ?_
              refine pu 8 84 ?_
              refine pu 9 85 ?_
              refine pu 10 86 ?_
              refine pu 11 87 ?_
              refine tk 12 88 hHeld ?_
              refine pu 13 89 ?_
              refine tk 14 90 hHeld ?_
              refine pu 15 91 ?_
              refine pu 16 92 ?_
              refine tk 17 93 hHeld ?_
              refine pu 18 94 ?_
              refine tk 19 95 hHeld ?_
              refine pu 20 96 ?_
              refine pu 21 97 ?_
              refine pu 22 98 ?_
              refine pu 23 99 ?_
              refine pu 24 100 ?_
              refine pu 25 101 ?_
              refine pu 26 102 ?_
              refine onl 27 103 [.int .i64 ((xs.length : Int) + (ys.length : Int) + 1), .int .i64 y, .bool (bits .and .i64 (rs / 2 ^ k) 1 == 1), .int .i64 (i : Int), .int .i64 (k : Int)] 84 (KS.out _ (below_alloc hbd _)) (fun _ => ?_)
              refine onap k84 28 104 (.tmp 77) (.tmp 103) 32 84 ⟨(xs.length : Int) + (ys.length : Int) + 1, y, (bits .and .i64 (rs / 2 ^ k) 1 == 1), (i : Int), (k : Int)⟩ [.int .i64 ((xs.length : Int) + (ys.length : Int) + 1), .int .i64 y, .bool (bits .and .i64 (rs / 2 ^ k) 1 == 1), .int .i64 (i : Int), .int .i64 (k : Int)] HLd HTd Try.underlying32 info84 (k84_mkM _ _ _ ⟨(xs.length : Int) + (ys.length : Int) + 1, y, (bits .and .i64 (rs / 2 ^ k) 1 == 1), (i : Int), (k : Int)⟩) (by omega) ?_
              intro v9 w9 HT9 HL9 hg9
              have HI9 := R_other HId HTd hg9 (by decide)
              obtain ⟨ys2, hy2⟩ : ∃ z, ys ++ [(⟨(xs.length : Int) + (ys.length : Int) + 1, y, (bits .and .i64 (rs / 2 ^ k) 1 == 1), (i : Int), (k : Int)⟩ : S84)] = z := ⟨_, rfl⟩
              rw [hy2] at HT9
              have HYE := am hy2
              clear hy2
              obtain ⟨A9, c9, rfl⟩ := Kd.R_slice HT9
              refine norm_ (a' := ?_) ?_ ?_
              rotate_left
              · simp only [Act.put, List.setIfInBounds_toArray, List.set_cons_zero, List.set_cons_succ]; rfl
              refine pu 29 105 ?_
              refine onst 30 1 3 32 (.tmp 105) (.tmp 104) [.slice A9 ys2.length c9] HL9 ?_
              intro w10 HL10 hfar
              refine done_ (by kernel_rfl) ?_
              have HI10 := Rfar HI9 HL9 1 rfl hfar
              have HT10 := Rfar HT9 HL9 1 rfl hfar
              clear HL9 HI9 HT9 hfar hg9 HLd HId HTd hbd hHeld KS e1 e2
              go_wp2_with (fail)
              go_roundw
              case rel => exact ⟨k + 1, _, ys2, by go_num, by omega, ⟨HL10⟩, ⟨HI10⟩, ⟨HT10⟩, ⟨by rw [← HYE.out]; exact HT2.out.snoc (by simp) HVY.out⟩, ⟨by rw [← HYE.out, List.length_append]; have := HY.out; simp; omega⟩⟩
              case measure => simp [intOf]; omega
            · obtain rfl : k = m := by omega
              go_wp2_with (fail)
              go_roundw
              case rel => exact ⟨i + 1, _, ys, by go_num, by omega, ⟨HL.out.drop⟩, HI, HTL, HT2, ⟨by rw [HST.out]; exact HY.out⟩⟩
              case measure => simp [intOf]; omega
        · obtain rfl : i = n.f2.length := by omega
          have HYL : Aside0 ((ys.length : Int) = wideS 22 n.f0) := ⟨by rw [HY.out, List.take_length]; exact HN.out.csum⟩
          clear HY
          go_wp2_with (fail)
          have HU : Aside0 (k88.R 88 wr wm.heap.size Any (.slice none 0 0) []) := ⟨Kd.R_nil _ _ _ _ _⟩
          have hyl : ys.length ≤ 1600 := by have := HYL.out; have := wideS_bnd 22 _ HN.out.nodes.wid; omega
          clear hn0 hn1 hn2 hn3 hi
          obtain ⟨wo2, rfl⟩ : ∃ x : World, x = wr := ⟨_, rfl⟩
          go_loopw [11] (fun v11 wr => ∃ (i : Nat) (vU : Value) (us : List S88), v11 = .int .i64 (i : Int) ∧ i ≤ n.f3.length ∧ Aside0 (Led [(g5, [.int .i64 T, .slice A' l'.length c', .slice AI xs.length cI, .slice AL ys.length cL, vU], 35), (g3, [.int .i64 T, .slice A' l'.length c'], 30)] wm wr) ∧ Aside0 (k80.R 80 wr wm.heap.size Any (.slice AI xs.length cI) xs) ∧ Aside0 (k84.R 84 wr wm.heap.size Any (.slice AL ys.length cL) ys) ∧ Aside0 (k88.R 88 wr wm.heap.size Any vU us) ∧ Aside0 (Outs T l'.length us) ∧ Aside0 (us.length = i)) (fun v _ => n.f3.length - (intOf v).toNat)
          case atStart => exact ⟨0, _, [], rfl, Nat.zero_le _, HL, HI, HTL, HU, ⟨fun j hj => by simp at hj⟩, ⟨rfl⟩⟩
          case round =>
            clear HL HI HTL HU
            obtain ⟨i, vU, us, rfl, hi, HL, HI, HTL, HU, HU2, HUL⟩ := hrel
            obtain ⟨AU, cU, rfl⟩ := Kd.R_slice HU.out
            obtain ⟨hn0, hn1, hn2, hn3⟩ := HB1.out wr HL.out.below
            by_cases hlt : i < n.f3.length
            · have q0 : (0 : Int) ≤ (i : Int) := by omega
              have q1 : (i : Int) < (n.f3.length : Int) := by omega
              go_wp2_with (fail)
              obtain ⟨pd, rfl, hp0, _, hp2⟩ := at86 HC3.out i hlt
              obtain ⟨j, hj, hjl, hwj⟩ := HN.out.props i hlt
              rw [hj] at hp2
              obtain ⟨kd, hkd⟩ : ∃ z, n.f3[i].f0 = z := ⟨_, rfl⟩
              rw [hkd] at hp0
              obtain ⟨od, AN, cN, hod, hxN, _, hCN⟩ := atS (rowC HO.out) j (by have := HOL.out; omega)
              subst hod
              have HRN := HRK.out j (by have := HOL.out; omega)
              obtain ⟨xn, hxn⟩ : ∃ z, outs[j]'(by have := HOL.out; omega) = z := ⟨_, rfl⟩
              rw [hxn] at hxN hCN HRN
              have hkl : 0 < xn.length := by rw [HRN.1, hwj]; decide
              obtain ⟨rd_, rfl, hr0⟩ := atI hCN 0 hkl
              have HVY := am (HRN.2 _ (List.getElem_mem hkl))
              obtain ⟨y, hy⟩ : ∃ z, xn[0] = z := ⟨_, rfl⟩
              rw [hy] at HVY
              rw [hy, Addr.add_zero'] at hr0
              have p1 : (0 : Int) ≤ (j : Int) := by omega
              have p2 : (j : Int) < (outs.length : Int) := by have := HOL.out; omega
              have p3 : (0 : Int) < (xn.length : Int) := by omega
              clear hn0 hn1 hn2 hn3 HRN hxn hy hwj hj hkd
              have KS : Aside0 (∀ W, Below wr.heap.size wr W → W.cell? ⟨g5, 4, none⟩ = some (.slice AU us.length cU) ∧ W.cell? ⟨g1, 3, none⟩ = some (.slice (some pd) n.f3.length c3) ∧ W.cell? (pd.add (i * 3)) = some (.int .i64 kd) ∧ W.cell? ⟨(pd.add (i * 3)).block, (pd.add (i * 3)).off + 2, none⟩ = some (.int .i64 (j : Int)) ∧ W.cell? (od.add j) = some (.slice (some rd_) xn.length cN) ∧ W.cell? rd_ = some (.int .i64 y)) := ⟨fun W hb => ⟨pw_cell_below hb (blk_cell HL.out.g0 4), (HB1.out _ (below_step HL.out.below hb)).2.2.2, pw_cell_below (HBW.out _ (below_step HL.out.below hb)) hp0, pw_cell_below (HBW.out _ (below_step HL.out.below hb)) hp2, pw_cell_below (below_step HL.out.below hb) hxN, pw_cell_below (below_step HL.out.below hb) hr0⟩⟩
              refine start_ (n := 25) (S := fun W => W.cell? ⟨g5, 4, none⟩ = some (.slice AU us.length cU) ∧ W.cell? ⟨g1, 3, none⟩ = some (.slice (some pd) n.f3.length c3) ∧ W.cell? (pd.add (i * 3)) = some (.int .i64 kd) ∧ W.cell? ⟨(pd.add (i * 3)).block, (pd.add (i * 3)).off + 2, none⟩ = some (.int .i64 (j : Int)) ∧ W.cell? (od.add j) = some (.slice (some rd_) xn.length cN) ∧ W.cell? rd_ = some (.int .i64 y)) (ds := [22, 24]) #[false, false, false, false, false, false, false, false, false, false, false, false, false, false, false, false, false, false, false, false, false, false, false, false, false] (by kernel_rfl) rfl rfl (KS.out _ (below_drew (Below.refl _ _))) (fun hHeld => ?_)
              have hbd : Below wr.heap.size wr wr.drew := below_drew (Below.refl _ _)
              have HLd := HL.out.drew
              have HId := Kd.R_below HI.out hbd
              have HTd := Kd.R_below HTL.out hbd
              have HUd := Kd.R_below HU.out hbd
              generalize wr.drew = wd at hHeld hbd HLd HId HTd HUd ⊢
              refine pu 0 113 ?_
              refine tk 1 114 hHeld ?_
              refine pu 2 115 ?_
              refine tk 3 116 hHeld ?_
              refine pu 4 117 ?_
              refine pu 5 118 ?_
              refine pu 6 119 ?_
              refine tk 7 120 hHeld ?_
              refine pu 8 121 ?_
              refine pu 9 122 ?_
              refine tk 10 123 hHeld ?_
              refine pu 11 124 ?_
              refine pu 12 125 ?_
              refine pu 13 126 ?_
              refine tk 14 127 hHeld ?_
              refine pu 15 128 ?_
              refine tk 16 129 hHeld ?_
              refine pu 17 130 ?_
              refine tk 18 131 hHeld ?_
              refine pu 19 132 ?_
              refine pu 20 133 ?_
              refine onl 21 134 [.int .i64 kd, .int .i64 y, .int .i64 (i : Int)] 88 (KS.out _ (below_alloc hbd _)) (fun _ => ?_)
              refine onap k88 22 135 (.tmp 114) (.tmp 134) 33 88 ⟨kd, y, (i : Int)⟩ [.int .i64 kd, .int .i64 y, .int .i64 (i : Int)] HLd HUd Try.underlying33 info88 (k88_mkM _ _ _ ⟨kd, y, (i : Int)⟩) (by have := HUL.out; omega) ?_
              intro v9 w9 HU9 HL9 hg9
              have HI9 := R_other HId HUd hg9 (by decide)
              have HT9 := R_other HTd HUd hg9 (by decide)
              obtain ⟨us2, hy2⟩ : ∃ z, us ++ [(⟨kd, y, (i : Int)⟩ : S88)] = z := ⟨_, rfl⟩
              rw [hy2] at HU9
              have HUE := am hy2
              clear hy2
              obtain ⟨A9, c9, rfl⟩ := Kd.R_slice HU9
              refine norm_ (a' := ?_) ?_ ?_
              rotate_left
              · simp only [Act.put, List.setIfInBounds_toArray, List.set_cons_zero, List.set_cons_succ]; rfl
              refine pu 23 136 ?_
              refine onst 24 0 4 33 (.tmp 136) (.tmp 135) [.slice A9 us2.length c9] HL9 ?_
              intro w10 HL10 hfar
              refine done_ (by kernel_rfl) ?_
              have HI10 := Rfar HI9 HL9 0 rfl hfar
              have HT10 := Rfar HT9 HL9 0 rfl hfar
              have HU10 := Rfar HU9 HL9 0 rfl hfar
              clear HL9 HI9 HT9 HU9 hfar hg9 HLd HId HTd HUd hbd hHeld KS
              go_wp2_with (fail)
              go_roundw
              case rel => exact ⟨i + 1, _, us2, by go_num, by omega, ⟨HL10⟩, ⟨HI10⟩, ⟨HT10⟩, ⟨HU10⟩, ⟨by rw [← HUE.out]; exact HU2.out.snoc HVY.out⟩, ⟨by rw [← HUE.out, List.length_append, HUL.out]; rfl⟩⟩
              case measure => simp [intOf]; omega
            · obtain rfl : i = n.f3.length := by omega
              clear hn0 hn1 hn2
              have HGd := am (HG.out.step HL.out.below)
              have HLz := am (HLw.out.step HL.out.below)
              go_wp2_with (first
                | ((with_reducible refine zg 137 rfl ?_); refine zl 0 35 (.tmp 5) HL hu35 ?_)
                | ((with_reducible refine zst 35 (.tmp 2) (.tmp 137) rfl ?_); refine zs 0 0 35 (.tmp 2) (.tmp 137) [.int .i64 T, .slice A' l'.length c', .slice AI xs.length cI, .slice AL ys.length cL, .slice AU us.length cU] HLz ?_; intro wz HLn hfar; replace HI := am (Rfar HI.out HLz.out 0 rfl hfar); replace HTL := am (Rfar HTL.out HLz.out 0 rfl hfar); replace HU := am (Rfar HU.out HLz.out 0 rfl hfar); replace HGd := am (HGd.out.far HLz.out 0 rfl hfar); replace HLz := HLn; clear HLn hfar))
              refine bodyPost_ret (results_cell_row rfl _ _ g2 35 #[.int .i64 T, .slice A' l'.length c', .slice AI xs.length cI, .slice AL ys.length cL, .slice AU us.length cU] (0, 0) _ rfl (HLz.out.get 0 rfl) Try.underlying35 rfl (by kernel_rfl)) rfl ?_
              refine ⟨⟨⟨T, l'⟩, xs, ys, us⟩, _, rfl, k35.K_of_M (k35_mkM _ 0 Any ⟨⟨T, l'⟩, xs, ys, us⟩ HGd.out.row (Kd.R_lower HI.out (Nat.zero_le _)) (Kd.R_lower HTL.out (Nat.zero_le _)) (Kd.R_lower HU.out (Nat.zero_le _))), ⟨HGd.out.i0, (by have h5 := (wideS_bnd 21 _ HN.out.nodes.wid).2; have h6 := (wideS_bnd 22 _ HN.out.nodes.wid).2; have h7 := HT.out; have h8 := HN.out.len; show T ≤ _; omega), ?_, HGd.out.ok, (by have := HLL.out; show l'.length ≤ _; omega), HP.out, HT2.out, HU2.out, (by have := HUL.out; show us.length ≤ _; omega)⟩, HLz.out.below⟩
              have h1 := HXL.out
              have h2 := HYL.out
              have h3 := HT.out
              simp only []
              omega
end Go.Proofs.Yteilkojmefipcaa.U
