/- Unroll: the walk of Apart. -/
import Derived.Test.YteilkojmefipcaaM09
namespace Go.Proofs.Yteilkojmefipcaa.U
open Go.RowKit Go.Proofs.YteilkojmefipcaaW.PrintWords Go.Proofs.YteilkojmefipcaaW.PrintLast
set_option linter.unusedVariables false
set_option linter.unusedSimpArgs false
set_option maxHeartbeats 64000000 in
set_option maxRecDepth 100000 in
theorem apart_any (n : S27) (cs : List Value) (m : Int) (w : World) (h : k27.K w n cs) (h0 : 0 ≤ m) (h1 : m ≤ 255) :
    Calls Try.prog 5 #[.agg cs.toArray, .int .u8 m] w (RetB (fun b => b = true) w) := by
  have KG := am (fun W (hb : Below w.heap.size w W) => great_any n cs W (k27.K_below hb h))
  have KC := am (fun W (hb : Below w.heap.size w W) (ok : NetOk n) => compile_any n cs W (k27.K_below hb h) ok)
  obtain ⟨k, hk⟩ : ∃ k : Nat, m % 5 = (k : Int) := ⟨(m % 5).toNat, by omega⟩
  have hk4 : k ≤ 4 := by omega
  have KM : Aside0 (∀ W, Calls Try.prog 14 #[.int .u8 m] W (fun e w' => e = .returned (.int .i64 (k : Int)) ∧ w' = W)) := ⟨fun W => by have := some_any m W h0 h1; rw [hk] at this; exact this⟩
  obtain ⟨A0, c0, A1, c1, A2, c2, A3, c3, A4, c4, rfl, _⟩ := k27_open h
  have HL : Aside0 (Led [] w w) := ⟨Led.nil w⟩
  have hu27 := Try.underlying27
  have hu35 := Try.underlying35
  clear h hk
  go_enter Try.func5, Try.ntmps5
  go_wp2_with (first
    | ((with_reducible refine zg 2 rfl ?_); refine zx 2 [.slice A0 n.f0.length c0, .slice A1 n.f1.length c1, .slice A2 n.f2.length c2, .slice A3 n.f3.length c3, .slice A4 n.f4.length c4] 27 HL ?_; clear HL; intro g2 w1_ HL hb; clear hb)
    | (go_at_call 9; refine (head_any _).mono ?_; rintro e w1_ ⟨r, rfl, rfl, hb⟩; replace HL := am (HL.out.step hb); clear hb)
    | ((with_reducible refine zg 14 rfl ?_); refine zl 0 27 (.tmp 2) HL hu27 ?_)
    | (go_at_call 10; refine (KG.out _ HL.out.below).mono ?_; rintro e w1_ ⟨r, rfl, hr, hb⟩; have HR1 := am hr; replace HL := am (HL.out.step hb); clear hr hb; cases r)
    | ((with_reducible refine zg 17 rfl ?_); refine zl 0 27 (.tmp 2) HL hu27 ?_)
    | (go_at_call 11; refine (KC.out _ HL.out.below (HR1.out (by first | rfl | trivial))).mono ?_; rintro e wc ⟨c, cs2, rfl, hk, hok, hb⟩; obtain ⟨B1, d1, B2, d2, B3, d3, B4, d4, rfl, _⟩ := k35_open hk; have HK := am hk; have HOK := am hok; have HB0 := am (HL.out.step hb).below; clear HL; have HL : Aside0 (Led [] wc wc) := ⟨Led.nil wc⟩; obtain ⟨hz0, hz1, hl1, hl2⟩ := hok.fit; have hi0 := hok.i0; have hi1 := hok.i1; have hl0 := hok.len; have hl3 := hok.lout; obtain ⟨p, hp⟩ : ∃ p, k * szN c = p := ⟨_, rfl⟩; obtain ⟨hp1, hp2⟩ := hok.prod hk4; rw [hp] at hp1 hp2; have HP := am hp; have HPR := am hp1; clear hp hp1; clear hk hok hb HR1)
    | ((with_reducible refine zg 6 rfl ?_); refine zx 6 [.int .i64 0, .slice none 0 0, .slice none 0 0, .slice none 0 0, .slice none 0 0] 35 HL ?_; clear HL; intro g6 w1_ HL hb; clear hb)
    | ((with_reducible refine zst 35 (.tmp 6) (.tmp 18) rfl ?_); refine zs 0 0 35 (.tmp 6) (.tmp 18) [.int .i64 c.f0.f0, .slice B1 c.f0.f1.length d1, .slice B2 c.f1.length d2, .slice B3 c.f2.length d3, .slice B4 c.f3.length d4] HL ?_; intro w1_ HLn hfar; replace HL := HLn; clear HLn hfar)
    | (go_at_call 14; refine (KM.out _).mono ?_; rintro e w1_ ⟨rfl, rfl⟩)
    | ((with_reducible refine zg 21 rfl ?_); refine zl 0 35 (.tmp 6) HL hu35 ?_)
    | (go_at_call 13; refine (new_any c _ k true _ (k35.K_below HL.out.below HK.out) hi0 (by omega) (by omega)).mono ?_; rintro e wz ⟨g8, rfl, _, hF, hb⟩; replace HL := am (HL.out.step hb); have HF := am hF; clear hF hb; have k0 : wz.cell? ⟨g6, 0, none⟩ = some (.int .i64 c.f0.f0) := blk_cell (HL.out.get 0 rfl) 0; have k1 : wz.cell? ⟨g6, 1, none⟩ = some (.slice B1 c.f0.f1.length d1) := blk_cell (HL.out.get 0 rfl) 1)
    | ((with_reducible refine zg 36 rfl ?_); refine zval 36 (.int .i64 (p : Int)) ?_ (hrun := by go_simp; rw [HPR.out, i64_w]; exact wrap_small (by omega) (by omega)))
    | ((with_reducible refine zg 38 rfl ?_); refine Kd.R_make Kd.bool (w0 := wz) wz.heap.size 4 rfl (N := 38) rfl 36 (.tmp 37) (.tmp 37) rfl ((p : Int) + 1) rfl rfl Try.underlying36 (.bool false) 1 info4 rfl (by decide) (by decide) false (ok := Any) (okp := fun _ => False) rfl (fun _ h => h.elim) trivial (by omega) (by omega) (Below.refl _ _) (Nat.le_refl _) ?_; intro v38 wv hR hb _ _; rw [show ((p : Int) + 1).toNat = p + 1 by omega] at hR; obtain ⟨N, hN⟩ : ∃ N, p + 1 = N := ⟨_, rfl⟩; rw [hN] at hR; obtain ⟨g9, q9, rfl⟩ : ∃ g cap, v38 = .slice (some ⟨g, 0, none⟩) N cap := (by have := rowform hR (by rw [List.length_replicate]; omega); simpa using this); have HR := am hR; have HB := am hb; have HN := am hN; clear hR hb hN k0 k1))
  · have HML : Aside0 ((List.replicate N false).length = N) := ⟨List.length_replicate⟩
    have HSE : Aside0 (Seen c (List.replicate N false) 0 0) := ⟨Seen.none c N⟩
    have HBW : Aside0 (Below w.heap.size w wz) := ⟨below_step HB0.out HL.out.below⟩
    have HZ := HL
    have KV : Aside0 (∀ W, Below wz.heap.size wz W → Calls Try.prog 19 #[.pointer (some ⟨g8, 0, none⟩)] W (RetV (.int .i64 (p : Int)) W)) := ⟨fun W hb => by
      have := fvars_any c g8 k true W (HF.out.below hb) (by omega) hz0 (by omega)
      rw [HOK.out.szN, ← Int.natCast_mul, HP.out] at this
      exact this⟩
    have KL : Aside0 (∀ W, Below wz.heap.size wz W → ∀ a i : Int, Calls Try.prog 21 #[.pointer (some ⟨g8, 0, none⟩), .int .i64 a, .int .i64 i] W (RetV (.int .i64 (atL k (sizeOf c) (c.f2.map (fun x => 2 * x.f0)) a i)) W)) := ⟨fun W hb a i => latch_any c g8 k true a i W (HF.out.below hb) (by omega) hz0 (by omega) (fun x hx => (HOK.out.lat x hx).1)⟩
    have KI : Aside0 (∀ W, Below wz.heap.size wz W → ∀ a i : Int, Calls Try.prog 23 #[.pointer (some ⟨g8, 0, none⟩), .int .i64 a, .int .i64 i] W (RetV (.int .i64 (atL k (sizeOf c) (c.f1.map (fun x => 2 * x.f0)) a i)) W)) := ⟨fun W hb a i => in__any c g8 k true a i W (HF.out.below hb) (by omega) hz0 (by omega) HOK.out.ins_⟩
    have H2 := am (show wz.cell? ⟨g6, 2, none⟩ = some (.slice B2 c.f1.length d2) from blk_cell (HZ.out.get 0 rfl) 2)
    have H3 := am (show wz.cell? ⟨g6, 3, none⟩ = some (.slice B3 c.f2.length d3) from blk_cell (HZ.out.get 0 rfl) 3)
    clear KG KC KM HL HB0 HK HF hz0 hz1
    go_loopw [10] (fun v10 wr => ∃ (a : Nat) (ms : List Bool), v10 = .int .i64 (a : Int) ∧ a ≤ k ∧ Aside0 (Below wz.heap.size wz wr) ∧ Aside0 (Kd.bool.R 4 wr wz.heap.size Any (.slice (some ⟨g9, 0, none⟩) N q9) ms) ∧ Aside0 (ms.length = N) ∧ Aside0 (Seen c ms a 0)) (fun v _ => k - (intOf v).toNat)
    case atStart => exact ⟨0, _, rfl, Nat.zero_le _, HB, HR, HML, HSE⟩
    case round =>
      clear HB HR HML HSE
      obtain ⟨a, ms, rfl, ha, HB, HR, HML, HSE⟩ := hrel
      by_cases hlt : a < k
      · have qa : (a : Int) < (k : Int) := by omega
        go_wp2_with (fail)
        go_loopw [11] (fun v11 wq => ∃ (i : Nat) (ms : List Bool), v11 = .int .i64 (i : Int) ∧ i ≤ c.f2.length + c.f1.length ∧ Aside0 (Below wz.heap.size wz wq) ∧ Aside0 (Kd.bool.R 4 wq wz.heap.size Any (.slice (some ⟨g9, 0, none⟩) N q9) ms) ∧ Aside0 (ms.length = N) ∧ Aside0 (Seen c ms a i)) (fun v _ => c.f2.length + c.f1.length - (intOf v).toNat)
        case atStart => exact ⟨0, ms, rfl, Nat.zero_le _, HB, HR, HML, HSE⟩
        case round =>
          clear HB HR HML HSE ms
          obtain ⟨i, ms, rfl, hi, HB, HR, HML, HSE⟩ := hrel
          have hk2 := pw_cell_below HB.out H2.out
          have hk3 := pw_cell_below HB.out H3.out
          by_cases hit : i < c.f2.length + c.f1.length
          · obtain ⟨hv1, hv2⟩ := varA_bnd (c := c) hlt hit
            have hnot := HSE.out.not hit
            have HNX := am (HSE.out.step hit)
            have HVA : Aside0 ((i < c.f2.length → atL k (sizeOf c) (c.f2.map (fun x => 2 * x.f0)) (a : Int) (i : Int) = (varA c a i : Int)) ∧ (c.f2.length ≤ i → atL k (sizeOf c) (c.f1.map (fun x => 2 * x.f0)) (a : Int) ((i : Int) - (c.f2.length : Int)) = (varA c a i : Int))) :=
              ⟨fun h => latch_var HOK.out hlt h, fun h => by rw [show (i : Int) - (c.f2.length : Int) = ((i - c.f2.length : Nat) : Int) by omega]; exact in_var HOK.out hlt h hit⟩
            rw [HP.out] at hv2
            obtain ⟨v, hv⟩ : ∃ v, varA c a i = v := ⟨_, rfl⟩
            rw [hv] at hv1 hv2 hnot HNX HVA
            have hvN : v < N := by have := HN.out; omega
            have hvl : v < ms.length := by rw [HML.out]; exact hvN
            obtain ⟨ad, e, hp⟩ := atB (Kd.R_reads' HR.out).2.2 v hvl
            cases e
            have hb0 : ms[v] = false := by rw [List.getD_eq_getElem?_getD, List.getElem?_eq_getElem hvl] at hnot; exact hnot
            rw [hb0, add_zero_addr] at hp
            have i1 : (1 : Int) ≤ (v : Int) := by omega
            have i2 : (v : Int) ≤ (p : Int) := by omega
            have i3 : (v : Int) < (N : Int) := by omega
            have i4 : (0 : Int) ≤ (v : Int) := by omega
            have it : (i : Int) < (c.f2.length : Int) + (c.f1.length : Int) := by omega
            clear hv hnot hb0 hvl HSE
            by_cases hil : i < c.f2.length
            · have K21 : Aside0 (∀ W, Below wz.heap.size wz W → Calls Try.prog 21 #[.pointer (some ⟨g8, 0, none⟩), .int .i64 (a : Int), .int .i64 (i : Int)] W (RetV (.int .i64 (v : Int)) W)) := ⟨fun W hb => by have := KL.out W hb a i; rw [HVA.out.1 hil] at this; exact this⟩
              have ii : (i : Int) < (c.f2.length : Int) := by omega
              go_wp2_with (first
                | (go_at_call 21; refine (K21.out _ HB.out).mono ?_; rintro e w3_ ⟨rfl, hb⟩; replace HB := am (below_step HB.out hb); replace HR := am (Kd.R_below HR.out hb); replace hp := pw_cell_below hb hp; clear hb hk2 hk3; have hk2 := pw_cell_below HB.out H2.out; have hk3 := pw_cell_below HB.out H3.out)
                | (go_at_call 19; refine (KV.out _ HB.out).mono ?_; rintro e w4_ ⟨rfl, hb⟩; replace HB := am (below_step HB.out hb); replace HR := am (Kd.R_below HR.out hb); replace hp := pw_cell_below hb hp; clear hb hk2 hk3; have hk2 := pw_cell_below HB.out H2.out; have hk3 := pw_cell_below HB.out H3.out)
                | ((with_reducible refine zst 4 (.tmp 94) (.const (.bool true)) rfl ?_); refine Kd.R_store Kd.bool (w0 := wz) wz.heap.size rfl rfl 4 (.tmp 94) (.const (.bool true)) rfl 4 (g := g9) (n := N) (cap := q9) (o' := v) (v : Int) 0 ms true (.bool true) [.bool true] [.bool false] Any (fun _ => False) rfl (by show v = (v : Int).toNat * 1 + 0; omega) rfl rfl (by kernel_rfl) (by simp [Value.oneCell']) HR.out (by omega) (by omega) rfl (boolcell hp) (by decide) rfl (fun _ h => h.elim) HB.out ?_; intro w5_ hR hb _; replace HR := am hR; replace HB := am hb; clear hR hb hk2 hk3 hp))
              go_roundw
              case rel => exact ⟨i + 1, _, by go_num, by omega, HB, HR, ⟨by rw [List.length_set]; exact HML.out⟩, ⟨by simpa using HNX.out⟩⟩
              case measure => simp [intOf]; omega
            · have K21 : Aside0 (∀ W, Below wz.heap.size wz W → Calls Try.prog 21 #[.pointer (some ⟨g8, 0, none⟩), .int .i64 (a : Int), .int .i64 (i : Int)] W (RetV (.int .i64 0) W)) := ⟨fun W hb => by have := KL.out W hb a i; rw [← atL_no (by rw [List.length_map]; omega)] at this; exact this⟩
              have K23 : Aside0 (∀ W, Below wz.heap.size wz W → Calls Try.prog 23 #[.pointer (some ⟨g8, 0, none⟩), .int .i64 (a : Int), .int .i64 ((i : Int) - (c.f2.length : Int))] W (RetV (.int .i64 (v : Int)) W)) := ⟨fun W hb => by have := KI.out W hb a ((i : Int) - (c.f2.length : Int)); rw [HVA.out.2 (by omega)] at this; exact this⟩
              have ii : (c.f2.length : Int) ≤ (i : Int) := by omega
              have ij : c.f2.length ≤ i := by omega
              go_wp2_with (first
                | (go_at_call 21; refine (K21.out _ HB.out).mono ?_; rintro e w3_ ⟨rfl, hb⟩; replace HB := am (below_step HB.out hb); replace HR := am (Kd.R_below HR.out hb); replace hp := pw_cell_below hb hp; clear hb hk2 hk3; have hk2 := pw_cell_below HB.out H2.out; have hk3 := pw_cell_below HB.out H3.out)
                | (go_at_call 23; refine (K23.out _ HB.out).mono ?_; rintro e w3_ ⟨rfl, hb⟩; replace HB := am (below_step HB.out hb); replace HR := am (Kd.R_below HR.out hb); replace hp := pw_cell_below hb hp; clear hb hk2 hk3; have hk2 := pw_cell_below HB.out H2.out; have hk3 := pw_cell_below HB.out H3.out)
                | (go_at_call 19; refine (KV.out _ HB.out).mono ?_; rintro e w4_ ⟨rfl, hb⟩; replace HB := am (below_step HB.out hb); replace HR := am (Kd.R_below HR.out hb); replace hp := pw_cell_below hb hp; clear hb hk2 hk3; have hk2 := pw_cell_below HB.out H2.out; have hk3 := pw_cell_below HB.out H3.out)
                | ((with_reducible refine zst 4 (.tmp 94) (.const (.bool true)) rfl ?_); refine Kd.R_store Kd.bool (w0 := wz) wz.heap.size rfl rfl 4 (.tmp 94) (.const (.bool true)) rfl 4 (g := g9) (n := N) (cap := q9) (o' := v) (v : Int) 0 ms true (.bool true) [.bool true] [.bool false] Any (fun _ => False) rfl (by show v = (v : Int).toNat * 1 + 0; omega) rfl rfl (by kernel_rfl) (by simp [Value.oneCell']) HR.out (by omega) (by omega) rfl (boolcell hp) (by decide) rfl (fun _ h => h.elim) HB.out ?_; intro w5_ hR hb _; replace HR := am hR; replace HB := am hb; clear hR hb hk2 hk3 hp))
              go_roundw
              case rel => exact ⟨i + 1, _, by go_num, by omega, HB, HR, ⟨by rw [List.length_set]; exact HML.out⟩, ⟨by simpa using HNX.out⟩⟩
              case measure => simp [intOf]; omega
          · obtain rfl : i = c.f2.length + c.f1.length := by omega
            go_wp2
            go_roundw
            case rel => exact ⟨a + 1, ms, by go_num, by omega, HB, HR, HML, ⟨HSE.out.next⟩⟩
            case measure => simp [intOf]; omega
      · obtain rfl : a = k := by omega
        go_wp2
        go_ret
        exact ⟨_, rfl, rfl, below_step HBW.out HB.out⟩
  · go_ret
    exact ⟨_, rfl, rfl, HL.out.below⟩
end Go.Proofs.Yteilkojmefipcaa.U
