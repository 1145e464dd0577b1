/- Unroll: the walk of Fewer. -/
import Derived.Test.YteilkojmefipcaaM09
namespace Go.Proofs.Yteilkojmefipcaa.U
open Go.RowKit Go.Proofs.YteilkojmefipcaaW.PrintWords Go.Proofs.YteilkojmefipcaaW.PrintLast
set_option linter.unusedVariables false
set_option linter.unusedSimpArgs false
theorem framesC_small {c : S35} (h : CircOk c) {fs : Bool} (k : Nat) (hk : k ≤ 4) : (framesC c fs k).length ≤ 100000000 := by
  have h1 := frames_len c fs k
  have h2 : k * (1 + 3 * c.f0.f1.length + 2 * c.f2.length) ≤ 4 * (1 + 3 * c.f0.f1.length + 2 * c.f2.length) := Nat.mul_le_mul_right _ hk
  have h3 := h.fit
  have h4 := h.len
  omega
set_option maxHeartbeats 64000000 in
set_option maxRecDepth 100000 in
theorem fewer_true_p (n : S27) (cs : List Value) (m ls x : Int) (k : Nat) (w : World) (h : k27.K w n cs) (h0 : 0 ≤ m) (h1 : m ≤ 255) (h2 : 0 ≤ ls) (h3 : ls ≤ 255) (h4 : 0 ≤ x) (h5 : x ≤ 255) (hk : m % 5 = (k : Int)) (hk0 : 1 ≤ k) :
    Calls Try.prog 4 #[.agg cs.toArray, .int .u8 m, .bool true, .int .u8 ls, .int .u8 x] w (RetB (fun b => b = true) w) := by
  have KG := am (fun W (hb : Below w.heap.size w W) => great_any n cs W (k27.K_below hb h))
  have KC := am (fun W (hb : Below w.heap.size w W) (ok : NetOk n) => compile_any n cs W (k27.K_below hb h) ok)
  have hk4 : k ≤ 4 := by omega
  have KM : Aside0 (∀ W, Calls Try.prog 14 #[.int .u8 m] W (fun e w' => e = .returned (.int .i64 (k : Int)) ∧ w' = W)) := ⟨fun W => by have := some_any m W h0 h1; rw [hk] at this; exact this⟩
  obtain ⟨A0, c0, A1, c1, A2, c2, A3, c3, A4, c4, rfl, _⟩ := k27_open h
  have HL : Aside0 (Led [] w w) := ⟨Led.nil w⟩
  have hu27 := Try.underlying27
  have hu35 := Try.underlying35
  obtain ⟨mm, hmm⟩ : ∃ mm : Nat, ls % ((k : Int) + 1) = (mm : Int) := ⟨(ls % ((k : Int) + 1)).toNat, by have := Int.emod_nonneg ls (show (k : Int) + 1 ≠ 0 by omega); omega⟩
  have hmk : mm ≤ k := by have := Int.emod_lt_of_pos ls (show (0 : Int) < (k : Int) + 1 by omega); omega
  have HMM : Aside0 (ls.tmod ((k : Int) + 1) = (mm : Int)) := ⟨by rw [Int.tmod_eq_emod_of_nonneg h2]; exact hmm⟩
  have HM2 := am hmm
  have e82 : ((k : Int) == 0) = false := by first | (rw [beq_iff_eq]; omega) | (rw [beq_eq_false_iff_ne]; omega)
  have e98 : decide ((0 : Int) < (k : Int)) = true := by first | exact decide_eq_true (by omega) | exact decide_eq_false (by omega)
  have e98b : decide (0 < k) = true := by first | exact decide_eq_true (by omega) | exact decide_eq_false (by omega)
  clear h hk hmm
  go_enter Try.func4, Try.ntmps4
  go_wp2_with (first
    | ((with_reducible refine zg 5 rfl ?_); refine zx 5 [.slice A0 n.f0.length c0, .slice A1 n.f1.length c1, .slice A2 n.f2.length c2, .slice A3 n.f3.length c3, .slice A4 n.f4.length c4] 27 HL ?_; clear HL; intro g2 w1_ HL hb; clear hb)
    | (go_at_call 9; refine (head_any _).mono ?_; rintro e w1_ ⟨r, rfl, rfl, hb⟩; replace HL := am (HL.out.step hb); clear hb)
    | ((with_reducible refine zg 24 rfl ?_); refine zl 0 27 (.tmp 5) HL hu27 ?_)
    | (go_at_call 10; refine (KG.out _ HL.out.below).mono ?_; rintro e w1_ ⟨r, rfl, hr, hb⟩; have HR1 := am hr; replace HL := am (HL.out.step hb); clear hr hb; cases r)
    | ((with_reducible refine zg 27 rfl ?_); refine zl 0 27 (.tmp 5) HL hu27 ?_)
    | (go_at_call 11; refine (KC.out _ HL.out.below (HR1.out (by first | rfl | trivial))).mono ?_; rintro e wc ⟨c, cs2, rfl, hk, hok, hb⟩; obtain ⟨B1, d1, B2, d2, B3, d3, B4, d4, rfl, _⟩ := k35_open hk; have HK := am hk; have HOK := am hok; have HB0 := am (HL.out.step hb).below; clear HL; have HL : Aside0 (Led [] wc wc) := ⟨Led.nil wc⟩; obtain ⟨hz0, hz1, hl1, hl2⟩ := hok.fit; have hi0 := hok.i0; have hi1 := hok.i1; have hl0 := hok.len; have hl3 := hok.lout; have KN : Aside0 (∀ (W : World) (k : Nat) (fs : Bool), k35.K W c _ → Calls Try.prog 13 #[.agg #[.int .i64 c.f0.f0, .slice B1 c.f0.f1.length d1, .slice B2 c.f1.length d2, .slice B3 c.f2.length d3, .slice B4 c.f3.length d4], .int .i64 (k : Int), .bool fs] W (RetFr c k fs W)) := ⟨fun W k fs h => new_any c _ k fs W h hi0 (by omega) (by omega)⟩; have K17 : Aside0 (∀ (W : World) (g k : Nat) (fs : Bool), Fr W g c k fs → k ≤ 4 → Calls Try.prog 17 #[.pointer (some ⟨g, 0, none⟩)] W (RetLs (framesC c fs k) W)) := ⟨fun W g k fs hF hk => frames_any c g k fs W hF hok.ok hi0 hi1 hl0 hok.lat (by omega) (by omega)⟩; clear hk hok hb HR1)
    | ((with_reducible refine zg 12 rfl ?_); refine zx 12 [.int .i64 0, .slice none 0 0, .slice none 0 0, .slice none 0 0, .slice none 0 0] 35 HL ?_; clear HL; intro g6 w1_ HL hb; clear hb)
    | ((with_reducible refine zst 35 (.tmp 12) (.tmp 28) rfl ?_); refine zs 0 0 35 (.tmp 12) (.tmp 28) [.int .i64 c.f0.f0, .slice B1 c.f0.f1.length d1, .slice B2 c.f1.length d2, .slice B3 c.f2.length d3, .slice B4 c.f3.length d4] HL ?_; intro w1_ HLn hfar; replace HL := HLn; clear HLn hfar)
    | (go_at_call 14; refine (KM.out _).mono ?_; rintro e w1_ ⟨rfl, rfl⟩)
    | ((with_reducible refine zg 35 rfl ?_); refine zval 35 (.int .i64 (mm : Int)) ?_ (hrun := by go_simp; rw [if_neg (by omega), HMM.out]))
    | ((with_reducible refine zg 36 rfl ?_); refine zl 0 35 (.tmp 12) HL hu35 ?_)
    | (go_at_call 13; (with_reducible refine (KN.out _ k true (k35.K_below HL.out.below HK.out)).mono ?_); rintro e wz ⟨g8, rfl, _, hF, hb⟩; replace HL := am (HL.out.step hb); have HF1 := am hF; clear hF hb)
    | ((with_reducible refine zg 40 rfl ?_); refine zl 0 35 (.tmp 12) HL hu35 ?_)
    | (go_at_call 13; (with_reducible refine (KN.out _ mm true (k35.K_below HL.out.below HK.out)).mono ?_); rintro e wz ⟨g9, rfl, _, hF, hb⟩; replace HL := am (HL.out.step hb); replace HF1 := am (HF1.out.below hb); have HF2 := am hF; clear hF hb)
    | ((with_reducible refine zg 44 rfl ?_); refine zl 0 35 (.tmp 12) HL hu35 ?_)
    | (go_at_call 13; (with_reducible refine (KN.out _ k false (k35.K_below HL.out.below HK.out)).mono ?_); rintro e wz ⟨g10, rfl, _, hF, hb⟩; replace HL := am (HL.out.step hb); replace HF1 := am (HF1.out.below hb); replace HF2 := am (HF2.out.below hb); have HF3 := am hF; clear hF hb)
    | (go_at_call 17; (with_reducible refine (K17.out _ _ _ _ HF1.out (by omega)).mono ?_); rintro e w1_ ⟨v, rfl, hr, _, hb⟩; obtain ⟨la, hla⟩ : ∃ z, framesC c true k = z := ⟨_, rfl⟩; rw [hla] at hr; obtain ⟨BA, nA, rfl⟩ := Kd.R_slice hr; replace HL := am (HL.out.step hb); replace HF1 := am (HF1.out.below hb); replace HF2 := am (HF2.out.below hb); replace HF3 := am (HF3.out.below hb); have HA := am hr; have HEA := am hla; have hmA : la.length ≤ 100000000 := (by rw [← hla]; exact framesC_small HOK.out _ (by omega)); clear hla hr hb)
    | (go_at_call 17; (with_reducible refine (K17.out _ _ _ _ HF2.out (by omega)).mono ?_); rintro e w1_ ⟨v, rfl, hr, _, hb⟩; obtain ⟨lb, hla⟩ : ∃ z, framesC c true mm = z := ⟨_, rfl⟩; rw [hla] at hr; obtain ⟨BB, nB, rfl⟩ := Kd.R_slice hr; replace HL := am (HL.out.step hb); replace HF1 := am (HF1.out.below hb); replace HF2 := am (HF2.out.below hb); replace HF3 := am (HF3.out.below hb); replace HA := am (Kd.R_below HA.out hb); have HB := am hr; have HEB := am hla; have hmB : lb.length ≤ 100000000 := (by rw [← hla]; exact framesC_small HOK.out _ (by omega)); clear hla hr hb)
    | (go_at_call 17; (with_reducible refine (K17.out _ _ _ _ HF3.out (by omega)).mono ?_); rintro e w1_ ⟨v, rfl, hr, _, hb⟩; obtain ⟨lc, hla⟩ : ∃ z, framesC c false k = z := ⟨_, rfl⟩; rw [hla] at hr; obtain ⟨BC, nC, rfl⟩ := Kd.R_slice hr; replace HL := am (HL.out.step hb); replace HF1 := am (HF1.out.below hb); replace HF2 := am (HF2.out.below hb); replace HF3 := am (HF3.out.below hb); replace HA := am (Kd.R_below HA.out hb); replace HB := am (Kd.R_below HB.out hb); have HC := am hr; have HEC := am hla; have hmC : lc.length ≤ 100000000 := (by rw [← hla]; exact framesC_small HOK.out _ (by omega)); have HDF : Aside0 ((la.length : Int) - (lc.length : Int) = (c.f2.length : Int)) := ⟨by have h1 := frames_first c k; rw [if_neg (by omega)] at h1; rw [HEA.out, hla] at h1; omega⟩; have HTK : Aside0 (lb.length ≤ la.length ∧ la.take lb.length = lb) := ⟨(by obtain ⟨r, h1⟩ := frames_take c true (show mm ≤ k by omega); rw [HEA.out, HEB.out] at h1; rw [h1]; exact ⟨by rw [List.length_append]; omega, List.take_left⟩)⟩; have hle : lb.length ≤ la.length := HTK.out.1; have hcap : la.length ≤ nA := (Kd.R_reads' HA.out).2.1; clear hla hr hb)
    | (go_at_call 16; have hA : kR.C _ BA lb.length lb := (by have := Kd.C_take (rowC HA.out) HTK.out.1; rw [HTK.out.2] at this; exact this); have hB := rowC HB.out; (with_reducible refine (same_any lb _ _ _ _ _ hB hA).mono ?_); rintro e w1_ ⟨r, rfl, rfl, hb⟩; replace HL := am (HL.out.step hb); replace HF1 := am (HF1.out.below hb); replace HF2 := am (HF2.out.below hb); clear hb hA hB; have hc3 : w1_.cell? ⟨g6, 3, none⟩ = some (.slice B3 c.f2.length d3) := blk_cell (HL.out.get 0 rfl) 3)
    | ((with_reducible refine zg 92 rfl ?_); refine zval 92 (.int .i64 ((c.f2.length : Int))) ?_ (hrun := by go_simp; first | exact HDF.out | (rw [HDF.out, i64_w]; exact wrap_small (by omega) (by omega)))))
  · have HBW : Aside0 (Below w.heap.size w _) := ⟨below_step HB0.out HL.out.below⟩
    have KA21 : Aside0 (∀ (W : World) (g q : Nat) (a i : Int), Fr W g c q true → q ≤ 4 → Calls Try.prog 21 #[.pointer (some ⟨g, 0, none⟩), .int .i64 a, .int .i64 i] W (RetV (.int .i64 (atL q (sizeOf c) (c.f2.map (fun x => 2 * x.f0)) a i)) W)) := ⟨fun W g q a i hF hq => latch_any c g q true a i W hF (by omega) hz0 (by omega) (fun x hx => (HOK.out.lat x hx).1)⟩
    have KA23 : Aside0 (∀ (W : World) (g q : Nat) (a i : Int), Fr W g c q true → q ≤ 4 → Calls Try.prog 23 #[.pointer (some ⟨g, 0, none⟩), .int .i64 a, .int .i64 i] W (RetV (.int .i64 (atL q (sizeOf c) (c.f1.map (fun x => 2 * x.f0)) a i)) W)) := ⟨fun W g q a i hF hq => in__any c g q true a i W hF (by omega) hz0 (by omega) HOK.out.ins_⟩
    have KA25 : Aside0 (∀ (W : World) (g q : Nat) (a i : Int), Fr W g c q true → q ≤ 4 → Calls Try.prog 25 #[.pointer (some ⟨g, 0, none⟩), .int .i64 a, .int .i64 i] W (RetV (.int .i64 (atL q (sizeOf c) (c.f3.map (fun x => x.f1)) a i)) W)) := ⟨fun W g q a i hF hq => out_any c g q true a i W hF (by omega) hz0 (by omega) HOK.out.outs_⟩
    clear hc3 HL HA HB HB0 HK KN K17 HTK HDF HEA HEB HEC hmA hmB hmC hle hcap KG KC KM hz0 hz1 hl3
    go_loopw [22] (fun v22 wr => ∃ (a : Nat), v22 = .int .i64 (a : Int) ∧ a ≤ mm ∧ Aside0 (Below w.heap.size w wr) ∧ Aside0 (Fr wr g8 c k true) ∧ Aside0 (Fr wr g9 c mm true)) (fun v _ => mm - (intOf v).toNat)
    case atStart => exact ⟨0, rfl, Nat.zero_le _, HBW, HF1, HF2⟩
    case round =>
      clear HBW HF1 HF2
      obtain ⟨a, rfl, ha, HBW, HF1, HF2⟩ := hrel
      by_cases hlt : a < mm
      · have qa : (a : Int) < (mm : Int) := by omega
        obtain ⟨z21, hz21⟩ : ∃ z, atL mm (sizeOf c) (c.f2.map (fun x => 2 * x.f0)) (a : Int) x = z := ⟨_, rfl⟩
        have KX21 : Aside0 (∀ W, Fr W g8 c k true → Calls Try.prog 21 #[.pointer (some ⟨g8, 0, none⟩), .int .i64 (a : Int), .int .i64 x] W (RetV (.int .i64 z21) W)) := ⟨fun W hF => by have := KA21.out W g8 k a x hF (by omega); rw [atL_less qa hmk, hz21] at this; exact this⟩
        have KY21 : Aside0 (∀ W, Fr W g9 c mm true → Calls Try.prog 21 #[.pointer (some ⟨g9, 0, none⟩), .int .i64 (a : Int), .int .i64 x] W (RetV (.int .i64 z21) W)) := ⟨fun W hF => by have := KA21.out W g9 mm a x hF (by omega); rw [hz21] at this; exact this⟩
        clear hz21
        obtain ⟨z23, hz23⟩ : ∃ z, atL mm (sizeOf c) (c.f1.map (fun x => 2 * x.f0)) (a : Int) x = z := ⟨_, rfl⟩
        have KX23 : Aside0 (∀ W, Fr W g8 c k true → Calls Try.prog 23 #[.pointer (some ⟨g8, 0, none⟩), .int .i64 (a : Int), .int .i64 x] W (RetV (.int .i64 z23) W)) := ⟨fun W hF => by have := KA23.out W g8 k a x hF (by omega); rw [atL_less qa hmk, hz23] at this; exact this⟩
        have KY23 : Aside0 (∀ W, Fr W g9 c mm true → Calls Try.prog 23 #[.pointer (some ⟨g9, 0, none⟩), .int .i64 (a : Int), .int .i64 x] W (RetV (.int .i64 z23) W)) := ⟨fun W hF => by have := KA23.out W g9 mm a x hF (by omega); rw [hz23] at this; exact this⟩
        clear hz23
        obtain ⟨z25, hz25⟩ : ∃ z, atL mm (sizeOf c) (c.f3.map (fun x => x.f1)) (a : Int) x = z := ⟨_, rfl⟩
        have KX25 : Aside0 (∀ W, Fr W g8 c k true → Calls Try.prog 25 #[.pointer (some ⟨g8, 0, none⟩), .int .i64 (a : Int), .int .i64 x] W (RetV (.int .i64 z25) W)) := ⟨fun W hF => by have := KA25.out W g8 k a x hF (by omega); rw [atL_less qa hmk, hz25] at this; exact this⟩
        have KY25 : Aside0 (∀ W, Fr W g9 c mm true → Calls Try.prog 25 #[.pointer (some ⟨g9, 0, none⟩), .int .i64 (a : Int), .int .i64 x] W (RetV (.int .i64 z25) W)) := ⟨fun W hF => by have := KA25.out W g9 mm a x hF (by omega); rw [hz25] at this; exact this⟩
        clear hz25
        go_wp2_with (first
          | (go_at_call 21; (with_reducible refine (KX21.out _ HF1.out).mono ?_); rintro e w3_ ⟨rfl, hb⟩; replace HF1 := am (HF1.out.below hb); replace HF2 := am (HF2.out.below hb); replace HBW := am (below_step HBW.out hb); clear hb)
          | (go_at_call 21; (with_reducible refine (KY21.out _ HF2.out).mono ?_); rintro e w3_ ⟨rfl, hb⟩; replace HF1 := am (HF1.out.below hb); replace HF2 := am (HF2.out.below hb); replace HBW := am (below_step HBW.out hb); clear hb)
          | (go_at_call 23; (with_reducible refine (KX23.out _ HF1.out).mono ?_); rintro e w3_ ⟨rfl, hb⟩; replace HF1 := am (HF1.out.below hb); replace HF2 := am (HF2.out.below hb); replace HBW := am (below_step HBW.out hb); clear hb)
          | (go_at_call 23; (with_reducible refine (KY23.out _ HF2.out).mono ?_); rintro e w3_ ⟨rfl, hb⟩; replace HF1 := am (HF1.out.below hb); replace HF2 := am (HF2.out.below hb); replace HBW := am (below_step HBW.out hb); clear hb)
          | (go_at_call 25; (with_reducible refine (KX25.out _ HF1.out).mono ?_); rintro e w3_ ⟨rfl, hb⟩; replace HF1 := am (HF1.out.below hb); replace HF2 := am (HF2.out.below hb); replace HBW := am (below_step HBW.out hb); clear hb)
          | (go_at_call 25; (with_reducible refine (KY25.out _ HF2.out).mono ?_); rintro e w3_ ⟨rfl, hb⟩; replace HF1 := am (HF1.out.below hb); replace HF2 := am (HF2.out.below hb); replace HBW := am (below_step HBW.out hb); clear hb))
        go_roundw
        case rel => exact ⟨a + 1, by go_num, by omega, HBW, HF1, HF2⟩
        case measure => simp [intOf]; omega
      · obtain rfl : a = mm := by omega
        by_cases hq : a = k
        · have e152 : ((a : Int) == (k : Int)) = true := by rw [beq_iff_eq]; omega
          clear hq
          go_wp2
          go_ret
          exact ⟨_, rfl, rfl, HBW.out⟩
        · have e152 : ((a : Int) == (k : Int)) = false := by rw [beq_eq_false_iff_ne]; omega
          have e152b : (a == k) = false := by rw [beq_eq_false_iff_ne]; exact hq
          have KZ21 : Aside0 (∀ W, Fr W g9 c a true → Calls Try.prog 21 #[.pointer (some ⟨g9, 0, none⟩), .int .i64 (a : Int), .int .i64 0] W (RetV (.int .i64 0) W)) := ⟨fun W hF => by have := KA21.out W g9 a a 0 hF (by omega); rw [← atL_no (by omega)] at this; exact this⟩
          have KZ23 : Aside0 (∀ W, Fr W g9 c a true → Calls Try.prog 23 #[.pointer (some ⟨g9, 0, none⟩), .int .i64 (a : Int), .int .i64 0] W (RetV (.int .i64 0) W)) := ⟨fun W hF => by have := KA23.out W g9 a a 0 hF (by omega); rw [← atL_no (by omega)] at this; exact this⟩
          have KZ25 : Aside0 (∀ W, Fr W g9 c a true → Calls Try.prog 25 #[.pointer (some ⟨g9, 0, none⟩), .int .i64 (a : Int), .int .i64 0] W (RetV (.int .i64 0) W)) := ⟨fun W hF => by have := KA25.out W g9 a a 0 hF (by omega); rw [← atL_no (by omega)] at this; exact this⟩
          go_wp2_with (first
            | (go_at_call 21; (with_reducible refine (KZ21.out _ HF2.out).mono ?_); rintro e w3_ ⟨rfl, hb⟩; replace HF1 := am (HF1.out.below hb); replace HF2 := am (HF2.out.below hb); replace HBW := am (below_step HBW.out hb); clear hb)
            | (go_at_call 23; (with_reducible refine (KZ23.out _ HF2.out).mono ?_); rintro e w3_ ⟨rfl, hb⟩; replace HF1 := am (HF1.out.below hb); replace HF2 := am (HF2.out.below hb); replace HBW := am (below_step HBW.out hb); clear hb)
            | (go_at_call 25; (with_reducible refine (KZ25.out _ HF2.out).mono ?_); rintro e w3_ ⟨rfl, hb⟩; replace HF1 := am (HF1.out.below hb); replace HF2 := am (HF2.out.below hb); replace HBW := am (below_step HBW.out hb); clear hb))
          go_ret
          exact ⟨_, rfl, rfl, HBW.out⟩
  · go_ret
    exact ⟨_, rfl, rfl, HL.out.below⟩
set_option maxHeartbeats 64000000 in
set_option maxRecDepth 100000 in
theorem fewer_true_z (n : S27) (cs : List Value) (m ls x : Int) (k : Nat) (w : World) (h : k27.K w n cs) (h0 : 0 ≤ m) (h1 : m ≤ 255) (h2 : 0 ≤ ls) (h3 : ls ≤ 255) (h4 : 0 ≤ x) (h5 : x ≤ 255) (hk : m % 5 = (k : Int)) (hk0 : k = 0) :
    Calls Try.prog 4 #[.agg cs.toArray, .int .u8 m, .bool true, .int .u8 ls, .int .u8 x] w (RetB (fun b => b = true) w) := by
  have KG := am (fun W (hb : Below w.heap.size w W) => great_any n cs W (k27.K_below hb h))
  have KC := am (fun W (hb : Below w.heap.size w W) (ok : NetOk n) => compile_any n cs W (k27.K_below hb h) ok)
  have hk4 : k ≤ 4 := by omega
  have KM : Aside0 (∀ W, Calls Try.prog 14 #[.int .u8 m] W (fun e w' => e = .returned (.int .i64 (k : Int)) ∧ w' = W)) := ⟨fun W => by have := some_any m W h0 h1; rw [hk] at this; exact this⟩
  obtain ⟨A0, c0, A1, c1, A2, c2, A3, c3, A4, c4, rfl, _⟩ := k27_open h
  have HL : Aside0 (Led [] w w) := ⟨Led.nil w⟩
  have hu27 := Try.underlying27
  have hu35 := Try.underlying35
  obtain ⟨mm, hmm⟩ : ∃ mm : Nat, ls % ((k : Int) + 1) = (mm : Int) := ⟨(ls % ((k : Int) + 1)).toNat, by have := Int.emod_nonneg ls (show (k : Int) + 1 ≠ 0 by omega); omega⟩
  have hmk : mm ≤ k := by have := Int.emod_lt_of_pos ls (show (0 : Int) < (k : Int) + 1 by omega); omega
  have HMM : Aside0 (ls.tmod ((k : Int) + 1) = (mm : Int)) := ⟨by rw [Int.tmod_eq_emod_of_nonneg h2]; exact hmm⟩
  have HM2 := am hmm
  have e82 : ((k : Int) == 0) = true := by first | (rw [beq_iff_eq]; omega) | (rw [beq_eq_false_iff_ne]; omega)
  have e98 : decide ((0 : Int) < (k : Int)) = false := by first | exact decide_eq_true (by omega) | exact decide_eq_false (by omega)
  have e98b : decide (0 < k) = false := by first | exact decide_eq_true (by omega) | exact decide_eq_false (by omega)
  clear h hk hmm
  have HK0 := am hk0
  clear hk0
  go_enter Try.func4, Try.ntmps4
  go_wp2_with (first
    | ((with_reducible refine zg 5 rfl ?_); refine zx 5 [.slice A0 n.f0.length c0, .slice A1 n.f1.length c1, .slice A2 n.f2.length c2, .slice A3 n.f3.length c3, .slice A4 n.f4.length c4] 27 HL ?_; clear HL; intro g2 w1_ HL hb; clear hb)
    | (go_at_call 9; refine (head_any _).mono ?_; rintro e w1_ ⟨r, rfl, rfl, hb⟩; replace HL := am (HL.out.step hb); clear hb)
    | ((with_reducible refine zg 24 rfl ?_); refine zl 0 27 (.tmp 5) HL hu27 ?_)
    | (go_at_call 10; refine (KG.out _ HL.out.below).mono ?_; rintro e w1_ ⟨r, rfl, hr, hb⟩; have HR1 := am hr; replace HL := am (HL.out.step hb); clear hr hb; cases r)
    | ((with_reducible refine zg 27 rfl ?_); refine zl 0 27 (.tmp 5) HL hu27 ?_)
    | (go_at_call 11; refine (KC.out _ HL.out.below (HR1.out (by first | rfl | trivial))).mono ?_; rintro e wc ⟨c, cs2, rfl, hk, hok, hb⟩; obtain ⟨B1, d1, B2, d2, B3, d3, B4, d4, rfl, _⟩ := k35_open hk; have HK := am hk; have HOK := am hok; have HB0 := am (HL.out.step hb).below; clear HL; have HL : Aside0 (Led [] wc wc) := ⟨Led.nil wc⟩; obtain ⟨hz0, hz1, hl1, hl2⟩ := hok.fit; have hi0 := hok.i0; have hi1 := hok.i1; have hl0 := hok.len; have hl3 := hok.lout; have KN : Aside0 (∀ (W : World) (k : Nat) (fs : Bool), k35.K W c _ → Calls Try.prog 13 #[.agg #[.int .i64 c.f0.f0, .slice B1 c.f0.f1.length d1, .slice B2 c.f1.length d2, .slice B3 c.f2.length d3, .slice B4 c.f3.length d4], .int .i64 (k : Int), .bool fs] W (RetFr c k fs W)) := ⟨fun W k fs h => new_any c _ k fs W h hi0 (by omega) (by omega)⟩; have K17 : Aside0 (∀ (W : World) (g k : Nat) (fs : Bool), Fr W g c k fs → k ≤ 4 → Calls Try.prog 17 #[.pointer (some ⟨g, 0, none⟩)] W (RetLs (framesC c fs k) W)) := ⟨fun W g k fs hF hk => frames_any c g k fs W hF hok.ok hi0 hi1 hl0 hok.lat (by omega) (by omega)⟩; clear hk hok hb HR1)
    | ((with_reducible refine zg 12 rfl ?_); refine zx 12 [.int .i64 0, .slice none 0 0, .slice none 0 0, .slice none 0 0, .slice none 0 0] 35 HL ?_; clear HL; intro g6 w1_ HL hb; clear hb)
    | ((with_reducible refine zst 35 (.tmp 12) (.tmp 28) rfl ?_); refine zs 0 0 35 (.tmp 12) (.tmp 28) [.int .i64 c.f0.f0, .slice B1 c.f0.f1.length d1, .slice B2 c.f1.length d2, .slice B3 c.f2.length d3, .slice B4 c.f3.length d4] HL ?_; intro w1_ HLn hfar; replace HL := HLn; clear HLn hfar)
    | (go_at_call 14; refine (KM.out _).mono ?_; rintro e w1_ ⟨rfl, rfl⟩)
    | ((with_reducible refine zg 35 rfl ?_); refine zval 35 (.int .i64 (mm : Int)) ?_ (hrun := by go_simp; rw [if_neg (by omega), HMM.out]))
    | ((with_reducible refine zg 36 rfl ?_); refine zl 0 35 (.tmp 12) HL hu35 ?_)
    | (go_at_call 13; (with_reducible refine (KN.out _ k true (k35.K_below HL.out.below HK.out)).mono ?_); rintro e wz ⟨g8, rfl, _, hF, hb⟩; replace HL := am (HL.out.step hb); have HF1 := am hF; clear hF hb)
    | ((with_reducible refine zg 40 rfl ?_); refine zl 0 35 (.tmp 12) HL hu35 ?_)
    | (go_at_call 13; (with_reducible refine (KN.out _ mm true (k35.K_below HL.out.below HK.out)).mono ?_); rintro e wz ⟨g9, rfl, _, hF, hb⟩; replace HL := am (HL.out.step hb); replace HF1 := am (HF1.out.below hb); have HF2 := am hF; clear hF hb)
    | ((with_reducible refine zg 44 rfl ?_); refine zl 0 35 (.tmp 12) HL hu35 ?_)
    | (go_at_call 13; (with_reducible refine (KN.out _ k false (k35.K_below HL.out.below HK.out)).mono ?_); rintro e wz ⟨g10, rfl, _, hF, hb⟩; replace HL := am (HL.out.step hb); replace HF1 := am (HF1.out.below hb); replace HF2 := am (HF2.out.below hb); have HF3 := am hF; clear hF hb)
    | (go_at_call 17; (with_reducible refine (K17.out _ _ _ _ HF1.out (by omega)).mono ?_); rintro e w1_ ⟨v, rfl, hr, _, hb⟩; obtain ⟨la, hla⟩ : ∃ z, framesC c true k = z := ⟨_, rfl⟩; rw [hla] at hr; obtain ⟨BA, nA, rfl⟩ := Kd.R_slice hr; replace HL := am (HL.out.step hb); replace HF1 := am (HF1.out.below hb); replace HF2 := am (HF2.out.below hb); replace HF3 := am (HF3.out.below hb); have HA := am hr; have HEA := am hla; have hmA : la.length ≤ 100000000 := (by rw [← hla]; exact framesC_small HOK.out _ (by omega)); clear hla hr hb)
    | (go_at_call 17; (with_reducible refine (K17.out _ _ _ _ HF2.out (by omega)).mono ?_); rintro e w1_ ⟨v, rfl, hr, _, hb⟩; obtain ⟨lb, hla⟩ : ∃ z, framesC c true mm = z := ⟨_, rfl⟩; rw [hla] at hr; obtain ⟨BB, nB, rfl⟩ := Kd.R_slice hr; replace HL := am (HL.out.step hb); replace HF1 := am (HF1.out.below hb); replace HF2 := am (HF2.out.below hb); replace HF3 := am (HF3.out.below hb); replace HA := am (Kd.R_below HA.out hb); have HB := am hr; have HEB := am hla; have hmB : lb.length ≤ 100000000 := (by rw [← hla]; exact framesC_small HOK.out _ (by omega)); clear hla hr hb)
    | (go_at_call 17; (with_reducible refine (K17.out _ _ _ _ HF3.out (by omega)).mono ?_); rintro e w1_ ⟨v, rfl, hr, _, hb⟩; obtain ⟨lc, hla⟩ : ∃ z, framesC c false k = z := ⟨_, rfl⟩; rw [hla] at hr; obtain ⟨BC, nC, rfl⟩ := Kd.R_slice hr; replace HL := am (HL.out.step hb); replace HF1 := am (HF1.out.below hb); replace HF2 := am (HF2.out.below hb); replace HF3 := am (HF3.out.below hb); replace HA := am (Kd.R_below HA.out hb); replace HB := am (Kd.R_below HB.out hb); have HC := am hr; have HEC := am hla; have hmC : lc.length ≤ 100000000 := (by rw [← hla]; exact framesC_small HOK.out _ (by omega)); have HDF : Aside0 ((la.length : Int) - (lc.length : Int) = 0) := ⟨by have h1 : framesC c true k = [] := (by rw [HK0.out]; rfl); have h2 : framesC c false k = [] := (by rw [HK0.out]; rfl); rw [HEA.out] at h1; rw [hla] at h2; rw [h1, h2]; rfl⟩; have HTK : Aside0 (lb.length ≤ la.length ∧ la.take lb.length = lb) := ⟨(by obtain ⟨r, h1⟩ := frames_take c true (show mm ≤ k by omega); rw [HEA.out, HEB.out] at h1; rw [h1]; exact ⟨by rw [List.length_append]; omega, List.take_left⟩)⟩; have hle : lb.length ≤ la.length := HTK.out.1; have hcap : la.length ≤ nA := (Kd.R_reads' HA.out).2.1; have hla0 : la.length ≤ 0 := (by have h1 : framesC c true k = [] := (by rw [HK0.out]; rfl); rw [HEA.out] at h1; rw [h1]; exact Nat.le_refl _); clear hla hr hb)
    | (go_at_call 16; have hA : kR.C _ BA lb.length lb := (by have := Kd.C_take (rowC HA.out) HTK.out.1; rw [HTK.out.2] at this; exact this); have hB := rowC HB.out; (with_reducible refine (same_any lb _ _ _ _ _ hB hA).mono ?_); rintro e w1_ ⟨r, rfl, rfl, hb⟩; replace HL := am (HL.out.step hb); replace HF1 := am (HF1.out.below hb); replace HF2 := am (HF2.out.below hb); clear hb hA hB; have hc3 : w1_.cell? ⟨g6, 3, none⟩ = some (.slice B3 c.f2.length d3) := blk_cell (HL.out.get 0 rfl) 3)
    | ((with_reducible refine zg 92 rfl ?_); refine zval 92 (.int .i64 (0)) ?_ (hrun := by go_simp; first | exact HDF.out | (rw [HDF.out, i64_w]; exact wrap_small (by omega) (by omega)))))
  · have HBW : Aside0 (Below w.heap.size w _) := ⟨below_step HB0.out HL.out.below⟩
    have KA21 : Aside0 (∀ (W : World) (g q : Nat) (a i : Int), Fr W g c q true → q ≤ 4 → Calls Try.prog 21 #[.pointer (some ⟨g, 0, none⟩), .int .i64 a, .int .i64 i] W (RetV (.int .i64 (atL q (sizeOf c) (c.f2.map (fun x => 2 * x.f0)) a i)) W)) := ⟨fun W g q a i hF hq => latch_any c g q true a i W hF (by omega) hz0 (by omega) (fun x hx => (HOK.out.lat x hx).1)⟩
    have KA23 : Aside0 (∀ (W : World) (g q : Nat) (a i : Int), Fr W g c q true → q ≤ 4 → Calls Try.prog 23 #[.pointer (some ⟨g, 0, none⟩), .int .i64 a, .int .i64 i] W (RetV (.int .i64 (atL q (sizeOf c) (c.f1.map (fun x => 2 * x.f0)) a i)) W)) := ⟨fun W g q a i hF hq => in__any c g q true a i W hF (by omega) hz0 (by omega) HOK.out.ins_⟩
    have KA25 : Aside0 (∀ (W : World) (g q : Nat) (a i : Int), Fr W g c q true → q ≤ 4 → Calls Try.prog 25 #[.pointer (some ⟨g, 0, none⟩), .int .i64 a, .int .i64 i] W (RetV (.int .i64 (atL q (sizeOf c) (c.f3.map (fun x => x.f1)) a i)) W)) := ⟨fun W g q a i hF hq => out_any c g q true a i W hF (by omega) hz0 (by omega) HOK.out.outs_⟩
    clear hc3 HL HA HB HB0 HK KN K17 HTK HDF HEA HEB HEC hmA hmB hmC hle hcap KG KC KM hz0 hz1 hl3 hla0 HK0
    go_loopw [22] (fun v22 wr => ∃ (a : Nat), v22 = .int .i64 (a : Int) ∧ a ≤ mm ∧ Aside0 (Below w.heap.size w wr) ∧ Aside0 (Fr wr g8 c k true) ∧ Aside0 (Fr wr g9 c mm true)) (fun v _ => mm - (intOf v).toNat)
    case atStart => exact ⟨0, rfl, Nat.zero_le _, HBW, HF1, HF2⟩
    case round =>
      clear HBW HF1 HF2
      obtain ⟨a, rfl, ha, HBW, HF1, HF2⟩ := hrel
      by_cases hlt : a < mm
      · have qa : (a : Int) < (mm : Int) := by omega
        obtain ⟨z21, hz21⟩ : ∃ z, atL mm (sizeOf c) (c.f2.map (fun x => 2 * x.f0)) (a : Int) x = z := ⟨_, rfl⟩
        have KX21 : Aside0 (∀ W, Fr W g8 c k true → Calls Try.prog 21 #[.pointer (some ⟨g8, 0, none⟩), .int .i64 (a : Int), .int .i64 x] W (RetV (.int .i64 z21) W)) := ⟨fun W hF => by have := KA21.out W g8 k a x hF (by omega); rw [atL_less qa hmk, hz21] at this; exact this⟩
        have KY21 : Aside0 (∀ W, Fr W g9 c mm true → Calls Try.prog 21 #[.pointer (some ⟨g9, 0, none⟩), .int .i64 (a : Int), .int .i64 x] W (RetV (.int .i64 z21) W)) := ⟨fun W hF => by have := KA21.out W g9 mm a x hF (by omega); rw [hz21] at this; exact this⟩
        clear hz21
        obtain ⟨z23, hz23⟩ : ∃ z, atL mm (sizeOf c) (c.f1.map (fun x => 2 * x.f0)) (a : Int) x = z := ⟨_, rfl⟩
        have KX23 : Aside0 (∀ W, Fr W g8 c k true → Calls Try.prog 23 #[.pointer (some ⟨g8, 0, none⟩), .int .i64 (a : Int), .int .i64 x] W (RetV (.int .i64 z23) W)) := ⟨fun W hF => by have := KA23.out W g8 k a x hF (by omega); rw [atL_less qa hmk, hz23] at this; exact this⟩
        have KY23 : Aside0 (∀ W, Fr W g9 c mm true → Calls Try.prog 23 #[.pointer (some ⟨g9, 0, none⟩), .int .i64 (a : Int), .int .i64 x] W (RetV (.int .i64 z23) W)) := ⟨fun W hF => by have := KA23.out W g9 mm a x hF (by omega); rw [hz23] at this; exact this⟩
        clear hz23
        obtain ⟨z25, hz25⟩ : ∃ z, atL mm (sizeOf c) (c.f3.map (fun x => x.f1)) (a : Int) x = z := ⟨_, rfl⟩
        have KX25 : Aside0 (∀ W, Fr W g8 c k true → Calls Try.prog 25 #[.pointer (some ⟨g8, 0, none⟩), .int .i64 (a : Int), .int .i64 x] W (RetV (.int .i64 z25) W)) := ⟨fun W hF => by have := KA25.out W g8 k a x hF (by omega); rw [atL_less qa hmk, hz25] at this; exact this⟩
        have KY25 : Aside0 (∀ W, Fr W g9 c mm true → Calls Try.prog 25 #[.pointer (some ⟨g9, 0, none⟩), .int .i64 (a : Int), .int .i64 x] W (RetV (.int .i64 z25) W)) := ⟨fun W hF => by have := KA25.out W g9 mm a x hF (by omega); rw [hz25] at this; exact this⟩
        clear hz25
        go_wp2_with (first
          | (go_at_call 21; (with_reducible refine (KX21.out _ HF1.out).mono ?_); rintro e w3_ ⟨rfl, hb⟩; replace HF1 := am (HF1.out.below hb); replace HF2 := am (HF2.out.below hb); replace HBW := am (below_step HBW.out hb); clear hb)
          | (go_at_call 21; (with_reducible refine (KY21.out _ HF2.out).mono ?_); rintro e w3_ ⟨rfl, hb⟩; replace HF1 := am (HF1.out.below hb); replace HF2 := am (HF2.out.below hb); replace HBW := am (below_step HBW.out hb); clear hb)
          | (go_at_call 23; (with_reducible refine (KX23.out _ HF1.out).mono ?_); rintro e w3_ ⟨rfl, hb⟩; replace HF1 := am (HF1.out.below hb); replace HF2 := am (HF2.out.below hb); replace HBW := am (below_step HBW.out hb); clear hb)
          | (go_at_call 23; (with_reducible refine (KY23.out _ HF2.out).mono ?_); rintro e w3_ ⟨rfl, hb⟩; replace HF1 := am (HF1.out.below hb); replace HF2 := am (HF2.out.below hb); replace HBW := am (below_step HBW.out hb); clear hb)
          | (go_at_call 25; (with_reducible refine (KX25.out _ HF1.out).mono ?_); rintro e w3_ ⟨rfl, hb⟩; replace HF1 := am (HF1.out.below hb); replace HF2 := am (HF2.out.below hb); replace HBW := am (below_step HBW.out hb); clear hb)
          | (go_at_call 25; (with_reducible refine (KY25.out _ HF2.out).mono ?_); rintro e w3_ ⟨rfl, hb⟩; replace HF1 := am (HF1.out.below hb); replace HF2 := am (HF2.out.below hb); replace HBW := am (below_step HBW.out hb); clear hb))
        go_roundw
        case rel => exact ⟨a + 1, by go_num, by omega, HBW, HF1, HF2⟩
        case measure => simp [intOf]; omega
      · obtain rfl : a = mm := by omega
        by_cases hq : a = k
        · have e152 : ((a : Int) == (k : Int)) = true := by rw [beq_iff_eq]; omega
          clear hq
          go_wp2
          go_ret
          exact ⟨_, rfl, rfl, HBW.out⟩
        · have e152 : ((a : Int) == (k : Int)) = false := by rw [beq_eq_false_iff_ne]; omega
          have e152b : (a == k) = false := by rw [beq_eq_false_iff_ne]; exact hq
          have KZ21 : Aside0 (∀ W, Fr W g9 c a true → Calls Try.prog 21 #[.pointer (some ⟨g9, 0, none⟩), .int .i64 (a : Int), .int .i64 0] W (RetV (.int .i64 0) W)) := ⟨fun W hF => by have := KA21.out W g9 a a 0 hF (by omega); rw [← atL_no (by omega)] at this; exact this⟩
          have KZ23 : Aside0 (∀ W, Fr W g9 c a true → Calls Try.prog 23 #[.pointer (some ⟨g9, 0, none⟩), .int .i64 (a : Int), .int .i64 0] W (RetV (.int .i64 0) W)) := ⟨fun W hF => by have := KA23.out W g9 a a 0 hF (by omega); rw [← atL_no (by omega)] at this; exact this⟩
          have KZ25 : Aside0 (∀ W, Fr W g9 c a true → Calls Try.prog 25 #[.pointer (some ⟨g9, 0, none⟩), .int .i64 (a : Int), .int .i64 0] W (RetV (.int .i64 0) W)) := ⟨fun W hF => by have := KA25.out W g9 a a 0 hF (by omega); rw [← atL_no (by omega)] at this; exact this⟩
          go_wp2_with (first
            | (go_at_call 21; (with_reducible refine (KZ21.out _ HF2.out).mono ?_); rintro e w3_ ⟨rfl, hb⟩; replace HF1 := am (HF1.out.below hb); replace HF2 := am (HF2.out.below hb); replace HBW := am (below_step HBW.out hb); clear hb)
            | (go_at_call 23; (with_reducible refine (KZ23.out _ HF2.out).mono ?_); rintro e w3_ ⟨rfl, hb⟩; replace HF1 := am (HF1.out.below hb); replace HF2 := am (HF2.out.below hb); replace HBW := am (below_step HBW.out hb); clear hb)
            | (go_at_call 25; (with_reducible refine (KZ25.out _ HF2.out).mono ?_); rintro e w3_ ⟨rfl, hb⟩; replace HF1 := am (HF1.out.below hb); replace HF2 := am (HF2.out.below hb); replace HBW := am (below_step HBW.out hb); clear hb))
          go_ret
          exact ⟨_, rfl, rfl, HBW.out⟩
  · go_ret
    exact ⟨_, rfl, rfl, HL.out.below⟩
set_option maxHeartbeats 64000000 in
set_option maxRecDepth 100000 in
theorem fewer_false_p (n : S27) (cs : List Value) (m ls x : Int) (k : Nat) (w : World) (h : k27.K w n cs) (h0 : 0 ≤ m) (h1 : m ≤ 255) (h2 : 0 ≤ ls) (h3 : ls ≤ 255) (h4 : 0 ≤ x) (h5 : x ≤ 255) (hk : m % 5 = (k : Int)) (hk0 : 1 ≤ k) :
    Calls Try.prog 4 #[.agg cs.toArray, .int .u8 m, .bool false, .int .u8 ls, .int .u8 x] w (RetB (fun b => b = true) w) := by
  have KG := am (fun W (hb : Below w.heap.size w W) => great_any n cs W (k27.K_below hb h))
  have KC := am (fun W (hb : Below w.heap.size w W) (ok : NetOk n) => compile_any n cs W (k27.K_below hb h) ok)
  have hk4 : k ≤ 4 := by omega
  have KM : Aside0 (∀ W, Calls Try.prog 14 #[.int .u8 m] W (fun e w' => e = .returned (.int .i64 (k : Int)) ∧ w' = W)) := ⟨fun W => by have := some_any m W h0 h1; rw [hk] at this; exact this⟩
  obtain ⟨A0, c0, A1, c1, A2, c2, A3, c3, A4, c4, rfl, _⟩ := k27_open h
  have HL : Aside0 (Led [] w w) := ⟨Led.nil w⟩
  have hu27 := Try.underlying27
  have hu35 := Try.underlying35
  obtain ⟨mm, hmm⟩ : ∃ mm : Nat, ls % ((k : Int) + 1) = (mm : Int) := ⟨(ls % ((k : Int) + 1)).toNat, by have := Int.emod_nonneg ls (show (k : Int) + 1 ≠ 0 by omega); omega⟩
  have hmk : mm ≤ k := by have := Int.emod_lt_of_pos ls (show (0 : Int) < (k : Int) + 1 by omega); omega
  have HMM : Aside0 (ls.tmod ((k : Int) + 1) = (mm : Int)) := ⟨by rw [Int.tmod_eq_emod_of_nonneg h2]; exact hmm⟩
  have HM2 := am hmm
  have e82 : ((k : Int) == 0) = false := by first | (rw [beq_iff_eq]; omega) | (rw [beq_eq_false_iff_ne]; omega)
  have e98 : decide ((0 : Int) < (k : Int)) = true := by first | exact decide_eq_true (by omega) | exact decide_eq_false (by omega)
  have e98b : decide (0 < k) = true := by first | exact decide_eq_true (by omega) | exact decide_eq_false (by omega)
  clear h hk hmm
  go_enter Try.func4, Try.ntmps4
  go_wp2_with (first
    | ((with_reducible refine zg 5 rfl ?_); refine zx 5 [.slice A0 n.f0.length c0, .slice A1 n.f1.length c1, .slice A2 n.f2.length c2, .slice A3 n.f3.length c3, .slice A4 n.f4.length c4] 27 HL ?_; clear HL; intro g2 w1_ HL hb; clear hb)
    | (go_at_call 9; refine (head_any _).mono ?_; rintro e w1_ ⟨r, rfl, rfl, hb⟩; replace HL := am (HL.out.step hb); clear hb)
    | ((with_reducible refine zg 24 rfl ?_); refine zl 0 27 (.tmp 5) HL hu27 ?_)
    | (go_at_call 10; refine (KG.out _ HL.out.below).mono ?_; rintro e w1_ ⟨r, rfl, hr, hb⟩; have HR1 := am hr; replace HL := am (HL.out.step hb); clear hr hb; cases r)
    | ((with_reducible refine zg 27 rfl ?_); refine zl 0 27 (.tmp 5) HL hu27 ?_)
    | (go_at_call 11; refine (KC.out _ HL.out.below (HR1.out (by first | rfl | trivial))).mono ?_; rintro e wc ⟨c, cs2, rfl, hk, hok, hb⟩; obtain ⟨B1, d1, B2, d2, B3, d3, B4, d4, rfl, _⟩ := k35_open hk; have HK := am hk; have HOK := am hok; have HB0 := am (HL.out.step hb).below; clear HL; have HL : Aside0 (Led [] wc wc) := ⟨Led.nil wc⟩; obtain ⟨hz0, hz1, hl1, hl2⟩ := hok.fit; have hi0 := hok.i0; have hi1 := hok.i1; have hl0 := hok.len; have hl3 := hok.lout; have KN : Aside0 (∀ (W : World) (k : Nat) (fs : Bool), k35.K W c _ → Calls Try.prog 13 #[.agg #[.int .i64 c.f0.f0, .slice B1 c.f0.f1.length d1, .slice B2 c.f1.length d2, .slice B3 c.f2.length d3, .slice B4 c.f3.length d4], .int .i64 (k : Int), .bool fs] W (RetFr c k fs W)) := ⟨fun W k fs h => new_any c _ k fs W h hi0 (by omega) (by omega)⟩; have K17 : Aside0 (∀ (W : World) (g k : Nat) (fs : Bool), Fr W g c k fs → k ≤ 4 → Calls Try.prog 17 #[.pointer (some ⟨g, 0, none⟩)] W (RetLs (framesC c fs k) W)) := ⟨fun W g k fs hF hk => frames_any c g k fs W hF hok.ok hi0 hi1 hl0 hok.lat (by omega) (by omega)⟩; clear hk hok hb HR1)
    | ((with_reducible refine zg 12 rfl ?_); refine zx 12 [.int .i64 0, .slice none 0 0, .slice none 0 0, .slice none 0 0, .slice none 0 0] 35 HL ?_; clear HL; intro g6 w1_ HL hb; clear hb)
    | ((with_reducible refine zst 35 (.tmp 12) (.tmp 28) rfl ?_); refine zs 0 0 35 (.tmp 12) (.tmp 28) [.int .i64 c.f0.f0, .slice B1 c.f0.f1.length d1, .slice B2 c.f1.length d2, .slice B3 c.f2.length d3, .slice B4 c.f3.length d4] HL ?_; intro w1_ HLn hfar; replace HL := HLn; clear HLn hfar)
    | (go_at_call 14; refine (KM.out _).mono ?_; rintro e w1_ ⟨rfl, rfl⟩)
    | ((with_reducible refine zg 35 rfl ?_); refine zval 35 (.int .i64 (mm : Int)) ?_ (hrun := by go_simp; rw [if_neg (by omega), HMM.out]))
    | ((with_reducible refine zg 36 rfl ?_); refine zl 0 35 (.tmp 12) HL hu35 ?_)
    | (go_at_call 13; (with_reducible refine (KN.out _ k false (k35.K_below HL.out.below HK.out)).mono ?_); rintro e wz ⟨g8, rfl, _, hF, hb⟩; replace HL := am (HL.out.step hb); have HF1 := am hF; clear hF hb)
    | ((with_reducible refine zg 40 rfl ?_); refine zl 0 35 (.tmp 12) HL hu35 ?_)
    | (go_at_call 13; (with_reducible refine (KN.out _ mm false (k35.K_below HL.out.below HK.out)).mono ?_); rintro e wz ⟨g9, rfl, _, hF, hb⟩; replace HL := am (HL.out.step hb); replace HF1 := am (HF1.out.below hb); have HF2 := am hF; clear hF hb)
    | ((with_reducible refine zg 44 rfl ?_); refine zl 0 35 (.tmp 12) HL hu35 ?_)
    | (go_at_call 13; (with_reducible refine (KN.out _ k true (k35.K_below HL.out.below HK.out)).mono ?_); rintro e wz ⟨g10, rfl, _, hF, hb⟩; replace HL := am (HL.out.step hb); replace HF1 := am (HF1.out.below hb); replace HF2 := am (HF2.out.below hb); have HF3 := am hF; clear hF hb)
    | (go_at_call 17; (with_reducible refine (K17.out _ _ _ _ HF1.out (by omega)).mono ?_); rintro e w1_ ⟨v, rfl, hr, _, hb⟩; obtain ⟨la, hla⟩ : ∃ z, framesC c false k = z := ⟨_, rfl⟩; rw [hla] at hr; obtain ⟨BA, nA, rfl⟩ := Kd.R_slice hr; replace HL := am (HL.out.step hb); replace HF1 := am (HF1.out.below hb); replace HF2 := am (HF2.out.below hb); replace HF3 := am (HF3.out.below hb); have HA := am hr; have HEA := am hla; have hmA : la.length ≤ 100000000 := (by rw [← hla]; exact framesC_small HOK.out _ (by omega)); clear hla hr hb)
    | (go_at_call 17; (with_reducible refine (K17.out _ _ _ _ HF2.out (by omega)).mono ?_); rintro e w1_ ⟨v, rfl, hr, _, hb⟩; obtain ⟨lb, hla⟩ : ∃ z, framesC c false mm = z := ⟨_, rfl⟩; rw [hla] at hr; obtain ⟨BB, nB, rfl⟩ := Kd.R_slice hr; replace HL := am (HL.out.step hb); replace HF1 := am (HF1.out.below hb); replace HF2 := am (HF2.out.below hb); replace HF3 := am (HF3.out.below hb); replace HA := am (Kd.R_below HA.out hb); have HB := am hr; have HEB := am hla; have hmB : lb.length ≤ 100000000 := (by rw [← hla]; exact framesC_small HOK.out _ (by omega)); clear hla hr hb)
    | (go_at_call 17; (with_reducible refine (K17.out _ _ _ _ HF3.out (by omega)).mono ?_); rintro e w1_ ⟨v, rfl, hr, _, hb⟩; obtain ⟨lc, hla⟩ : ∃ z, framesC c true k = z := ⟨_, rfl⟩; rw [hla] at hr; obtain ⟨BC, nC, rfl⟩ := Kd.R_slice hr; replace HL := am (HL.out.step hb); replace HF1 := am (HF1.out.below hb); replace HF2 := am (HF2.out.below hb); replace HF3 := am (HF3.out.below hb); replace HA := am (Kd.R_below HA.out hb); replace HB := am (Kd.R_below HB.out hb); have HC := am hr; have HEC := am hla; have hmC : lc.length ≤ 100000000 := (by rw [← hla]; exact framesC_small HOK.out _ (by omega)); have HDF : Aside0 ((la.length : Int) - (lc.length : Int) = -(c.f2.length : Int)) := ⟨by have h1 := frames_first c k; rw [if_neg (by omega)] at h1; rw [hla, HEA.out] at h1; omega⟩; have HTK : Aside0 (lb.length ≤ la.length ∧ la.take lb.length = lb) := ⟨(by obtain ⟨r, h1⟩ := frames_take c false (show mm ≤ k by omega); rw [HEA.out, HEB.out] at h1; rw [h1]; exact ⟨by rw [List.length_append]; omega, List.take_left⟩)⟩; have hle : lb.length ≤ la.length := HTK.out.1; have hcap : la.length ≤ nA := (Kd.R_reads' HA.out).2.1; clear hla hr hb)
    | (go_at_call 16; have hA : kR.C _ BA lb.length lb := (by have := Kd.C_take (rowC HA.out) HTK.out.1; rw [HTK.out.2] at this; exact this); have hB := rowC HB.out; (with_reducible refine (same_any lb _ _ _ _ _ hB hA).mono ?_); rintro e w1_ ⟨r, rfl, rfl, hb⟩; replace HL := am (HL.out.step hb); replace HF1 := am (HF1.out.below hb); replace HF2 := am (HF2.out.below hb); clear hb hA hB; have hc3 : w1_.cell? ⟨g6, 3, none⟩ = some (.slice B3 c.f2.length d3) := blk_cell (HL.out.get 0 rfl) 3)
    | ((with_reducible refine zg 92 rfl ?_); refine zval 92 (.int .i64 (-(c.f2.length : Int))) ?_ (hrun := by go_simp; first | exact HDF.out | (rw [HDF.out, i64_w]; exact wrap_small (by omega) (by omega))))
    | ((with_reducible refine zg 96 rfl ?_); refine zval 96 (.int .i64 (c.f2.length : Int)) ?_ (hrun := by go_simp; try (first | rfl | (rw [i64_w]; exact wrap_small (by omega) (by omega)) | (unfold wrap64; omega)))))
  · have HBW : Aside0 (Below w.heap.size w _) := ⟨below_step HB0.out HL.out.below⟩
    have KA21 : Aside0 (∀ (W : World) (g q : Nat) (a i : Int), Fr W g c q false → q ≤ 4 → Calls Try.prog 21 #[.pointer (some ⟨g, 0, none⟩), .int .i64 a, .int .i64 i] W (RetV (.int .i64 (atL q (sizeOf c) (c.f2.map (fun x => 2 * x.f0)) a i)) W)) := ⟨fun W g q a i hF hq => latch_any c g q false a i W hF (by omega) hz0 (by omega) (fun x hx => (HOK.out.lat x hx).1)⟩
    have KA23 : Aside0 (∀ (W : World) (g q : Nat) (a i : Int), Fr W g c q false → q ≤ 4 → Calls Try.prog 23 #[.pointer (some ⟨g, 0, none⟩), .int .i64 a, .int .i64 i] W (RetV (.int .i64 (atL q (sizeOf c) (c.f1.map (fun x => 2 * x.f0)) a i)) W)) := ⟨fun W g q a i hF hq => in__any c g q false a i W hF (by omega) hz0 (by omega) HOK.out.ins_⟩
    have KA25 : Aside0 (∀ (W : World) (g q : Nat) (a i : Int), Fr W g c q false → q ≤ 4 → Calls Try.prog 25 #[.pointer (some ⟨g, 0, none⟩), .int .i64 a, .int .i64 i] W (RetV (.int .i64 (atL q (sizeOf c) (c.f3.map (fun x => x.f1)) a i)) W)) := ⟨fun W g q a i hF hq => out_any c g q false a i W hF (by omega) hz0 (by omega) HOK.out.outs_⟩
    clear hc3 HL HA HB HB0 HK KN K17 HTK HDF HEA HEB HEC hmA hmB hmC hle hcap KG KC KM hz0 hz1 hl3
    go_loopw [22] (fun v22 wr => ∃ (a : Nat), v22 = .int .i64 (a : Int) ∧ a ≤ mm ∧ Aside0 (Below w.heap.size w wr) ∧ Aside0 (Fr wr g8 c k false) ∧ Aside0 (Fr wr g9 c mm false)) (fun v _ => mm - (intOf v).toNat)
    case atStart => exact ⟨0, rfl, Nat.zero_le _, HBW, HF1, HF2⟩
    case round =>
      clear HBW HF1 HF2
      obtain ⟨a, rfl, ha, HBW, HF1, HF2⟩ := hrel
      by_cases hlt : a < mm
      · have qa : (a : Int) < (mm : Int) := by omega
        obtain ⟨z21, hz21⟩ : ∃ z, atL mm (sizeOf c) (c.f2.map (fun x => 2 * x.f0)) (a : Int) x = z := ⟨_, rfl⟩
        have KX21 : Aside0 (∀ W, Fr W g8 c k false → Calls Try.prog 21 #[.pointer (some ⟨g8, 0, none⟩), .int .i64 (a : Int), .int .i64 x] W (RetV (.int .i64 z21) W)) := ⟨fun W hF => by have := KA21.out W g8 k a x hF (by omega); rw [atL_less qa hmk, hz21] at this; exact this⟩
        have KY21 : Aside0 (∀ W, Fr W g9 c mm false → Calls Try.prog 21 #[.pointer (some ⟨g9, 0, none⟩), .int .i64 (a : Int), .int .i64 x] W (RetV (.int .i64 z21) W)) := ⟨fun W hF => by have := KA21.out W g9 mm a x hF (by omega); rw [hz21] at this; exact this⟩
        clear hz21
        obtain ⟨z23, hz23⟩ : ∃ z, atL mm (sizeOf c) (c.f1.map (fun x => 2 * x.f0)) (a : Int) x = z := ⟨_, rfl⟩
        have KX23 : Aside0 (∀ W, Fr W g8 c k false → Calls Try.prog 23 #[.pointer (some ⟨g8, 0, none⟩), .int .i64 (a : Int), .int .i64 x] W (RetV (.int .i64 z23) W)) := ⟨fun W hF => by have := KA23.out W g8 k a x hF (by omega); rw [atL_less qa hmk, hz23] at this; exact this⟩
        have KY23 : Aside0 (∀ W, Fr W g9 c mm false → Calls Try.prog 23 #[.pointer (some ⟨g9, 0, none⟩), .int .i64 (a : Int), .int .i64 x] W (RetV (.int .i64 z23) W)) := ⟨fun W hF => by have := KA23.out W g9 mm a x hF (by omega); rw [hz23] at this; exact this⟩
        clear hz23
        obtain ⟨z25, hz25⟩ : ∃ z, atL mm (sizeOf c) (c.f3.map (fun x => x.f1)) (a : Int) x = z := ⟨_, rfl⟩
        have KX25 : Aside0 (∀ W, Fr W g8 c k false → Calls Try.prog 25 #[.pointer (some ⟨g8, 0, none⟩), .int .i64 (a : Int), .int .i64 x] W (RetV (.int .i64 z25) W)) := ⟨fun W hF => by have := KA25.out W g8 k a x hF (by omega); rw [atL_less qa hmk, hz25] at this; exact this⟩
        have KY25 : Aside0 (∀ W, Fr W g9 c mm false → Calls Try.prog 25 #[.pointer (some ⟨g9, 0, none⟩), .int .i64 (a : Int), .int .i64 x] W (RetV (.int .i64 z25) W)) := ⟨fun W hF => by have := KA25.out W g9 mm a x hF (by omega); rw [hz25] at this; exact this⟩
        clear hz25
        go_wp2_with (first
          | (go_at_call 21; (with_reducible refine (KX21.out _ HF1.out).mono ?_); rintro e w3_ ⟨rfl, hb⟩; replace HF1 := am (HF1.out.below hb); replace HF2 := am (HF2.out.below hb); replace HBW := am (below_step HBW.out hb); clear hb)
          | (go_at_call 21; (with_reducible refine (KY21.out _ HF2.out).mono ?_); rintro e w3_ ⟨rfl, hb⟩; replace HF1 := am (HF1.out.below hb); replace HF2 := am (HF2.out.below hb); replace HBW := am (below_step HBW.out hb); clear hb)
          | (go_at_call 23; (with_reducible refine (KX23.out _ HF1.out).mono ?_); rintro e w3_ ⟨rfl, hb⟩; replace HF1 := am (HF1.out.below hb); replace HF2 := am (HF2.out.below hb); replace HBW := am (below_step HBW.out hb); clear hb)
          | (go_at_call 23; (with_reducible refine (KY23.out _ HF2.out).mono ?_); rintro e w3_ ⟨rfl, hb⟩; replace HF1 := am (HF1.out.below hb); replace HF2 := am (HF2.out.below hb); replace HBW := am (below_step HBW.out hb); clear hb)
          | (go_at_call 25; (with_reducible refine (KX25.out _ HF1.out).mono ?_); rintro e w3_ ⟨rfl, hb⟩; replace HF1 := am (HF1.out.below hb); replace HF2 := am (HF2.out.below hb); replace HBW := am (below_step HBW.out hb); clear hb)
          | (go_at_call 25; (with_reducible refine (KY25.out _ HF2.out).mono ?_); rintro e w3_ ⟨rfl, hb⟩; replace HF1 := am (HF1.out.below hb); replace HF2 := am (HF2.out.below hb); replace HBW := am (below_step HBW.out hb); clear hb))
        go_roundw
        case rel => exact ⟨a + 1, by go_num, by omega, HBW, HF1, HF2⟩
        case measure => simp [intOf]; omega
      · obtain rfl : a = mm := by omega
        by_cases hq : a = k
        · have e152 : ((a : Int) == (k : Int)) = true := by rw [beq_iff_eq]; omega
          clear hq
          go_wp2
          go_ret
          exact ⟨_, rfl, rfl, HBW.out⟩
        · have e152 : ((a : Int) == (k : Int)) = false := by rw [beq_eq_false_iff_ne]; omega
          have e152b : (a == k) = false := by rw [beq_eq_false_iff_ne]; exact hq
          have KZ21 : Aside0 (∀ W, Fr W g9 c a false → Calls Try.prog 21 #[.pointer (some ⟨g9, 0, none⟩), .int .i64 (a : Int), .int .i64 0] W (RetV (.int .i64 0) W)) := ⟨fun W hF => by have := KA21.out W g9 a a 0 hF (by omega); rw [← atL_no (by omega)] at this; exact this⟩
          have KZ23 : Aside0 (∀ W, Fr W g9 c a false → Calls Try.prog 23 #[.pointer (some ⟨g9, 0, none⟩), .int .i64 (a : Int), .int .i64 0] W (RetV (.int .i64 0) W)) := ⟨fun W hF => by have := KA23.out W g9 a a 0 hF (by omega); rw [← atL_no (by omega)] at this; exact this⟩
          have KZ25 : Aside0 (∀ W, Fr W g9 c a false → Calls Try.prog 25 #[.pointer (some ⟨g9, 0, none⟩), .int .i64 (a : Int), .int .i64 0] W (RetV (.int .i64 0) W)) := ⟨fun W hF => by have := KA25.out W g9 a a 0 hF (by omega); rw [← atL_no (by omega)] at this; exact this⟩
          go_wp2_with (first
            | (go_at_call 21; (with_reducible refine (KZ21.out _ HF2.out).mono ?_); rintro e w3_ ⟨rfl, hb⟩; replace HF1 := am (HF1.out.below hb); replace HF2 := am (HF2.out.below hb); replace HBW := am (below_step HBW.out hb); clear hb)
            | (go_at_call 23; (with_reducible refine (KZ23.out _ HF2.out).mono ?_); rintro e w3_ ⟨rfl, hb⟩; replace HF1 := am (HF1.out.below hb); replace HF2 := am (HF2.out.below hb); replace HBW := am (below_step HBW.out hb); clear hb)
            | (go_at_call 25; (with_reducible refine (KZ25.out _ HF2.out).mono ?_); rintro e w3_ ⟨rfl, hb⟩; replace HF1 := am (HF1.out.below hb); replace HF2 := am (HF2.out.below hb); replace HBW := am (below_step HBW.out hb); clear hb))
          go_ret
          exact ⟨_, rfl, rfl, HBW.out⟩
  · go_ret
    exact ⟨_, rfl, rfl, HL.out.below⟩
set_option maxHeartbeats 64000000 in
set_option maxRecDepth 100000 in
theorem fewer_false_z (n : S27) (cs : List Value) (m ls x : Int) (k : Nat) (w : World) (h : k27.K w n cs) (h0 : 0 ≤ m) (h1 : m ≤ 255) (h2 : 0 ≤ ls) (h3 : ls ≤ 255) (h4 : 0 ≤ x) (h5 : x ≤ 255) (hk : m % 5 = (k : Int)) (hk0 : k = 0) :
    Calls Try.prog 4 #[.agg cs.toArray, .int .u8 m, .bool false, .int .u8 ls, .int .u8 x] w (RetB (fun b => b = true) w) := by
  have KG := am (fun W (hb : Below w.heap.size w W) => great_any n cs W (k27.K_below hb h))
  have KC := am (fun W (hb : Below w.heap.size w W) (ok : NetOk n) => compile_any n cs W (k27.K_below hb h) ok)
  have hk4 : k ≤ 4 := by omega
  have KM : Aside0 (∀ W, Calls Try.prog 14 #[.int .u8 m] W (fun e w' => e = .returned (.int .i64 (k : Int)) ∧ w' = W)) := ⟨fun W => by have := some_any m W h0 h1; rw [hk] at this; exact this⟩
  obtain ⟨A0, c0, A1, c1, A2, c2, A3, c3, A4, c4, rfl, _⟩ := k27_open h
  have HL : Aside0 (Led [] w w) := ⟨Led.nil w⟩
  have hu27 := Try.underlying27
  have hu35 := Try.underlying35
  obtain ⟨mm, hmm⟩ : ∃ mm : Nat, ls % ((k : Int) + 1) = (mm : Int) := ⟨(ls % ((k : Int) + 1)).toNat, by have := Int.emod_nonneg ls (show (k : Int) + 1 ≠ 0 by omega); omega⟩
  have hmk : mm ≤ k := by have := Int.emod_lt_of_pos ls (show (0 : Int) < (k : Int) + 1 by omega); omega
  have HMM : Aside0 (ls.tmod ((k : Int) + 1) = (mm : Int)) := ⟨by rw [Int.tmod_eq_emod_of_nonneg h2]; exact hmm⟩
  have HM2 := am hmm
  have e82 : ((k : Int) == 0) = true := by first | (rw [beq_iff_eq]; omega) | (rw [beq_eq_false_iff_ne]; omega)
  have e98 : decide ((0 : Int) < (k : Int)) = false := by first | exact decide_eq_true (by omega) | exact decide_eq_false (by omega)
  have e98b : decide (0 < k) = false := by first | exact decide_eq_true (by omega) | exact decide_eq_false (by omega)
  clear h hk hmm
  have HK0 := am hk0
  clear hk0
  go_enter Try.func4, Try.ntmps4
  go_wp2_with (first
    | ((with_reducible refine zg 5 rfl ?_); refine zx 5 [.slice A0 n.f0.length c0, .slice A1 n.f1.length c1, .slice A2 n.f2.length c2, .slice A3 n.f3.length c3, .slice A4 n.f4.length c4] 27 HL ?_; clear HL; intro g2 w1_ HL hb; clear hb)
    | (go_at_call 9; refine (head_any _).mono ?_; rintro e w1_ ⟨r, rfl, rfl, hb⟩; replace HL := am (HL.out.step hb); clear hb)
    | ((with_reducible refine zg 24 rfl ?_); refine zl 0 27 (.tmp 5) HL hu27 ?_)
    | (go_at_call 10; refine (KG.out _ HL.out.below).mono ?_; rintro e w1_ ⟨r, rfl, hr, hb⟩; have HR1 := am hr; replace HL := am (HL.out.step hb); clear hr hb; cases r)
    | ((with_reducible refine zg 27 rfl ?_); refine zl 0 27 (.tmp 5) HL hu27 ?_)
    | (go_at_call 11; refine (KC.out _ HL.out.below (HR1.out (by first | rfl | trivial))).mono ?_; rintro e wc ⟨c, cs2, rfl, hk, hok, hb⟩; obtain ⟨B1, d1, B2, d2, B3, d3, B4, d4, rfl, _⟩ := k35_open hk; have HK := am hk; have HOK := am hok; have HB0 := am (HL.out.step hb).below; clear HL; have HL : Aside0 (Led [] wc wc) := ⟨Led.nil wc⟩; obtain ⟨hz0, hz1, hl1, hl2⟩ := hok.fit; have hi0 := hok.i0; have hi1 := hok.i1; have hl0 := hok.len; have hl3 := hok.lout; have KN : Aside0 (∀ (W : World) (k : Nat) (fs : Bool), k35.K W c _ → Calls Try.prog 13 #[.agg #[.int .i64 c.f0.f0, .slice B1 c.f0.f1.length d1, .slice B2 c.f1.length d2, .slice B3 c.f2.length d3, .slice B4 c.f3.length d4], .int .i64 (k : Int), .bool fs] W (RetFr c k fs W)) := ⟨fun W k fs h => new_any c _ k fs W h hi0 (by omega) (by omega)⟩; have K17 : Aside0 (∀ (W : World) (g k : Nat) (fs : Bool), Fr W g c k fs → k ≤ 4 → Calls Try.prog 17 #[.pointer (some ⟨g, 0, none⟩)] W (RetLs (framesC c fs k) W)) := ⟨fun W g k fs hF hk => frames_any c g k fs W hF hok.ok hi0 hi1 hl0 hok.lat (by omega) (by omega)⟩; clear hk hok hb HR1)
    | ((with_reducible refine zg 12 rfl ?_); refine zx 12 [.int .i64 0, .slice none 0 0, .slice none 0 0, .slice none 0 0, .slice none 0 0] 35 HL ?_; clear HL; intro g6 w1_ HL hb; clear hb)
    | ((with_reducible refine zst 35 (.tmp 12) (.tmp 28) rfl ?_); refine zs 0 0 35 (.tmp 12) (.tmp 28) [.int .i64 c.f0.f0, .slice B1 c.f0.f1.length d1, .slice B2 c.f1.length d2, .slice B3 c.f2.length d3, .slice B4 c.f3.length d4] HL ?_; intro w1_ HLn hfar; replace HL := HLn; clear HLn hfar)
    | (go_at_call 14; refine (KM.out _).mono ?_; rintro e w1_ ⟨rfl, rfl⟩)
    | ((with_reducible refine zg 35 rfl ?_); refine zval 35 (.int .i64 (mm : Int)) ?_ (hrun := by go_simp; rw [if_neg (by omega), HMM.out]))
    | ((with_reducible refine zg 36 rfl ?_); refine zl 0 35 (.tmp 12) HL hu35 ?_)
    | (go_at_call 13; (with_reducible refine (KN.out _ k false (k35.K_below HL.out.below HK.out)).mono ?_); rintro e wz ⟨g8, rfl, _, hF, hb⟩; replace HL := am (HL.out.step hb); have HF1 := am hF; clear hF hb)
    | ((with_reducible refine zg 40 rfl ?_); refine zl 0 35 (.tmp 12) HL hu35 ?_)
    | (go_at_call 13; (with_reducible refine (KN.out _ mm false (k35.K_below HL.out.below HK.out)).mono ?_); rintro e wz ⟨g9, rfl, _, hF, hb⟩; replace HL := am (HL.out.step hb); replace HF1 := am (HF1.out.below hb); have HF2 := am hF; clear hF hb)
    | ((with_reducible refine zg 44 rfl ?_); refine zl 0 35 (.tmp 12) HL hu35 ?_)
    | (go_at_call 13; (with_reducible refine (KN.out _ k true (k35.K_below HL.out.below HK.out)).mono ?_); rintro e wz ⟨g10, rfl, _, hF, hb⟩; replace HL := am (HL.out.step hb); replace HF1 := am (HF1.out.below hb); replace HF2 := am (HF2.out.below hb); have HF3 := am hF; clear hF hb)
    | (go_at_call 17; (with_reducible refine (K17.out _ _ _ _ HF1.out (by omega)).mono ?_); rintro e w1_ ⟨v, rfl, hr, _, hb⟩; obtain ⟨la, hla⟩ : ∃ z, framesC c false k = z := ⟨_, rfl⟩; rw [hla] at hr; obtain ⟨BA, nA, rfl⟩ := Kd.R_slice hr; replace HL := am (HL.out.step hb); replace HF1 := am (HF1.out.below hb); replace HF2 := am (HF2.out.below hb); replace HF3 := am (HF3.out.below hb); have HA := am hr; have HEA := am hla; have hmA : la.length ≤ 100000000 := (by rw [← hla]; exact framesC_small HOK.out _ (by omega)); clear hla hr hb)
    | (go_at_call 17; (with_reducible refine (K17.out _ _ _ _ HF2.out (by omega)).mono ?_); rintro e w1_ ⟨v, rfl, hr, _, hb⟩; obtain ⟨lb, hla⟩ : ∃ z, framesC c false mm = z := ⟨_, rfl⟩; rw [hla] at hr; obtain ⟨BB, nB, rfl⟩ := Kd.R_slice hr; replace HL := am (HL.out.step hb); replace HF1 := am (HF1.out.below hb); replace HF2 := am (HF2.out.below hb); replace HF3 := am (HF3.out.below hb); replace HA := am (Kd.R_below HA.out hb); have HB := am hr; have HEB := am hla; have hmB : lb.length ≤ 100000000 := (by rw [← hla]; exact framesC_small HOK.out _ (by omega)); clear hla hr hb)
    | (go_at_call 17; (with_reducible refine (K17.out _ _ _ _ HF3.out (by omega)).mono ?_); rintro e w1_ ⟨v, rfl, hr, _, hb⟩; obtain ⟨lc, hla⟩ : ∃ z, framesC c true k = z := ⟨_, rfl⟩; rw [hla] at hr; obtain ⟨BC, nC, rfl⟩ := Kd.R_slice hr; replace HL := am (HL.out.step hb); replace HF1 := am (HF1.out.below hb); replace HF2 := am (HF2.out.below hb); replace HF3 := am (HF3.out.below hb); replace HA := am (Kd.R_below HA.out hb); replace HB := am (Kd.R_below HB.out hb); have HC := am hr; have HEC := am hla; have hmC : lc.length ≤ 100000000 := (by rw [← hla]; exact framesC_small HOK.out _ (by omega)); have HDF : Aside0 ((la.length : Int) - (lc.length : Int) = 0) := ⟨by have h1 : framesC c false k = [] := (by rw [HK0.out]; rfl); have h2 : framesC c true k = [] := (by rw [HK0.out]; rfl); rw [HEA.out] at h1; rw [hla] at h2; rw [h1, h2]; rfl⟩; have HTK : Aside0 (lb.length ≤ la.length ∧ la.take lb.length = lb) := ⟨(by obtain ⟨r, h1⟩ := frames_take c false (show mm ≤ k by omega); rw [HEA.out, HEB.out] at h1; rw [h1]; exact ⟨by rw [List.length_append]; omega, List.take_left⟩)⟩; have hle : lb.length ≤ la.length := HTK.out.1; have hcap : la.length ≤ nA := (Kd.R_reads' HA.out).2.1; have hla0 : la.length ≤ 0 := (by have h1 : framesC c false k = [] := (by rw [HK0.out]; rfl); rw [HEA.out] at h1; rw [h1]; exact Nat.le_refl _); clear hla hr hb)
    | (go_at_call 16; have hA : kR.C _ BA lb.length lb := (by have := Kd.C_take (rowC HA.out) HTK.out.1; rw [HTK.out.2] at this; exact this); have hB := rowC HB.out; (with_reducible refine (same_any lb _ _ _ _ _ hB hA).mono ?_); rintro e w1_ ⟨r, rfl, rfl, hb⟩; replace HL := am (HL.out.step hb); replace HF1 := am (HF1.out.below hb); replace HF2 := am (HF2.out.below hb); clear hb hA hB; have hc3 : w1_.cell? ⟨g6, 3, none⟩ = some (.slice B3 c.f2.length d3) := blk_cell (HL.out.get 0 rfl) 3)
    | ((with_reducible refine zg 92 rfl ?_); refine zval 92 (.int .i64 (0)) ?_ (hrun := by go_simp; first | exact HDF.out | (rw [HDF.out, i64_w]; exact wrap_small (by omega) (by omega))))
    | ((with_reducible refine zg 96 rfl ?_); refine zval 96 (.int .i64 0) ?_ (hrun := by go_simp; try (first | rfl | (rw [i64_w]; exact wrap_small (by omega) (by omega)) | (unfold wrap64; omega)))))
  · have HBW : Aside0 (Below w.heap.size w _) := ⟨below_step HB0.out HL.out.below⟩
    have KA21 : Aside0 (∀ (W : World) (g q : Nat) (a i : Int), Fr W g c q false → q ≤ 4 → Calls Try.prog 21 #[.pointer (some ⟨g, 0, none⟩), .int .i64 a, .int .i64 i] W (RetV (.int .i64 (atL q (sizeOf c) (c.f2.map (fun x => 2 * x.f0)) a i)) W)) := ⟨fun W g q a i hF hq => latch_any c g q false a i W hF (by omega) hz0 (by omega) (fun x hx => (HOK.out.lat x hx).1)⟩
    have KA23 : Aside0 (∀ (W : World) (g q : Nat) (a i : Int), Fr W g c q false → q ≤ 4 → Calls Try.prog 23 #[.pointer (some ⟨g, 0, none⟩), .int .i64 a, .int .i64 i] W (RetV (.int .i64 (atL q (sizeOf c) (c.f1.map (fun x => 2 * x.f0)) a i)) W)) := ⟨fun W g q a i hF hq => in__any c g q false a i W hF (by omega) hz0 (by omega) HOK.out.ins_⟩
    have KA25 : Aside0 (∀ (W : World) (g q : Nat) (a i : Int), Fr W g c q false → q ≤ 4 → Calls Try.prog 25 #[.pointer (some ⟨g, 0, none⟩), .int .i64 a, .int .i64 i] W (RetV (.int .i64 (atL q (sizeOf c) (c.f3.map (fun x => x.f1)) a i)) W)) := ⟨fun W g q a i hF hq => out_any c g q false a i W hF (by omega) hz0 (by omega) HOK.out.outs_⟩
    clear hc3 HL HA HB HB0 HK KN K17 HTK HDF HEA HEB HEC hmA hmB hmC hle hcap KG KC KM hz0 hz1 hl3 hla0 HK0
    go_loopw [22] (fun v22 wr => ∃ (a : Nat), v22 = .int .i64 (a : Int) ∧ a ≤ mm ∧ Aside0 (Below w.heap.size w wr) ∧ Aside0 (Fr wr g8 c k false) ∧ Aside0 (Fr wr g9 c mm false)) (fun v _ => mm - (intOf v).toNat)
    case atStart => exact ⟨0, rfl, Nat.zero_le _, HBW, HF1, HF2⟩
    case round =>
      clear HBW HF1 HF2
      obtain ⟨a, rfl, ha, HBW, HF1, HF2⟩ := hrel
      by_cases hlt : a < mm
      · have qa : (a : Int) < (mm : Int) := by omega
        obtain ⟨z21, hz21⟩ : ∃ z, atL mm (sizeOf c) (c.f2.map (fun x => 2 * x.f0)) (a : Int) x = z := ⟨_, rfl⟩
        have KX21 : Aside0 (∀ W, Fr W g8 c k false → Calls Try.prog 21 #[.pointer (some ⟨g8, 0, none⟩), .int .i64 (a : Int), .int .i64 x] W (RetV (.int .i64 z21) W)) := ⟨fun W hF => by have := KA21.out W g8 k a x hF (by omega); rw [atL_less qa hmk, hz21] at this; exact this⟩
        have KY21 : Aside0 (∀ W, Fr W g9 c mm false → Calls Try.prog 21 #[.pointer (some ⟨g9, 0, none⟩), .int .i64 (a : Int), .int .i64 x] W (RetV (.int .i64 z21) W)) := ⟨fun W hF => by have := KA21.out W g9 mm a x hF (by omega); rw [hz21] at this; exact this⟩
        clear hz21
        obtain ⟨z23, hz23⟩ : ∃ z, atL mm (sizeOf c) (c.f1.map (fun x => 2 * x.f0)) (a : Int) x = z := ⟨_, rfl⟩
        have KX23 : Aside0 (∀ W, Fr W g8 c k false → Calls Try.prog 23 #[.pointer (some ⟨g8, 0, none⟩), .int .i64 (a : Int), .int .i64 x] W (RetV (.int .i64 z23) W)) := ⟨fun W hF => by have := KA23.out W g8 k a x hF (by omega); rw [atL_less qa hmk, hz23] at this; exact this⟩
        have KY23 : Aside0 (∀ W, Fr W g9 c mm false → Calls Try.prog 23 #[.pointer (some ⟨g9, 0, none⟩), .int .i64 (a : Int), .int .i64 x] W (RetV (.int .i64 z23) W)) := ⟨fun W hF => by have := KA23.out W g9 mm a x hF (by omega); rw [hz23] at this; exact this⟩
        clear hz23
        obtain ⟨z25, hz25⟩ : ∃ z, atL mm (sizeOf c) (c.f3.map (fun x => x.f1)) (a : Int) x = z := ⟨_, rfl⟩
        have KX25 : Aside0 (∀ W, Fr W g8 c k false → Calls Try.prog 25 #[.pointer (some ⟨g8, 0, none⟩), .int .i64 (a : Int), .int .i64 x] W (RetV (.int .i64 z25) W)) := ⟨fun W hF => by have := KA25.out W g8 k a x hF (by omega); rw [atL_less qa hmk, hz25] at this; exact this⟩
        have KY25 : Aside0 (∀ W, Fr W g9 c mm false → Calls Try.prog 25 #[.pointer (some ⟨g9, 0, none⟩), .int .i64 (a : Int), .int .i64 x] W (RetV (.int .i64 z25) W)) := ⟨fun W hF => by have := KA25.out W g9 mm a x hF (by omega); rw [hz25] at this; exact this⟩
        clear hz25
        go_wp2_with (first
          | (go_at_call 21; (with_reducible refine (KX21.out _ HF1.out).mono ?_); rintro e w3_ ⟨rfl, hb⟩; replace HF1 := am (HF1.out.below hb); replace HF2 := am (HF2.out.below hb); replace HBW := am (below_step HBW.out hb); clear hb)
          | (go_at_call 21; (with_reducible refine (KY21.out _ HF2.out).mono ?_); rintro e w3_ ⟨rfl, hb⟩; replace HF1 := am (HF1.out.below hb); replace HF2 := am (HF2.out.below hb); replace HBW := am (below_step HBW.out hb); clear hb)
          | (go_at_call 23; (with_reducible refine (KX23.out _ HF1.out).mono ?_); rintro e w3_ ⟨rfl, hb⟩; replace HF1 := am (HF1.out.below hb); replace HF2 := am (HF2.out.below hb); replace HBW := am (below_step HBW.out hb); clear hb)
          | (go_at_call 23; (with_reducible refine (KY23.out _ HF2.out).mono ?_); rintro e w3_ ⟨rfl, hb⟩; replace HF1 := am (HF1.out.below hb); replace HF2 := am (HF2.out.below hb); replace HBW := am (below_step HBW.out hb); clear hb)
          | (go_at_call 25; (with_reducible refine (KX25.out _ HF1.out).mono ?_); rintro e w3_ ⟨rfl, hb⟩; replace HF1 := am (HF1.out.below hb); replace HF2 := am (HF2.out.below hb); replace HBW := am (below_step HBW.out hb); clear hb)
          | (go_at_call 25; (with_reducible refine (KY25.out _ HF2.out).mono ?_); rintro e w3_ ⟨rfl, hb⟩; replace HF1 := am (HF1.out.below hb); replace HF2 := am (HF2.out.below hb); replace HBW := am (below_step HBW.out hb); clear hb))
        go_roundw
        case rel => exact ⟨a + 1, by go_num, by omega, HBW, HF1, HF2⟩
        case measure => simp [intOf]; omega
      · obtain rfl : a = mm := by omega
        by_cases hq : a = k
        · have e152 : ((a : Int) == (k : Int)) = true := by rw [beq_iff_eq]; omega
          clear hq
          go_wp2
          go_ret
          exact ⟨_, rfl, rfl, HBW.out⟩
        · have e152 : ((a : Int) == (k : Int)) = false := by rw [beq_eq_false_iff_ne]; omega
          have e152b : (a == k) = false := by rw [beq_eq_false_iff_ne]; exact hq
          have KZ21 : Aside0 (∀ W, Fr W g9 c a false → Calls Try.prog 21 #[.pointer (some ⟨g9, 0, none⟩), .int .i64 (a : Int), .int .i64 0] W (RetV (.int .i64 0) W)) := ⟨fun W hF => by have := KA21.out W g9 a a 0 hF (by omega); rw [← atL_no (by omega)] at this; exact this⟩
          have KZ23 : Aside0 (∀ W, Fr W g9 c a false → Calls Try.prog 23 #[.pointer (some ⟨g9, 0, none⟩), .int .i64 (a : Int), .int .i64 0] W (RetV (.int .i64 0) W)) := ⟨fun W hF => by have := KA23.out W g9 a a 0 hF (by omega); rw [← atL_no (by omega)] at this; exact this⟩
          have KZ25 : Aside0 (∀ W, Fr W g9 c a false → Calls Try.prog 25 #[.pointer (some ⟨g9, 0, none⟩), .int .i64 (a : Int), .int .i64 0] W (RetV (.int .i64 0) W)) := ⟨fun W hF => by have := KA25.out W g9 a a 0 hF (by omega); rw [← atL_no (by omega)] at this; exact this⟩
          go_wp2_with (first
            | (go_at_call 21; (with_reducible refine (KZ21.out _ HF2.out).mono ?_); rintro e w3_ ⟨rfl, hb⟩; replace HF1 := am (HF1.out.below hb); replace HF2 := am (HF2.out.below hb); replace HBW := am (below_step HBW.out hb); clear hb)
            | (go_at_call 23; (with_reducible refine (KZ23.out _ HF2.out).mono ?_); rintro e w3_ ⟨rfl, hb⟩; replace HF1 := am (HF1.out.below hb); replace HF2 := am (HF2.out.below hb); replace HBW := am (below_step HBW.out hb); clear hb)
            | (go_at_call 25; (with_reducible refine (KZ25.out _ HF2.out).mono ?_); rintro e w3_ ⟨rfl, hb⟩; replace HF1 := am (HF1.out.below hb); replace HF2 := am (HF2.out.below hb); replace HBW := am (below_step HBW.out hb); clear hb))
          go_ret
          exact ⟨_, rfl, rfl, HBW.out⟩
  · go_ret
    exact ⟨_, rfl, rfl, HL.out.below⟩
theorem fewer_any (n : S27) (cs : List Value) (m : Int) (fs : Bool) (ls x : Int) (w : World) (h : k27.K w n cs) (h0 : 0 ≤ m) (h1 : m ≤ 255) (h2 : 0 ≤ ls) (h3 : ls ≤ 255) (h4 : 0 ≤ x) (h5 : x ≤ 255) :
    Calls Try.prog 4 #[.agg cs.toArray, .int .u8 m, .bool fs, .int .u8 ls, .int .u8 x] w (RetB (fun b => b = true) w) := by
  have hk : m % 5 = ((m % 5).toNat : Int) := by omega
  by_cases hk0 : (m % 5).toNat = 0
  · cases fs
    · exact fewer_false_z n cs m ls x _ w h h0 h1 h2 h3 h4 h5 hk hk0
    · exact fewer_true_z n cs m ls x _ w h h0 h1 h2 h3 h4 h5 hk hk0
  · cases fs
    · exact fewer_false_p n cs m ls x _ w h h0 h1 h2 h3 h4 h5 hk (by omega)
    · exact fewer_true_p n cs m ls x _ w h h0 h1 h2 h3 h4 h5 hk (by omega)
end Go.Proofs.Yteilkojmefipcaa.U
