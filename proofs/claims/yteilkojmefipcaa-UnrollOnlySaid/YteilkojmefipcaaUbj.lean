/- Unroll: the walk of Only. -/
import Derived.Test.YteilkojmefipcaaUbi
import Derived.Test.YteilkojmefipcaaUbh
namespace Go.Proofs.Yteilkojmefipcaa.U
open Go.RowKit Go.Proofs.YteilkojmefipcaaW.PrintWords Go.Proofs.YteilkojmefipcaaW.PrintLast
set_option linter.unusedVariables false
set_option linter.unusedSimpArgs false
set_option maxHeartbeats 64000000 in
set_option maxRecDepth 100000 in
theorem only_false (n : S27) (cs : List Value) (m : Int) (av : List Bool) (AA : Option Addr) (ca : Nat) (rows : List (List Bool)) (AR : Option Addr) (cr : Nat) (w : World) (h : k27.K w n cs) (h0 : 0 ≤ m) (h1 : m ≤ 255) (ha : Kd.bool.C w AA av.length av) (hr : kB.C w AR rows.length rows) (at_ : Int) (hat0 : 0 ≤ at_) (hat1 : at_ ≤ 65535) :
    Calls Try.prog 6 #[.agg cs.toArray, .int .u8 m, .bool false, .slice AA av.length ca, .slice AR rows.length cr, .int .u16 at_] w (RetB (fun b => b = true) w) := by
  have KG := am (fun W (hb : Below w.heap.size w W) => great_any n cs W (k27.K_below hb h))
  have KC := am (fun W (hb : Below w.heap.size w W) (ok : NetOk n) => compile_any n cs W (k27.K_below hb h) ok)
  obtain ⟨k, hk⟩ : ∃ k : Nat, m % 5 = (k : Int) := ⟨(m % 5).toNat, by omega⟩
  have hk4 : k ≤ 4 := by omega
  have KM : Aside0 (∀ W, Calls Try.prog 14 #[.int .u8 m] W (fun e w' => e = .returned (.int .i64 (k : Int)) ∧ w' = W)) := ⟨fun W => by have := some_any m W h0 h1; rw [hk] at this; exact this⟩
  obtain ⟨A0, c0, A1, c1, A2, c2, A3, c3, A4, c4, rfl, _⟩ := k27_open h
  have HL : Aside0 (Led [] w w) := ⟨Led.nil w⟩
  have hu27 := Try.underlying27
  have hu35 := Try.underlying35
  have HAV := am ha
  have HRW := am hr
  clear h hk ha hr
  go_enter Try.func6, Try.ntmps6
  go_upto_region 12 with (first
    | ((with_reducible refine zg 6 rfl ?_); refine zx 6 [.slice A0 n.f0.length c0, .slice A1 n.f1.length c1, .slice A2 n.f2.length c2, .slice A3 n.f3.length c3, .slice A4 n.f4.length c4] 27 HL ?_; clear HL; intro g2 w1_ HL hb; clear hb)
    | (go_at_call 9; refine (head_any _).mono ?_; rintro e w1_ ⟨r, rfl, rfl, hb⟩; replace HL := am (HL.out.step hb); clear hb)
    | ((with_reducible refine zg 26 rfl ?_); refine zl 0 27 (.tmp 6) HL hu27 ?_)
    | (go_at_call 10; refine (KG.out _ HL.out.below).mono ?_; rintro e w1_ ⟨r, rfl, hr, hb⟩; have HR1 := am hr; replace HL := am (HL.out.step hb); clear hr hb; cases r)
    | ((with_reducible refine zg 29 rfl ?_); refine zl 0 27 (.tmp 6) HL hu27 ?_)
    | (go_at_call 11; refine (KC.out _ HL.out.below (HR1.out (by first | rfl | trivial))).mono ?_; rintro e wc ⟨c, cs2, rfl, hk, hok, hb⟩; obtain ⟨B1, d1, B2, d2, B3, d3, B4, d4, rfl, _⟩ := k35_open hk; have HK := am hk; have HOK := am hok; have HB0 := am (HL.out.step hb).below; clear HL; have HL : Aside0 (Led [] wc wc) := ⟨Led.nil wc⟩; obtain ⟨hz0, hz1, hl1, hl2⟩ := hok.fit; have hi0 := hok.i0; have hi1 := hok.i1; have hl0 := hok.len; have hl3 := hok.lout; clear hk hok hb HR1)
    | ((with_reducible refine zg 14 rfl ?_); refine zx 14 [.int .i64 0, .slice none 0 0, .slice none 0 0, .slice none 0 0, .slice none 0 0] 35 HL ?_; clear HL; intro g6 w1_ HL hb; clear hb)
    | ((with_reducible refine zst 35 (.tmp 14) (.tmp 30) rfl ?_); refine zs 0 0 35 (.tmp 14) (.tmp 30) [.int .i64 c.f0.f0, .slice B1 c.f0.f1.length d1, .slice B2 c.f1.length d2, .slice B3 c.f2.length d3, .slice B4 c.f3.length d4] HL ?_; intro w1_ HLn hfar; replace HL := HLn; clear HLn hfar)
    | (go_at_call 14; refine (KM.out _).mono ?_; rintro e w1_ ⟨rfl, rfl⟩)
    | ((with_reducible refine zg 33 rfl ?_); refine zl 0 35 (.tmp 14) HL hu35 ?_)
    | (go_at_call 13; refine (new_any c _ k false _ (k35.K_below HL.out.below HK.out) hi0 (by omega) (by omega)).mono ?_; rintro e wz ⟨g8, rfl, _, hF, hb⟩; replace HL := am (HL.out.step hb); have HF := am hF; clear hF hb; have k3 : wz.cell? ⟨g6, 3, none⟩ = some (.slice B3 c.f2.length d3) := blk_cell (HL.out.get 0 rfl) 3)
    | (go_at_call 30; refine (bitsB_any av AA ca c.f2.length _ (Kd.C_below HAV.out (below_step HB0.out HL.out.below)) (by omega)).mono ?_; rintro e wb ⟨v40, rfl, hr40, hb⟩; obtain ⟨s, hs⟩ : ∃ z, bitsL av c.f2.length = z := ⟨_, rfl⟩; rw [hs] at hr40; obtain ⟨A15, c15, rfl⟩ := Kd.R_slice hr40; have HS := am (Kd.R_reads' hr40).2.2; have HSL : Aside0 (s.length = c.f2.length) := ⟨by rw [← hs]; exact bitsL_len _ _⟩; replace HL := am (HL.out.step hb); replace HF := am (HF.out.below hb); clear hs hr40 hb k3))
  rotate_left
  · go_ret
    exact ⟨_, rfl, rfl, HL.out.below⟩
  have HSF : Aside0 (false = true → s = c.f2.map S84.f2) := ⟨fun h => by cases h⟩
  have KMO : Aside0 (∀ W, Below wc.heap.size wc W → Kd.bool.C W A15 s.length s → Calls Try.prog 32 #[.agg #[.int .i64 c.f0.f0, .slice B1 c.f0.f1.length d1, .slice B2 c.f1.length d2, .slice B3 c.f2.length d3, .slice B4 c.f3.length d4], .slice A15 s.length c15, .slice AR rows.length cr, .int .i64 (k : Int)] W (RetModel c s rows k W)) := ⟨fun W hb hC => model_any c _ s A15 c15 rows AR cr k W (k35.K_below hb HK.out) HOK.out hC (Kd.C_below HRW.out (below_step HB0.out hb)) HSL.out (by omega)⟩
  go_upto_region 13 with (first
    | ((with_reducible refine zg 52 rfl ?_); refine zl 0 35 (.tmp 14) HL hu35 ?_)
    | (go_at_call 32; refine (KMO.out _ HL.out.below HS.out).mono ?_; rintro e wM ⟨v1, v2, rfl, hr1, hr2, hb⟩; obtain ⟨M, hM⟩ : ∃ z, outL c s rows k = z := ⟨_, rfl⟩; obtain ⟨U, hU⟩ : ∃ z, outsL c s rows k = z := ⟨_, rfl⟩; rw [hM] at hr1; rw [hU] at hr2; obtain ⟨A16, c16, rfl⟩ := Kd.R_slice hr1; obtain ⟨A17, c17, rfl⟩ := Kd.R_slice hr2; have HCM := am (Kd.R_reads' hr1).2.2; have HCU := am (Kd.R_reads' hr2).2.2; have HMc : M.length ≤ c16 := (Kd.R_reads' hr1).2.1; have HME := am hM; have HUE := am hU; replace HL := am (HL.out.step hb); replace HF := am (HF.out.below hb); clear hr1 hr2 hb hM hU KMO HS))
  have HWM : Aside0 (Below w.heap.size w wM) := ⟨below_step HB0.out HL.out.below⟩
  have hML : M.length = k * szN c := by rw [← HME.out]; exact outL_len HSL.out k
  have HSZ := HOK.out.szN
  have hsz1 : szN c ≤ 259201 := by have h2 := HOK.out.i1; have h3 := HOK.out.len; have h4 := HOK.out.ins; unfold szN; omega
  have hML2 : M.length ≤ 1048576 := by
    rw [hML]
    have h2 : k * szN c ≤ 4 * szN c := Nat.mul_le_mul_right _ hk4
    omega
  have KV : Aside0 (∀ W, Below wM.heap.size wM W → Calls Try.prog 19 #[.pointer (some ⟨g8, 0, none⟩)] W (RetV (.int .i64 (M.length : Int)) W)) := ⟨fun W hb => by
    have := fvars_any c g8 k false W (HF.out.below hb) (by omega) hz0 (by omega)
    rw [HSZ, ← Int.natCast_mul, ← hML] at this
    exact this⟩
  have KCL : Aside0 (∀ W, Below wM.heap.size wM W → Calls Try.prog 17 #[.pointer (some ⟨g8, 0, none⟩)] W (RetLs (framesC c false k) W)) := ⟨fun W hb => frames_any c g8 k false W (HF.out.below hb) HOK.out.ok hi0 (by omega) (by omega) HOK.out.lat (by omega) (by omega)⟩
  obtain ⟨CL, hCL⟩ : ∃ z, framesC c false k = z := ⟨_, rfl⟩
  have hcl1 : CL.length ≤ 100000000 := by rw [← hCL]; exact framesC_small' HOK.out k hk4
  rw [hCL] at KCL
  have H2 : Aside0 (wM.cell? ⟨g6, 2, none⟩ = some (.slice B2 c.f1.length d2)) := ⟨blk_cell (HL.out.get 0 rfl) 2⟩
  have H0 : Aside0 (wM.cell? ⟨g6, 0, none⟩ = some (.int .i64 c.f0.f0)) := ⟨blk_cell (HL.out.get 0 rfl) 0⟩
  have H1 : Aside0 (wM.cell? ⟨g6, 1, none⟩ = some (.slice B1 c.f0.f1.length d1)) := ⟨blk_cell (HL.out.get 0 rfl) 1⟩
  have HCLE := am hCL
  have HML := am hML
  have hmm : M.length ≤ 9223372036854775807 := HCM.out.2.1
  have hS1 : (1 : Int) ≤ (szN c : Int) := by unfold szN; omega
  have hSN : 0 < szN c := by unfold szN; omega
  have HEQ : Aside0 ((k : Int) * (szN c : Int) = (M.length : Int)) := ⟨by rw [hML]; simp⟩
  have KVS : Aside0 (∀ W, Calls Try.prog 33 #[.agg #[.int .i64 c.f0.f0, .slice B1 c.f0.f1.length d1]] W (RetV (.int .i64 (szN c : Int)) W)) := ⟨fun W => (vars_any c.f0.f0 B1 c.f0.f1.length d1 W hi0 (by omega) (by omega)).mono (fun e w' ⟨r, he, hr, hb⟩ => ⟨by rw [he, hr, ← HSZ]; rfl, hb⟩)⟩
  obtain ⟨S, hS⟩ : ∃ S, szN c = S := ⟨_, rfl⟩
  rw [hS] at HEQ KVS hS1 hSN hsz1
  have HHS := am hS
  have eS : decide ((S : Int) < 1) = false := decide_eq_false (by omega)
  clear hCL KG KC KM HL HB0 HF hML HSZ hS
  have HL : Aside0 (Led [] wM wM) := ⟨Led.nil _⟩
  rcases Nat.eq_zero_or_pos k with hk0 | hk0
  · have e81 : ((k : Int) == 0) = true := by rw [beq_iff_eq]; omega
    have hm0 : M.length ≤ 0 := by rw [HML.out, hk0]; simp
    have k0 := H0.out
    have k1 := H1.out
    clear hk0
    go_wp2_with (first
      | (go_at_call 33; refine (KVS.out _).mono ?_; rintro e w1_ ⟨rfl, hb⟩; replace HL := am (HL.out.step hb); clear k0 k1 hb)
      | (go_at_call 19; refine (KV.out _ HL.out.below).mono ?_; rintro e w1_ ⟨rfl, hb⟩; replace HL := am (HL.out.step hb); clear hb)
      | ((with_reducible refine zg 76 rfl ?_); refine zguard ?_; refine zval 76 (.int .i64 (M.length : Int)) ?_ (hrun := by go_simp; first | exact HEQ.out | (rw [HEQ.out, i64_w]; exact wrap_small (by omega) (by omega))))
      | ((with_reducible refine zg 100 rfl ?_); refine zguard ?_; refine zval 100 (.int .i64 (M.length : Int)) ?_ (hrun := by go_simp; first | exact HEQ.out | (rw [HEQ.out, i64_w]; exact wrap_small (by omega) (by omega)))))
    go_ret
    exact ⟨_, rfl, rfl, below_step HWM.out HL.out.below⟩
  · have e81 : ((k : Int) == 0) = false := by rw [beq_eq_false_iff_ne]; omega
    have hm0 : 0 < M.length := by rw [HML.out]; exact Nat.mul_pos hk0 (by rw [HHS.out]; exact hSN)
    have hm1 : (0 : Int) < (M.length : Int) := by omega
    obtain ⟨tt, htt⟩ : ∃ tt : Nat, at_ % (M.length : Int) = (tt : Int) := ⟨(at_ % (M.length : Int)).toNat, by have := Int.emod_nonneg at_ (show (M.length : Int) ≠ 0 by omega); omega⟩
    have ht1 : tt < M.length := by have := Int.emod_lt_of_pos at_ hm1; omega
    have HTT : Aside0 (at_.tmod (M.length : Int) = (tt : Int)) := ⟨by rw [Int.tmod_eq_emod_of_nonneg hat0]; exact htt⟩
    obtain ⟨v, hv⟩ : ∃ v : Int, ((tt % S : Nat) : Int) = v := ⟨_, rfl⟩
    have HVV : Aside0 ((tt : Int).tmod (S : Int) = v) := ⟨by rw [Int.tmod_eq_emod_of_nonneg (by omega), ← hv]; simp⟩
    have hv0 : 0 ≤ v := by omega
    have hv1 : v ≤ 1048576 := by have := Nat.mod_lt tt hSN; omega
    obtain ⟨bA, hA⟩ : ∃ b, decide ((1 : Int) ≤ v) = b := ⟨_, rfl⟩
    obtain ⟨bB, hB⟩ : ∃ b, decide (v ≤ (c.f1.length : Int)) = b := ⟨_, rfl⟩
    obtain ⟨bC, hC⟩ : ∃ b, decide ((tt : Int) < (S : Int)) = b := ⟨_, rfl⟩
    obtain ⟨bD, hD⟩ : ∃ b, decide (v ≤ c.f0.f0) = b := ⟨_, rfl⟩
    have hC2 : decide (tt < S) = bC := by rw [← hC]; simp
    have KAL : Aside0 ((bA && bB || !false && bC && bD && bA) = false → (CL.all fun cl => cl.any (litTrue (turnM M tt))) = false) := ⟨fun h => by
      rw [← HCLE.out, ← HME.out]
      refine only_law HOK.out HSL.out (by omega) false HSF.out (by rw [← HML.out]; exact ht1) (fun h3 => ?_) (fun h4 h5 => ?_)
      · rw [HHS.out] at h3
        have e1 : bA = true := by rw [← hA]; exact decide_eq_true (by omega)
        have e2 : bB = true := by rw [← hB]; exact decide_eq_true (by omega)
        rw [e1, e2] at h; cases h
      · rw [HHS.out] at h5
        have e1 : bA = true := by rw [← hA]; exact decide_eq_true (by omega)
        have e2 : bC = true := by rw [← hC]; exact decide_eq_true (by omega)
        have e3 : bD = true := by rw [← hD]; exact decide_eq_true (by rw [← hv]; exact h5.2.1)
        rw [e1, e2, e3] at h
        cases bB <;> simp at h h4⟩
    have HDA := am hA
    have HDB := am hB
    have HDC := am hC
    have HDD := am hD
    have HDC2 := am hC2
    obtain ⟨r4, hr4⟩ : ∃ z, (CL.all fun cl => cl.any (litTrue (turnM M tt))) = z := ⟨_, rfl⟩
    rw [hr4] at KAL
    have KMT : Aside0 (∀ W BC cc A q, kR.C W BC CL.length CL → CL.length ≤ cc → Kd.bool.C W A (turnM M tt).length (turnM M tt) → Calls Try.prog 34 #[.slice BC CL.length cc, .slice A M.length q] W (fun e w' => e = .returned (.bool r4) ∧ Below W.heap.size W w')) := ⟨fun W BC cc A q hC hcc hT => by
      have := met_any BC cc CL A q (turnM M tt) W hC hcc hT
      rw [hr4, turnM_len] at this
      exact this⟩
    clear htt hk0 hv hA hB hC hD hC2 hr4
    have k0 := H0.out
    have k1 := H1.out
    have q0 : (0 : Int) ≤ (tt : Int) := by omega
    have q1 : (tt : Int) < (M.length : Int) := by omega
    go_upto_region 20 with (first
      | (go_at_call 33; refine (KVS.out _).mono ?_; rintro e w1_ ⟨rfl, hb⟩; replace HL := am (HL.out.step hb); clear k0 k1 hb)
      | (go_at_call 19; refine (KV.out _ HL.out.below).mono ?_; rintro e w1_ ⟨rfl, hb⟩; replace HL := am (HL.out.step hb); clear hb)
      | ((with_reducible refine zg 76 rfl ?_); refine zguard ?_; refine zval 76 (.int .i64 (M.length : Int)) ?_ (hrun := by go_simp; first | exact HEQ.out | (rw [HEQ.out, i64_w]; exact wrap_small (by omega) (by omega))))
      | ((with_reducible refine zg 107 rfl ?_); refine zval 107 (.int .i64 (tt : Int)) ?_ (hrun := by go_simp; rw [if_neg (by intro hx; rw [hx] at hm0; simp at hm0), HTT.out]))
      | ((with_reducible refine zg 110 rfl ?_); refine zval 110 (.int .i64 v) ?_ (hrun := by go_simp; rw [if_neg (by omega), HVV.out]))
      | ((with_reducible refine zg 111 rfl ?_); refine zl0 Kd.bool 111 4 HL ?_; intro v111 w3_ HR HL3 hb; clear HL hb)
      | ((with_reducible refine zg 113 rfl ?_); refine zapsB (.tmp 111) (.tmp 112) HL3 HR (Kd.C_below HCM.out HL3.out.below) Try.underlying36 info4 (by simp only [List.length_nil]; omega) ?_; intro v113 w4_ HR4 HL4 hg hat; clear HR HL3 hg hat; have hR4 := HR4.out; rw [List.nil_append] at hR4; replace HR4 := am hR4; clear hR4; obtain ⟨gT, qT, hvT⟩ := rowform HR4.out hm0; subst hvT; obtain ⟨ad, e, hp⟩ := atB (Kd.R_reads' HR4.out).2.2 tt ht1; cases e; rw [add_zero_addr] at hp; obtain ⟨b, hb⟩ : ∃ b, M.getD tt false = b := ⟨_, rfl⟩; have hbb : M[tt] = b := (by rw [← hb, List.getD_eq_getElem?_getD, List.getElem?_eq_getElem ht1]; rfl); rw [hbb] at hp; have HBB := am hb; clear hb hbb)
      | ((with_reducible refine zst 4 (.tmp 121) (.tmp 120) rfl ?_); refine zsetB (.tmp 121) (.tmp 120) tt (!b) HL4 HR4 ht1 ?_ info4s; intro w5_ HR5 HL5 hg; clear hg HR4 HL4 hp))
    have q20 := pw_cell_below HL5.out.below H0.out
    have q22 := pw_cell_below HL5.out.below H2.out
    have hTl := turnM_len M tt
    have HRT : Aside0 (Kd.bool.C w5_ (some ⟨gT, 0, none⟩) (turnM M tt).length (turnM M tt)) := ⟨by
      have := (Kd.R_reads' HR5.out).2.2
      rw [← HBB.out] at this
      exact this⟩
    have dA := HDA.out
    have dB := HDB.out
    have dC := HDC.out
    have dD := HDD.out
    have dC2 : (tt < S) ↔ (bC = true) := by rw [← HDC2.out, decide_eq_true_iff]
    clear hTl HR5 HDA HDB HDC HDC2 HDD
    have HL := HL5
    clear HL5
    cases bA <;> cases bB <;> cases bC <;> cases bD <;>
      ((first | (have e4 : r4 = false := KAL.out rfl; subst e4) | skip)
       clear KAL
       simp only [Bool.false_eq_true, iff_false, iff_true] at dC2
       go_wp2_with (first
         | (go_at_call 17; refine (KCL.out _ HL.out.below).mono ?_; rintro e w1_ ⟨v, rfl, hr, _, hb⟩; obtain ⟨BC, nC, rfl⟩ := Kd.R_slice hr; replace HL := am (HL.out.step hb); replace HRT := am (Kd.C_below HRT.out hb); have HRC := am hr; clear hr hb)
         | (go_at_call 34; have hC := rowC HRC.out; have hcc := (Kd.R_reads' HRC.out).2.1; (with_reducible refine (KMT.out _ _ _ _ _ hC hcc HRT.out).mono ?_); rintro e w1_ ⟨rfl, hb⟩; replace HL := am (HL.out.step hb); clear hb hC hcc HRC))
       all_goals go_ret
       all_goals exact ⟨_, rfl, rfl, below_step HWM.out HL.out.below⟩)
set_option maxHeartbeats 64000000 in
set_option maxRecDepth 100000 in
theorem only_true (n : S27) (cs : List Value) (m : Int) (av : List Bool) (AA : Option Addr) (ca : Nat) (rows : List (List Bool)) (AR : Option Addr) (cr : Nat) (w : World) (h : k27.K w n cs) (h0 : 0 ≤ m) (h1 : m ≤ 255) (ha : Kd.bool.C w AA av.length av) (hr : kB.C w AR rows.length rows) (at_ : Int) (hat0 : 0 ≤ at_) (hat1 : at_ ≤ 65535) :
    Calls Try.prog 6 #[.agg cs.toArray, .int .u8 m, .bool true, .slice AA av.length ca, .slice AR rows.length cr, .int .u16 at_] w (RetB (fun b => b = true) w) := by
  have KG := am (fun W (hb : Below w.heap.size w W) => great_any n cs W (k27.K_below hb h))
  have KC := am (fun W (hb : Below w.heap.size w W) (ok : NetOk n) => compile_any n cs W (k27.K_below hb h) ok)
  obtain ⟨k, hk⟩ : ∃ k : Nat, m % 5 = (k : Int) := ⟨(m % 5).toNat, by omega⟩
  have hk4 : k ≤ 4 := by omega
  have KM : Aside0 (∀ W, Calls Try.prog 14 #[.int .u8 m] W (fun e w' => e = .returned (.int .i64 (k : Int)) ∧ w' = W)) := ⟨fun W => by have := some_any m W h0 h1; rw [hk] at this; exact this⟩
  obtain ⟨A0, c0, A1, c1, A2, c2, A3, c3, A4, c4, rfl, _⟩ := k27_open h
  have HL : Aside0 (Led [] w w) := ⟨Led.nil w⟩
  have hu27 := Try.underlying27
  have hu35 := Try.underlying35
  have HAV := am ha
  have HRW := am hr
  clear h hk ha hr
  go_enter Try.func6, Try.ntmps6
  go_upto_region 11 with (first
    | ((with_reducible refine zg 6 rfl ?_); refine zx 6 [.slice A0 n.f0.length c0, .slice A1 n.f1.length c1, .slice A2 n.f2.length c2, .slice A3 n.f3.length c3, .slice A4 n.f4.length c4] 27 HL ?_; clear HL; intro g2 w1_ HL hb; clear hb)
    | (go_at_call 9; refine (head_any _).mono ?_; rintro e w1_ ⟨r, rfl, rfl, hb⟩; replace HL := am (HL.out.step hb); clear hb)
    | ((with_reducible refine zg 26 rfl ?_); refine zl 0 27 (.tmp 6) HL hu27 ?_)
    | (go_at_call 10; refine (KG.out _ HL.out.below).mono ?_; rintro e w1_ ⟨r, rfl, hr, hb⟩; have HR1 := am hr; replace HL := am (HL.out.step hb); clear hr hb; cases r)
    | ((with_reducible refine zg 29 rfl ?_); refine zl 0 27 (.tmp 6) HL hu27 ?_)
    | (go_at_call 11; refine (KC.out _ HL.out.below (HR1.out (by first | rfl | trivial))).mono ?_; rintro e wc ⟨c, cs2, rfl, hk, hok, hb⟩; obtain ⟨B1, d1, B2, d2, B3, d3, B4, d4, rfl, _⟩ := k35_open hk; have HK := am hk; have HOK := am hok; have HB0 := am (HL.out.step hb).below; clear HL; have HL : Aside0 (Led [] wc wc) := ⟨Led.nil wc⟩; obtain ⟨hz0, hz1, hl1, hl2⟩ := hok.fit; have hi0 := hok.i0; have hi1 := hok.i1; have hl0 := hok.len; have hl3 := hok.lout; clear hk hok hb HR1)
    | ((with_reducible refine zg 14 rfl ?_); refine zx 14 [.int .i64 0, .slice none 0 0, .slice none 0 0, .slice none 0 0, .slice none 0 0] 35 HL ?_; clear HL; intro g6 w1_ HL hb; clear hb)
    | ((with_reducible refine zst 35 (.tmp 14) (.tmp 30) rfl ?_); refine zs 0 0 35 (.tmp 14) (.tmp 30) [.int .i64 c.f0.f0, .slice B1 c.f0.f1.length d1, .slice B2 c.f1.length d2, .slice B3 c.f2.length d3, .slice B4 c.f3.length d4] HL ?_; intro w1_ HLn hfar; replace HL := HLn; clear HLn hfar)
    | (go_at_call 14; refine (KM.out _).mono ?_; rintro e w1_ ⟨rfl, rfl⟩)
    | ((with_reducible refine zg 33 rfl ?_); refine zl 0 35 (.tmp 14) HL hu35 ?_)
    | (go_at_call 13; refine (new_any c _ k true _ (k35.K_below HL.out.below HK.out) hi0 (by omega) (by omega)).mono ?_; rintro e wz ⟨g8, rfl, _, hF, hb⟩; replace HL := am (HL.out.step hb); have HF := am hF; clear hF hb; have k3 : wz.cell? ⟨g6, 3, none⟩ = some (.slice B3 c.f2.length d3) := blk_cell (HL.out.get 0 rfl) 3)
    | (go_at_call 30; refine (bitsB_any av AA ca c.f2.length _ (Kd.C_below HAV.out (below_step HB0.out HL.out.below)) (by omega)).mono ?_; rintro e wb ⟨v40, rfl, hr40, hb⟩; obtain ⟨s, hs⟩ : ∃ z, bitsL av c.f2.length = z := ⟨_, rfl⟩; rw [hs] at hr40; obtain ⟨A15, c15, rfl⟩ := Kd.R_slice hr40; have HS := am (Kd.R_reads' hr40).2.2; have HSL : Aside0 (s.length = c.f2.length) := ⟨by rw [← hs]; exact bitsL_len _ _⟩; replace HL := am (HL.out.step hb); replace HF := am (HF.out.below hb); clear hs hr40 hb k3))
  rotate_left
  · go_ret
    exact ⟨_, rfl, rfl, HL.out.below⟩
  clear HS HSL
  have HFI := am (fun W (hb : Below wc.heap.size wc W) => first_any c _ W (k35.K_below hb HK.out) (by omega))
  have j0 : wb.cell? ⟨g6, 0, none⟩ = some (.int .i64 c.f0.f0) := blk_cell (HL.out.get 0 rfl) 0
  have j1 : wb.cell? ⟨g6, 1, none⟩ = some (.slice B1 c.f0.f1.length d1) := blk_cell (HL.out.get 0 rfl) 1
  have j2 : wb.cell? ⟨g6, 2, none⟩ = some (.slice B2 c.f1.length d2) := blk_cell (HL.out.get 0 rfl) 2
  have j3 : wb.cell? ⟨g6, 3, none⟩ = some (.slice B3 c.f2.length d3) := blk_cell (HL.out.get 0 rfl) 3
  have j4 : wb.cell? ⟨g6, 4, none⟩ = some (.slice B4 c.f3.length d4) := blk_cell (HL.out.get 0 rfl) 4
  have hbd : Below wb.heap.size wb wb.drew := below_drew (Below.refl _ _)
  have HLd := am (HL.out.step hbd)
  refine start_ (n := 7) (S := fun W => (W.cell? ⟨g6, 0, none⟩ = some (.int .i64 c.f0.f0) ∧ W.cell? ⟨g6, 1, none⟩ = some (.slice B1 c.f0.f1.length d1) ∧ W.cell? ⟨g6, 2, none⟩ = some (.slice B2 c.f1.length d2) ∧ W.cell? ⟨g6, 3, none⟩ = some (.slice B3 c.f2.length d3) ∧ W.cell? ⟨g6, 4, none⟩ = some (.slice B4 c.f3.length d4)) ∧ Aside0 (Below wb.heap.size wb W)) (ds := []) #[false, false, false, false, false, false, false] (by kernel_rfl) rfl rfl ⟨⟨pw_cell_below hbd j0, pw_cell_below hbd j1, pw_cell_below hbd j2, pw_cell_below hbd j3, pw_cell_below hbd j4⟩, ⟨hbd⟩⟩ (fun hHeld => ?_)
  refine tk 0 45 hHeld ?_
  refine pu 2 47 ?_
  refine tk 3 48 hHeld ?_
  refine pu 4 49 ?_
  refine clE 1 46 31 Try.func31 (fun v w' => Rb w' wb.drew.heap.size v (c.f2.map S84.f2) ∧ Below wb.drew.heap.size wb.drew w') ((HFI.out _ HLd.out.below).mono (fun e w' h => h)) (fun v we hr => ⟨⟨pw_cell_below (below_step hbd hr.2) j0, pw_cell_below (below_step hbd hr.2) j1, pw_cell_below (below_step hbd hr.2) j2, pw_cell_below (below_step hbd hr.2) j3, pw_cell_below (below_step hbd hr.2) j4⟩, ⟨below_step hbd hr.2⟩⟩) ?_
  rintro v43 w2_ ⟨hr43, hb43⟩ hHeld2
  obtain ⟨fi, hfi⟩ : ∃ z, c.f2.map S84.f2 = z := ⟨_, rfl⟩
  rw [hfi] at hr43
  have hfl : fi.length = c.f2.length := by rw [← hfi, List.length_map]
  obtain ⟨A43, c43, rfl⟩ := Kd.R_slice hr43
  refine norm_ (a' := ?_) ?_ ?_
  rotate_left
  · simp only [Act.put, List.setIfInBounds_toArray, List.set_cons_zero, List.set_cons_succ]; rfl
  refine clE 5 50 30 Try.func30 (fun v w' => Rb w' w2_.heap.size v (bitsL fi c.f2.length) ∧ Below w2_.heap.size w2_ w') ((bitsB_any fi A43 c43 c.f2.length _ (Kd.R_reads' hr43).2.2 (by omega)).mono (fun e w' h => h)) (fun v we hr => ⟨⟨pw_cell_below hr.2 hHeld2.1.1, pw_cell_below hr.2 hHeld2.1.2.1, pw_cell_below hr.2 hHeld2.1.2.2.1, pw_cell_below hr.2 hHeld2.1.2.2.2.1, pw_cell_below hr.2 hHeld2.1.2.2.2.2⟩, ⟨below_step hHeld2.2.out hr.2⟩⟩) ?_
  rintro v47 wq ⟨hr47, hb47⟩ hHeld3
  obtain ⟨s_, hs_⟩ : ∃ z, bitsL fi c.f2.length = z := ⟨_, rfl⟩
  rw [hs_] at hr47
  obtain ⟨A47, c47, rfl⟩ := Kd.R_slice hr47
  have hbq : Below wb.heap.size wb wq := hHeld3.2.out
  have HS := am (Kd.R_reads' hr47).2.2
  have HSL : Aside0 (s_.length = c.f2.length) := ⟨by rw [← hs_]; exact bitsL_len _ _⟩
  have HSF : Aside0 (s_ = c.f2.map S84.f2) := ⟨by rw [← hs_, hfi]; exact bitsL_self (by rw [hfl])⟩
  refine norm_ (a' := ?_) ?_ ?_
  rotate_left
  · simp only [Act.put, List.setIfInBounds_toArray, List.set_cons_zero, List.set_cons_succ]; rfl
  refine pu 6 17 ?_
  refine done_ (by kernel_rfl) ?_
  replace HL := am (HL.out.step hbq)
  replace HF := am (HF.out.below hbq)
  clear j0 j1 j2 j3 j4 hbd HLd hHeld hHeld2 hHeld3 hr43 hb43 hfi hfl hr47 hb47 hs_ hbq HFI
  have KMO : Aside0 (∀ W, Below wc.heap.size wc W → Kd.bool.C W A47 s_.length s_ → Calls Try.prog 32 #[.agg #[.int .i64 c.f0.f0, .slice B1 c.f0.f1.length d1, .slice B2 c.f1.length d2, .slice B3 c.f2.length d3, .slice B4 c.f3.length d4], .slice A47 s_.length c47, .slice AR rows.length cr, .int .i64 (k : Int)] W (RetModel c s_ rows k W)) := ⟨fun W hb hC => model_any c _ s_ A47 c47 rows AR cr k W (k35.K_below hb HK.out) HOK.out hC (Kd.C_below HRW.out (below_step HB0.out hb)) HSL.out (by omega)⟩
  go_upto_region 13 with (first
    | ((with_reducible refine zg 52 rfl ?_); refine zl 0 35 (.tmp 14) HL hu35 ?_)
    | (go_at_call 32; refine (KMO.out _ HL.out.below HS.out).mono ?_; rintro e wM ⟨v1, v2, rfl, hr1, hr2, hb⟩; obtain ⟨M, hM⟩ : ∃ z, outL c s_ rows k = z := ⟨_, rfl⟩; obtain ⟨U, hU⟩ : ∃ z, outsL c s_ rows k = z := ⟨_, rfl⟩; rw [hM] at hr1; rw [hU] at hr2; obtain ⟨A16, c16, rfl⟩ := Kd.R_slice hr1; obtain ⟨A17, c17, rfl⟩ := Kd.R_slice hr2; have HCM := am (Kd.R_reads' hr1).2.2; have HCU := am (Kd.R_reads' hr2).2.2; have HMc : M.length ≤ c16 := (Kd.R_reads' hr1).2.1; have HME := am hM; have HUE := am hU; replace HL := am (HL.out.step hb); replace HF := am (HF.out.below hb); clear hr1 hr2 hb hM hU KMO HS))
  have HWM : Aside0 (Below w.heap.size w wM) := ⟨below_step HB0.out HL.out.below⟩
  have hML : M.length = k * szN c := by rw [← HME.out]; exact outL_len HSL.out k
  have HSZ := HOK.out.szN
  have hsz1 : szN c ≤ 259201 := by have h2 := HOK.out.i1; have h3 := HOK.out.len; have h4 := HOK.out.ins; unfold szN; omega
  have hML2 : M.length ≤ 1048576 := by
    rw [hML]
    have h2 : k * szN c ≤ 4 * szN c := Nat.mul_le_mul_right _ hk4
    omega
  have KV : Aside0 (∀ W, Below wM.heap.size wM W → Calls Try.prog 19 #[.pointer (some ⟨g8, 0, none⟩)] W (RetV (.int .i64 (M.length : Int)) W)) := ⟨fun W hb => by
    have := fvars_any c g8 k true W (HF.out.below hb) (by omega) hz0 (by omega)
    rw [HSZ, ← Int.natCast_mul, ← hML] at this
    exact this⟩
  have KCL : Aside0 (∀ W, Below wM.heap.size wM W → Calls Try.prog 17 #[.pointer (some ⟨g8, 0, none⟩)] W (RetLs (framesC c true k) W)) := ⟨fun W hb => frames_any c g8 k true W (HF.out.below hb) HOK.out.ok hi0 (by omega) (by omega) HOK.out.lat (by omega) (by omega)⟩
  obtain ⟨CL, hCL⟩ : ∃ z, framesC c true k = z := ⟨_, rfl⟩
  have hcl1 : CL.length ≤ 100000000 := by rw [← hCL]; exact framesC_small' HOK.out k hk4
  rw [hCL] at KCL
  have H2 : Aside0 (wM.cell? ⟨g6, 2, none⟩ = some (.slice B2 c.f1.length d2)) := ⟨blk_cell (HL.out.get 0 rfl) 2⟩
  have H0 : Aside0 (wM.cell? ⟨g6, 0, none⟩ = some (.int .i64 c.f0.f0)) := ⟨blk_cell (HL.out.get 0 rfl) 0⟩
  have H1 : Aside0 (wM.cell? ⟨g6, 1, none⟩ = some (.slice B1 c.f0.f1.length d1)) := ⟨blk_cell (HL.out.get 0 rfl) 1⟩
  have HCLE := am hCL
  have HML := am hML
  have hmm : M.length ≤ 9223372036854775807 := HCM.out.2.1
  have hS1 : (1 : Int) ≤ (szN c : Int) := by unfold szN; omega
  have hSN : 0 < szN c := by unfold szN; omega
  have HEQ : Aside0 ((k : Int) * (szN c : Int) = (M.length : Int)) := ⟨by rw [hML]; simp⟩
  have KVS : Aside0 (∀ W, Calls Try.prog 33 #[.agg #[.int .i64 c.f0.f0, .slice B1 c.f0.f1.length d1]] W (RetV (.int .i64 (szN c : Int)) W)) := ⟨fun W => (vars_any c.f0.f0 B1 c.f0.f1.length d1 W hi0 (by omega) (by omega)).mono (fun e w' ⟨r, he, hr, hb⟩ => ⟨by rw [he, hr, ← HSZ]; rfl, hb⟩)⟩
  obtain ⟨S, hS⟩ : ∃ S, szN c = S := ⟨_, rfl⟩
  rw [hS] at HEQ KVS hS1 hSN hsz1
  have HHS := am hS
  have eS : decide ((S : Int) < 1) = false := decide_eq_false (by omega)
  clear hCL KG KC KM HL HB0 HF hML HSZ hS
  have HL : Aside0 (Led [] wM wM) := ⟨Led.nil _⟩
  rcases Nat.eq_zero_or_pos k with hk0 | hk0
  · have e81 : ((k : Int) == 0) = true := by rw [beq_iff_eq]; omega
    have hm0 : M.length ≤ 0 := by rw [HML.out, hk0]; simp
    have k0 := H0.out
    have k1 := H1.out
    clear hk0
    go_wp2_with (first
      | (go_at_call 33; refine (KVS.out _).mono ?_; rintro e w1_ ⟨rfl, hb⟩; replace HL := am (HL.out.step hb); clear k0 k1 hb)
      | (go_at_call 19; refine (KV.out _ HL.out.below).mono ?_; rintro e w1_ ⟨rfl, hb⟩; replace HL := am (HL.out.step hb); clear hb)
      | ((with_reducible refine zg 76 rfl ?_); refine zguard ?_; refine zval 76 (.int .i64 (M.length : Int)) ?_ (hrun := by go_simp; first | exact HEQ.out | (rw [HEQ.out, i64_w]; exact wrap_small (by omega) (by omega))))
      | ((with_reducible refine zg 100 rfl ?_); refine zguard ?_; refine zval 100 (.int .i64 (M.length : Int)) ?_ (hrun := by go_simp; first | exact HEQ.out | (rw [HEQ.out, i64_w]; exact wrap_small (by omega) (by omega)))))
    go_ret
    exact ⟨_, rfl, rfl, below_step HWM.out HL.out.below⟩
  · have e81 : ((k : Int) == 0) = false := by rw [beq_eq_false_iff_ne]; omega
    have hm0 : 0 < M.length := by rw [HML.out]; exact Nat.mul_pos hk0 (by rw [HHS.out]; exact hSN)
    have hm1 : (0 : Int) < (M.length : Int) := by omega
    obtain ⟨tt, htt⟩ : ∃ tt : Nat, at_ % (M.length : Int) = (tt : Int) := ⟨(at_ % (M.length : Int)).toNat, by have := Int.emod_nonneg at_ (show (M.length : Int) ≠ 0 by omega); omega⟩
    have ht1 : tt < M.length := by have := Int.emod_lt_of_pos at_ hm1; omega
    have HTT : Aside0 (at_.tmod (M.length : Int) = (tt : Int)) := ⟨by rw [Int.tmod_eq_emod_of_nonneg hat0]; exact htt⟩
    obtain ⟨v, hv⟩ : ∃ v : Int, ((tt % S : Nat) : Int) = v := ⟨_, rfl⟩
    have HVV : Aside0 ((tt : Int).tmod (S : Int) = v) := ⟨by rw [Int.tmod_eq_emod_of_nonneg (by omega), ← hv]; simp⟩
    have hv0 : 0 ≤ v := by omega
    have hv1 : v ≤ 1048576 := by have := Nat.mod_lt tt hSN; omega
    obtain ⟨bA, hA⟩ : ∃ b, decide ((1 : Int) ≤ v) = b := ⟨_, rfl⟩
    obtain ⟨bB, hB⟩ : ∃ b, decide (v ≤ (c.f1.length : Int)) = b := ⟨_, rfl⟩
    obtain ⟨bC, hC⟩ : ∃ b, decide ((tt : Int) < (S : Int)) = b := ⟨_, rfl⟩
    obtain ⟨bD, hD⟩ : ∃ b, decide (v ≤ c.f0.f0) = b := ⟨_, rfl⟩
    have hC2 : decide (tt < S) = bC := by rw [← hC]; simp
    have KAL : Aside0 ((bA && bB || !true && bC && bD && bA) = false → (CL.all fun cl => cl.any (litTrue (turnM M tt))) = false) := ⟨fun h => by
      rw [← HCLE.out, ← HME.out]
      refine only_law HOK.out HSL.out (by omega) true (fun _ => HSF.out) (by rw [← HML.out]; exact ht1) (fun h3 => ?_) (fun h4 h5 => ?_)
      · rw [HHS.out] at h3
        have e1 : bA = true := by rw [← hA]; exact decide_eq_true (by omega)
        have e2 : bB = true := by rw [← hB]; exact decide_eq_true (by omega)
        rw [e1, e2] at h; cases h
      · rw [HHS.out] at h5
        have e1 : bA = true := by rw [← hA]; exact decide_eq_true (by omega)
        have e2 : bC = true := by rw [← hC]; exact decide_eq_true (by omega)
        have e3 : bD = true := by rw [← hD]; exact decide_eq_true (by rw [← hv]; exact h5.2.1)
        rw [e1, e2, e3] at h
        cases bB <;> simp at h h4⟩
    have HDA := am hA
    have HDB := am hB
    have HDC := am hC
    have HDD := am hD
    have HDC2 := am hC2
    obtain ⟨r4, hr4⟩ : ∃ z, (CL.all fun cl => cl.any (litTrue (turnM M tt))) = z := ⟨_, rfl⟩
    rw [hr4] at KAL
    have KMT : Aside0 (∀ W BC cc A q, kR.C W BC CL.length CL → CL.length ≤ cc → Kd.bool.C W A (turnM M tt).length (turnM M tt) → Calls Try.prog 34 #[.slice BC CL.length cc, .slice A M.length q] W (fun e w' => e = .returned (.bool r4) ∧ Below W.heap.size W w')) := ⟨fun W BC cc A q hC hcc hT => by
      have := met_any BC cc CL A q (turnM M tt) W hC hcc hT
      rw [hr4, turnM_len] at this
      exact this⟩
    clear htt hk0 hv hA hB hC hD hC2 hr4
    have k0 := H0.out
    have k1 := H1.out
    have q0 : (0 : Int) ≤ (tt : Int) := by omega
    have q1 : (tt : Int) < (M.length : Int) := by omega
    go_upto_region 20 with (first
      | (go_at_call 33; refine (KVS.out _).mono ?_; rintro e w1_ ⟨rfl, hb⟩; replace HL := am (HL.out.step hb); clear k0 k1 hb)
      | (go_at_call 19; refine (KV.out _ HL.out.below).mono ?_; rintro e w1_ ⟨rfl, hb⟩; replace HL := am (HL.out.step hb); clear hb)
      | ((with_reducible refine zg 76 rfl ?_); refine zguard ?_; refine zval 76 (.int .i64 (M.length : Int)) ?_ (hrun := by go_simp; first | exact HEQ.out | (rw [HEQ.out, i64_w]; exact wrap_small (by omega) (by omega))))
      | ((with_reducible refine zg 107 rfl ?_); refine zval 107 (.int .i64 (tt : Int)) ?_ (hrun := by go_simp; rw [if_neg (by intro hx; rw [hx] at hm0; simp at hm0), HTT.out]))
      | ((with_reducible refine zg 110 rfl ?_); refine zval 110 (.int .i64 v) ?_ (hrun := by go_simp; rw [if_neg (by omega), HVV.out]))
      | ((with_reducible refine zg 111 rfl ?_); refine zl0 Kd.bool 111 4 HL ?_; intro v111 w3_ HR HL3 hb; clear HL hb)
      | ((with_reducible refine zg 113 rfl ?_); refine zapsB (.tmp 111) (.tmp 112) HL3 HR (Kd.C_below HCM.out HL3.out.below) Try.underlying36 info4 (by simp only [List.length_nil]; omega) ?_; intro v113 w4_ HR4 HL4 hg hat; clear HR HL3 hg hat; have hR4 := HR4.out; rw [List.nil_append] at hR4; replace HR4 := am hR4; clear hR4; obtain ⟨gT, qT, hvT⟩ := rowform HR4.out hm0; subst hvT; obtain ⟨ad, e, hp⟩ := atB (Kd.R_reads' HR4.out).2.2 tt ht1; cases e; rw [add_zero_addr] at hp; obtain ⟨b, hb⟩ : ∃ b, M.getD tt false = b := ⟨_, rfl⟩; have hbb : M[tt] = b := (by rw [← hb, List.getD_eq_getElem?_getD, List.getElem?_eq_getElem ht1]; rfl); rw [hbb] at hp; have HBB := am hb; clear hb hbb)
      | ((with_reducible refine zst 4 (.tmp 121) (.tmp 120) rfl ?_); refine zsetB (.tmp 121) (.tmp 120) tt (!b) HL4 HR4 ht1 ?_ info4s; intro w5_ HR5 HL5 hg; clear hg HR4 HL4 hp))
    have q20 := pw_cell_below HL5.out.below H0.out
    have q22 := pw_cell_below HL5.out.below H2.out
    have hTl := turnM_len M tt
    have HRT : Aside0 (Kd.bool.C w5_ (some ⟨gT, 0, none⟩) (turnM M tt).length (turnM M tt)) := ⟨by
      have := (Kd.R_reads' HR5.out).2.2
      rw [← HBB.out] at this
      exact this⟩
    have dA := HDA.out
    have dB := HDB.out
    have dC := HDC.out
    have dD := HDD.out
    have dC2 : (tt < S) ↔ (bC = true) := by rw [← HDC2.out, decide_eq_true_iff]
    clear hTl HR5 HDA HDB HDC HDC2 HDD
    have HL := HL5
    clear HL5
    cases bA <;> cases bB <;> cases bC <;> cases bD <;>
      ((first | (have e4 : r4 = false := KAL.out rfl; subst e4) | skip)
       clear KAL
       simp only [Bool.false_eq_true, iff_false, iff_true] at dC2
       go_wp2_with (first
         | (go_at_call 17; refine (KCL.out _ HL.out.below).mono ?_; rintro e w1_ ⟨v, rfl, hr, _, hb⟩; obtain ⟨BC, nC, rfl⟩ := Kd.R_slice hr; replace HL := am (HL.out.step hb); replace HRT := am (Kd.C_below HRT.out hb); have HRC := am hr; clear hr hb)
         | (go_at_call 34; have hC := rowC HRC.out; have hcc := (Kd.R_reads' HRC.out).2.1; (with_reducible refine (KMT.out _ _ _ _ _ hC hcc HRT.out).mono ?_); rintro e w1_ ⟨rfl, hb⟩; replace HL := am (HL.out.step hb); clear hb hC hcc HRC))
       all_goals go_ret
       all_goals exact ⟨_, rfl, rfl, below_step HWM.out HL.out.below⟩)
theorem only_any (n : S27) (cs : List Value) (m : Int) (fs : Bool) (av : List Bool) (AA : Option Addr) (ca : Nat) (rows : List (List Bool)) (AR : Option Addr) (cr : Nat) (at_ : Int) (w : World) (h : k27.K w n cs) (h0 : 0 ≤ m) (h1 : m ≤ 255) (ha : Kd.bool.C w AA av.length av) (hr : kB.C w AR rows.length rows) (hat0 : 0 ≤ at_) (hat1 : at_ ≤ 65535) :
    Calls Try.prog 6 #[.agg cs.toArray, .int .u8 m, .bool fs, .slice AA av.length ca, .slice AR rows.length cr, .int .u16 at_] w (RetB (fun b => b = true) w) := by
  cases fs
  · exact only_false n cs m av AA ca rows AR cr w h h0 h1 ha hr at_ hat0 hat1
  · exact only_true n cs m av AA ca rows AR cr w h h0 h1 ha hr at_ hat0 hat1
end Go.Proofs.Yteilkojmefipcaa.U
