/- Unroll: the walk of Runs. -/
import Derived.Test.YteilkojmefipcaaR02
namespace Go.Proofs.Yteilkojmefipcaa.U
open Go.RowKit Go.Proofs.YteilkojmefipcaaW.PrintWords Go.Proofs.YteilkojmefipcaaW.PrintLast
set_option linter.unusedVariables false
set_option linter.unusedSimpArgs false
theorem bitsL_self {l : List Bool} {n : Nat} (h : l.length = n) : bitsL l n = l := by
  subst h
  refine List.ext_getElem (bitsL_len _ _) (fun i h1 h2 => ?_)
  unfold bitsL
  simp [List.getD_eq_getElem?_getD, h2]
theorem framesC_small' {c : S35} {fs : Bool} (h : CircOk c) (k : Nat) (hk : k ≤ 4) : (framesC c fs k).length ≤ 100000000 := by
  have h1 := frames_len c fs k
  have h2 : k * (1 + 3 * c.f0.f1.length + 2 * c.f2.length) ≤ 4 * (1 + 3 * c.f0.f1.length + 2 * c.f2.length) := Nat.mul_le_mul_right _ hk
  have h3 := h.fit
  have h4 := h.len
  omega
theorem one_met (x : Int) (A1 : Option Addr) (c1 : Nat) (M : List Bool) (W : World) (hM : Kd.bool.C W A1 M.length M) (A : Option Addr) (hC : kR.C W A 1 [[x]]) :
    Calls Try.prog 34 #[.slice A 1 1, .slice A1 M.length c1] W (fun e w' => e = .returned (.bool (litTrue M x)) ∧ Below W.heap.size W w') := by
  have h := met_any A 1 [[x]] A1 c1 M W hC (Nat.le_refl _) hM
  have e : ([[x]].all fun c => c.any (litTrue M)) = litTrue M x := by simp
  rw [e] at h
  exact h
theorem hc_outs {c : S35} (h : CircOk c) {j : Nat} (hj : j < c.f3.length) : 0 ≤ c.f3[j].f1 ∧ c.f3[j].f1 < 2 * (szN c : Int) := by
  obtain ⟨h1, h2⟩ := h.outs j hj
  have h3 := h.szN
  unfold sizeOf at h3
  exact ⟨h1, by omega⟩
set_option maxHeartbeats 64000000 in
set_option maxRecDepth 100000 in
theorem runs_false (n : S27) (cs : List Value) (m : Int) (av : List Bool) (AA : Option Addr) (ca : Nat) (rows : List (List Bool)) (AR : Option Addr) (cr : Nat) (w : World) (h : k27.K w n cs) (h0 : 0 ≤ m) (h1 : m ≤ 255) (ha : Kd.bool.C w AA av.length av) (hr : kB.C w AR rows.length rows) :
    Calls Try.prog 7 #[.agg cs.toArray, .int .u8 m, .bool false, .slice AA av.length ca, .slice AR rows.length cr] w (RetB (fun b => b = true) w) := by
  have KG := am (fun W (hb : Below w.heap.size w W) => great_any n cs W (k27.K_below hb h))
  have KC := am (fun W (hb : Below w.heap.size w W) (ok : NetOk n) => compile_any n cs W (k27.K_below hb h) ok)
  obtain ⟨k, hk⟩ : ∃ k : Nat, m % 5 = (k : Int) := ⟨(m % 5).toNat, by omega⟩
  have hk4 : k ≤ 4 := by omega
  have KM : Aside0 (∀ W, Calls Try.prog 14 #[.int .u8 m] W (fun e w' => e = .returned (.int .i64 (k : Int)) ∧ w' = W)) := ⟨fun W => by have := some_any m W h0 h1; rw [hk] at this; exact this⟩
  obtain ⟨A0, c0, A1, c1, A2, c2, A3, c3, A4, c4, rfl, _⟩ := k27_open h
  have HL : Aside0 (Led [] w w) := ⟨Led.nil w⟩
  have hu27 := Try.underlying27
  have hu35 := Try.underlying35
  have HAV := am ha
  have HRW := am hr
  clear h hk ha hr
  go_enter Try.func7, Try.ntmps7
  go_upto_region 12 with (first
    | ((with_reducible refine zg 5 rfl ?_); refine zx 5 [.slice A0 n.f0.length c0, .slice A1 n.f1.length c1, .slice A2 n.f2.length c2, .slice A3 n.f3.length c3, .slice A4 n.f4.length c4] 27 HL ?_; clear HL; intro g2 w1_ HL hb; clear hb)
    | (go_at_call 9; refine (head_any _).mono ?_; rintro e w1_ ⟨r, rfl, rfl, hb⟩; replace HL := am (HL.out.step hb); clear hb)
    | ((with_reducible refine zg 23 rfl ?_); refine zl 0 27 (.tmp 5) HL hu27 ?_)
    | (go_at_call 10; refine (KG.out _ HL.out.below).mono ?_; rintro e w1_ ⟨r, rfl, hr, hb⟩; have HR1 := am hr; replace HL := am (HL.out.step hb); clear hr hb; cases r)
    | ((with_reducible refine zg 26 rfl ?_); refine zl 0 27 (.tmp 5) HL hu27 ?_)
    | (go_at_call 11; refine (KC.out _ HL.out.below (HR1.out (by first | rfl | trivial))).mono ?_; rintro e wc ⟨c, cs2, rfl, hk, hok, hb⟩; obtain ⟨B1, d1, B2, d2, B3, d3, B4, d4, rfl, _⟩ := k35_open hk; have HK := am hk; have HOK := am hok; have HB0 := am (HL.out.step hb).below; clear HL; have HL : Aside0 (Led [] wc wc) := ⟨Led.nil wc⟩; obtain ⟨hz0, hz1, hl1, hl2⟩ := hok.fit; have hi0 := hok.i0; have hi1 := hok.i1; have hl0 := hok.len; have hl3 := hok.lout; clear hk hok hb HR1)
    | ((with_reducible refine zg 12 rfl ?_); refine zx 12 [.int .i64 0, .slice none 0 0, .slice none 0 0, .slice none 0 0, .slice none 0 0] 35 HL ?_; clear HL; intro g6 w1_ HL hb; clear hb)
    | ((with_reducible refine zst 35 (.tmp 12) (.tmp 27) rfl ?_); refine zs 0 0 35 (.tmp 12) (.tmp 27) [.int .i64 c.f0.f0, .slice B1 c.f0.f1.length d1, .slice B2 c.f1.length d2, .slice B3 c.f2.length d3, .slice B4 c.f3.length d4] HL ?_; intro w1_ HLn hfar; replace HL := HLn; clear HLn hfar)
    | (go_at_call 14; refine (KM.out _).mono ?_; rintro e w1_ ⟨rfl, rfl⟩)
    | ((with_reducible refine zg 30 rfl ?_); refine zl 0 35 (.tmp 12) HL hu35 ?_)
    | (go_at_call 13; refine (new_any c _ k false _ (k35.K_below HL.out.below HK.out) hi0 (by omega) (by omega)).mono ?_; rintro e wz ⟨g8, rfl, _, hF, hb⟩; replace HL := am (HL.out.step hb); have HF := am hF; clear hF hb; have k3 : wz.cell? ⟨g6, 3, none⟩ = some (.slice B3 c.f2.length d3) := blk_cell (HL.out.get 0 rfl) 3)
    | (go_at_call 30; refine (bitsB_any av AA ca c.f2.length _ (Kd.C_below HAV.out (below_step HB0.out HL.out.below)) (by omega)).mono ?_; rintro e wb ⟨v40, rfl, hr40, hb⟩; obtain ⟨s, hs⟩ : ∃ z, bitsL av c.f2.length = z := ⟨_, rfl⟩; rw [hs] at hr40; obtain ⟨A15, c15, rfl⟩ := Kd.R_slice hr40; have HS := am (Kd.R_reads' hr40).2.2; have HSL : Aside0 (s.length = c.f2.length) := ⟨by rw [← hs]; exact bitsL_len _ _⟩; replace HL := am (HL.out.step hb); replace HF := am (HF.out.below hb); clear hs hr40 hb k3))
  rotate_left
  · go_ret
    exact ⟨_, rfl, rfl, HL.out.below⟩
  have HSF : Aside0 (false = true → s = c.f2.map S84.f2) := ⟨fun h => by cases h⟩
  have KMO : Aside0 (∀ W, Below wc.heap.size wc W → Kd.bool.C W A15 s.length s → Calls Try.prog 32 #[.agg #[.int .i64 c.f0.f0, .slice B1 c.f0.f1.length d1, .slice B2 c.f1.length d2, .slice B3 c.f2.length d3, .slice B4 c.f3.length d4], .slice A15 s.length c15, .slice AR rows.length cr, .int .i64 (k : Int)] W (RetModel c s rows k W)) := ⟨fun W hb hC => model_any c _ s A15 c15 rows AR cr k W (k35.K_below hb HK.out) HOK.out hC (Kd.C_below HRW.out (below_step HB0.out hb)) HSL.out (by omega)⟩
  go_upto_region 13 with (first
    | ((with_reducible refine zg 49 rfl ?_); refine zl 0 35 (.tmp 12) HL hu35 ?_)
    | (go_at_call 32; refine (KMO.out _ HL.out.below HS.out).mono ?_; rintro e wM ⟨v1, v2, rfl, hr1, hr2, hb⟩; obtain ⟨M, hM⟩ : ∃ z, outL c s rows k = z := ⟨_, rfl⟩; obtain ⟨U, hU⟩ : ∃ z, outsL c s rows k = z := ⟨_, rfl⟩; rw [hM] at hr1; rw [hU] at hr2; obtain ⟨A16, c16, rfl⟩ := Kd.R_slice hr1; obtain ⟨A17, c17, rfl⟩ := Kd.R_slice hr2; have HCM := am (Kd.R_reads' hr1).2.2; have HCU := am (Kd.R_reads' hr2).2.2; have HMc : M.length ≤ c16 := (Kd.R_reads' hr1).2.1; have HME := am hM; have HUE := am hU; replace HL := am (HL.out.step hb); replace HF := am (HF.out.below hb); clear hr1 hr2 hb hM hU KMO HS))
  have HWM : Aside0 (Below w.heap.size w wM) := ⟨below_step HB0.out HL.out.below⟩
  have hML : M.length = k * szN c := by rw [← HME.out]; exact outL_len HSL.out k
  have HSZ := HOK.out.szN
  have hsz1 : szN c ≤ 259201 := by have h2 := HOK.out.i1; have h3 := HOK.out.len; have h4 := HOK.out.ins; unfold szN; omega
  have hML2 : M.length ≤ 1048576 := by
    rw [hML]
    have h2 : k * szN c ≤ 4 * szN c := Nat.mul_le_mul_right _ hk4
    omega
  have KV : Aside0 (∀ W, Below wM.heap.size wM W → Calls Try.prog 19 #[.pointer (some ⟨g8, 0, none⟩)] W (RetV (.int .i64 (M.length : Int)) W)) := ⟨fun W hb => by
    have := fvars_any c g8 k false W (HF.out.below hb) (by omega) hz0 (by omega)
    rw [HSZ, ← Int.natCast_mul, ← hML] at this
    exact this⟩
  have KCL : Aside0 (∀ W, Below wM.heap.size wM W → Calls Try.prog 17 #[.pointer (some ⟨g8, 0, none⟩)] W (RetLs (framesC c false k) W)) := ⟨fun W hb => frames_any c g8 k false W (HF.out.below hb) HOK.out.ok hi0 (by omega) (by omega) HOK.out.lat (by omega) (by omega)⟩
  obtain ⟨CL, hCL⟩ : ∃ z, framesC c false k = z := ⟨_, rfl⟩
  have HRG : Aside0 (∀ l ∈ CL, ∀ x ∈ l, x ≠ 0 ∧ -(M.length : Int) ≤ x ∧ x ≤ (M.length : Int)) := ⟨by rw [← hCL, hML]; exact lits_rng (rows := rows) HOK.out HSL.out (by omega) false HSF.out⟩
  have HALL : Aside0 ((CL.all fun cl => cl.any (litTrue M)) = true) := ⟨by rw [← hCL, ← HME.out]; exact met_all HOK.out HSL.out (by omega) false HSF.out⟩
  have hcl1 : CL.length ≤ 100000000 := by rw [← hCL]; exact framesC_small' HOK.out k hk4
  rw [hCL] at KCL
  have KRT : Aside0 (∀ W A cc, kR.C W A CL.length CL → Calls Try.prog 35 #[.slice A CL.length cc, .int .i64 (M.length : Int)] W (RetB (fun b => b = true) W)) := ⟨fun W A cc hC => rightP_any CL A cc (M.length : Int) W hC (by omega) (by omega) HRG.out⟩
  have KMT : Aside0 (∀ W A cc, Below wM.heap.size wM W → kR.C W A CL.length CL → CL.length ≤ cc → Calls Try.prog 34 #[.slice A CL.length cc, .slice A16 M.length c16] W (fun e w' => e = .returned (.bool true) ∧ Below W.heap.size W w')) := ⟨fun W A cc hb hC hcc => by have := met_any A cc CL A16 c16 M W hC hcc (Kd.C_below HCM.out hb); rw [HALL.out] at this; exact this⟩
  have KLT := am (fun W (hb : Below wM.heap.size wM W) (x : Int) => one_met x A16 c16 M W (Kd.C_below HCM.out hb))
  have H4 : Aside0 (wM.cell? ⟨g6, 4, none⟩ = some (.slice B4 c.f3.length d4)) := ⟨blk_cell (HL.out.get 0 rfl) 4⟩
  have H2 : Aside0 (wM.cell? ⟨g6, 2, none⟩ = some (.slice B2 c.f1.length d2)) := ⟨blk_cell (HL.out.get 0 rfl) 2⟩
  have KO : Aside0 (∀ W, Below wM.heap.size wM W → ∀ a i : Int, Calls Try.prog 25 #[.pointer (some ⟨g8, 0, none⟩), .int .i64 a, .int .i64 i] W (RetV (.int .i64 (atL k (sizeOf c) (c.f3.map (fun x => x.f1)) a i)) W)) := ⟨fun W hb a i => out_any c g8 k false a i W (HF.out.below hb) (by omega) hz0 (by omega) HOK.out.outs_⟩
  have KIN : Aside0 (∀ W, Below wM.heap.size wM W → Calls Try.prog 28 #[.pointer (some ⟨g8, 0, none⟩), .slice A16 M.length c16] W (RetLB ((List.range k).map (insL c rows)) W)) := ⟨fun W hb => by
    have := ins_any c g8 k false M A16 c16 W (HF.out.below hb) (Kd.C_below HCM.out hb) (by omega) hz0 (by omega) HOK.out.ins_ (by omega)
    rw [← HME.out, insC_is HOK.out HSL.out (by omega), HME.out] at this
    exact this⟩
  have KRW := am (fun W (hb : Below wM.heap.size wM W) (i : Nat) => RetRow.is (row_any rows AR cr i W (Kd.C_below HRW.out (below_step HWM.out hb))))
  clear hCL KG KC KM HL HB0 HF hML
  have HL : Aside0 (Led [] wM wM) := ⟨Led.nil _⟩
  go_wp2_with (first
    | (go_at_call 19; refine (KV.out _ HL.out.below).mono ?_; rintro e w1_ ⟨rfl, hb⟩; replace HL := am (HL.out.step hb); (first | replace HRC := am (Kd.R_below HRC.out hb) | skip); clear hb)
    | (go_at_call 17; refine (KCL.out _ HL.out.below).mono ?_; rintro e w1_ ⟨v, rfl, hr, _, hb⟩; obtain ⟨BC, nC, rfl⟩ := Kd.R_slice hr; replace HL := am (HL.out.step hb); have HRC := am hr; clear hr hb)
    | (go_at_call 35; have hC := rowC HRC.out; (with_reducible refine (KRT.out _ _ _ hC).mono ?_); rintro e w1_ ⟨r, rfl, rfl, hb⟩; replace HL := am (HL.out.step hb); clear hb hC HRC)
    | (go_at_call 34; have hC := rowC HRC.out; have hcc := (Kd.R_reads' HRC.out).2.1; (with_reducible refine (KMT.out _ _ _ HL.out.below hC hcc).mono ?_); rintro e w1_ ⟨rfl, hb⟩; replace HL := am (HL.out.step hb); clear hb hC hcc HRC))
  have hul : U.length = k := by rw [← HUE.out]; unfold outsL; rw [List.length_map, List.length_range]
  have HUI : Aside0 (∀ (i : Nat), i < k → U[i]? = some (c.f3.map (fun x => litB (valL c s rows i) x.f1))) := ⟨fun i h => by rw [← HUE.out]; unfold outsL; rw [List.getElem?_map, List.getElem?_range h]; rfl⟩
  have HUL := am hul
  have hmu : U.length ≤ 9223372036854775807 := HCU.out.2.1
  clear hul KV KCL KRT KMT HRG HALL
  go_loopw [18, 19] (fun v18 v19 wr => ∃ (i : Nat) (al : List (List Bool)), v19 = .int .i64 (i : Int) ∧ i ≤ k ∧ Aside0 (Led [] wM wr) ∧ Aside0 (RrB wr v18 al) ∧ Aside0 (Own wM v18) ∧ Aside0 (al = (List.range i).map (insL c rows))) (fun _ v _ => k - (intOf v).toNat)
  case atStart => exact ⟨0, [], rfl, Nat.zero_le _, HL, ⟨Kd.R_nil _ _ _ _ _⟩, ⟨fun k hk => by simp [Value.ownBlock] at hk⟩, ⟨rfl⟩⟩
  case round =>
    clear HL
    obtain ⟨i, al, rfl, hi, HL, HO, HN, HAE⟩ := hrel
    by_cases hlt : i < k
    · have qi : (i : Int) < (k : Int) := by omega
      have q0 : (0 : Int) ≤ (i : Int) := by omega
      have qu : (i : Int) < (U.length : Int) := by rw [HUL.out]; exact qi
      have hln : al.length ≤ 10 := by rw [HAE.out, List.length_map, List.length_range]; omega
      have HLN := am hln
      clear hln
      go_wp2_with (fail)
      go_loopw [20] (fun v20 wq => ∃ j : Nat, v20 = .int .i64 (j : Int) ∧ j ≤ c.f3.length ∧ Aside0 (Led [] wM wq) ∧ Aside0 (RrB wq u18 al)) (fun v _ => c.f3.length - (intOf v).toNat)
      case atStart => exact ⟨0, rfl, Nat.zero_le _, HL, HO⟩
      case round =>
        clear HL HO
        obtain ⟨j, rfl, hj, HL, HO⟩ := hrel
        have hk4_ := pw_cell_below HL.out.below H4.out
        by_cases hjt : j < c.f3.length
        · obtain ⟨x, hx⟩ : ∃ x, litOf ((i : Int) * sizeOf c) c.f3[j].f1 = x := ⟨_, rfl⟩
          obtain ⟨b, hb⟩ : ∃ b, litB (valL c s rows i) c.f3[j].f1 = b := ⟨_, rfl⟩
          have KO1 : Aside0 (∀ W, Below wM.heap.size wM W → Calls Try.prog 25 #[.pointer (some ⟨g8, 0, none⟩), .int .i64 (i : Int), .int .i64 (j : Int)] W (RetV (.int .i64 x) W)) := ⟨fun W hbW => by
            have := KO.out W hbW (i : Int) (j : Int)
            rw [atL_get hlt (by rw [List.length_map]; exact hjt), List.getElem_map, hx] at this
            exact this⟩
          have HLT : Aside0 (litTrue M x = b) := ⟨by
            have h1 := hc_outs HOK.out hjt
            have h2 := (lit_true (rows := rows) HOK.out HSL.out hlt (show k ≤ 10 by omega) h1.1 h1.2).1
            rw [hx, hb, HME.out] at h2
            exact h2⟩
          obtain ⟨ad, A0, c0, hA17, h1, h2, h3⟩ := atSB HCU.out i (by rw [HUL.out]; exact hlt)
          have hui := Option.some.inj ((List.getElem?_eq_getElem (show i < U.length by rw [HUL.out]; exact hlt)).symm.trans (HUI.out i hlt))
          obtain ⟨ur, hur⟩ : ∃ z, U[i]'(by rw [HUL.out]; exact hlt) = z := ⟨_, rfl⟩
          rw [hur] at h1 h2 h3 hui
          have hurl : ur.length = c.f3.length := by rw [hui, List.length_map]
          obtain ⟨bd, hA0, h4⟩ := atB h3 j (by rw [hurl]; exact hjt)
          have hub : ur[j]'(by rw [hurl]; exact hjt) = b := by
            rw [← hb]
            subst hui
            simp
          rw [hub] at h4
          rw [hurl] at h1
          subst hA17 hA0
          have H1 := am h1
          have H5 := am h4
          have qj : (j : Int) < (c.f3.length : Int) := by omega
          have q1 : (0 : Int) ≤ (j : Int) := by omega
          clear hx hb hui h1 h2 h3 h4 hur hurl hub
          go_upto_region 23 with (go_at_call 25; refine (KO1.out _ HL.out.below).mono ?_; rintro e w3_ ⟨rfl, hb⟩; replace HL := am (HL.out.step hb); replace HO := am (Kd.R_below HO.out hb); clear hb hk4_)
          have HLd := am HL.out.drew
          refine start_ (n := 25) (S := fun W => (W.cell? ⟨g6, 4, none⟩ = some (.slice B4 c.f3.length d4) ∧ W.cell? (ad.add i) = some (.slice (some bd) c.f3.length c0) ∧ W.cell? (bd.add j) = some (.bool b)) ∧ Aside0 (Below wM.heap.size wM W)) (ds := []) #[false, false, false, false, false, false, false, false, false, false, false, false, false, false, false, false, false, false, false, false, false, false, false, false, false] (by kernel_rfl) rfl rfl ⟨⟨pw_cell_below HLd.out.below H4.out, pw_cell_below HLd.out.below H1.out, pw_cell_below HLd.out.below H5.out⟩, ⟨HLd.out.below⟩⟩ (fun hHeld => ?_)
          refine pu 0 92 ?_
          refine pu 1 93 ?_
          refine pu 2 94 ?_
          refine tk 3 95 hHeld ?_
          refine pu 4 96 ?_
          refine pu 5 97 ?_
          refine tk 6 98 hHeld ?_
          refine pu 7 99 ?_
          refine pu 8 100 ?_
          refine pu 9 101 ?_
          refine pu 10 102 ?_
          refine pu 13 105 ?_
          refine pu 16 108 ?_
          refine pu 17 109 ?_
          refine pu 18 110 ?_
          refine tk 19 111 hHeld ?_
          refine pu 20 112 ?_
          refine pu 21 113 ?_
          refine tk 22 114 hHeld ?_
          have hb1 : Below w3_.drew.heap.size w3_.drew (w3_.drew.alloc (.cells #[.int .i64 x] 3)) := below_alloc (Below.refl _ _) _
          have hb2 : Below w3_.drew.heap.size w3_.drew ((w3_.drew.alloc (.cells #[.int .i64 x] 3)).alloc (.cells #[.slice (some ⟨w3_.drew.heap.size, 0, none⟩) 1 1] 66)) := below_alloc hb1 _
          refine onl 11 103 [.int .i64 x] 3 ⟨⟨pw_cell_below hb1 hHeld.1.1, pw_cell_below hb1 hHeld.1.2.1, pw_cell_below hb1 hHeld.1.2.2⟩, ⟨below_step hHeld.2.out hb1⟩⟩ ?_
          intro hHeld2
          refine onl 12 104 [.slice (some ⟨w3_.drew.heap.size, 0, none⟩) 1 1] 66 ⟨⟨pw_cell_below hb2 hHeld.1.1, pw_cell_below hb2 hHeld.1.2.1, pw_cell_below hb2 hHeld.1.2.2⟩, ⟨below_step hHeld.2.out hb2⟩⟩ ?_
          intro hHeld3
          refine cl 14 106 34 (.bool b) Try.func34 (fun we => Below ((w3_.drew.alloc (.cells #[.int .i64 x] 3)).alloc (.cells #[.slice (some ⟨w3_.drew.heap.size, 0, none⟩) 1 1] 66)).heap.size ((w3_.drew.alloc (.cells #[.int .i64 x] 3)).alloc (.cells #[.slice (some ⟨w3_.drew.heap.size, 0, none⟩) 1 1] 66)) we) hHeld3 (by have h6 := KLT.out _ hHeld3.2.out x _ (one_row w3_.drew x); rw [HLT.out] at h6; exact h6) (fun we hb => ⟨⟨pw_cell_below hb hHeld3.1.1, pw_cell_below hb hHeld3.1.2.1, pw_cell_below hb hHeld3.1.2.2⟩, ⟨below_step hHeld3.2.out hb⟩⟩) ?_
          intro w5_ hb5 hHeld5
          refine pu 15 107 ?_
          refine pu 23 115 ?_
          refine pu 24 116 ?_
          refine done_ (by kernel_rfl) ?_
          have hb6 : Below w3_.heap.size w3_ w5_ := below_step (below_step (below_drew (Below.refl _ _)) hb2) hb5
          replace HL := am (HL.out.step hb6)
          replace HO := am (Kd.R_below HO.out hb6)
          clear hHeld hHeld2 hHeld3 hHeld5 hb1 hb2 hb5 hb6 HLd
          go_wp2_with (fail)
          go_roundw
          case rel => exact ⟨j + 1, by go_num, by omega, HL, HO⟩
          case measure => simp [intOf]; omega
        · obtain rfl : j = c.f3.length := by omega
          go_upto_region 25 with (fail)
          have k2 := pw_cell_below HL.out.below H2.out
          have HLd := am HL.out.drew
          have hbd : Below wr.heap.size wr wr.drew := below_drew (Below.refl _ _)
          have HOd := am (Kd.R_below HO.out hbd)
          refine start_ (n := 11) (S := fun W => W.cell? ⟨g6, 2, none⟩ = some (.slice B2 c.f1.length d2) ∧ Aside0 (Below wM.heap.size wM W)) (ds := []) #[false, false, false, false, false, false, false, false, false, false, false] (by kernel_rfl) rfl rfl ⟨pw_cell_below hbd k2, ⟨HLd.out.below⟩⟩ (fun hHeld => ?_)
          refine pu 0 117 ?_
          refine pu 1 118 ?_
          refine pu 2 119 ?_
          refine pu 4 121 ?_
          refine tk 5 122 hHeld ?_
          refine pu 6 123 ?_
          refine clE 3 120 36 Try.func36 (fun v w' => (∃ A c, v = .slice A (rowL rows i).length c ∧ Kd.bool.C w' A (rowL rows i).length (rowL rows i)) ∧ w' = wr.drew) (KRW.out _ HLd.out.below i) (fun v we hr => by rw [hr.2]; exact hHeld) ?_
          rintro v120 we ⟨⟨A26, c26, rfl, hC26⟩, rfl⟩ hHeld1
          refine norm_ (a' := ?_) ?_ ?_
          rotate_left
          · simp only [Act.put, List.setIfInBounds_toArray, List.set_cons_zero, List.set_cons_succ]; rfl
          refine clE 7 124 30 Try.func30 (fun v w' => Rb w' wr.drew.heap.size v (insL c rows i) ∧ Below wr.drew.heap.size wr.drew w') ((bitsB_any (rowL rows i) A26 c26 c.f1.length _ hC26 (by omega)).mono (fun e w' h => h)) (fun v we hr => ⟨pw_cell_below hr.2 hHeld.1, ⟨(HLd.out.step hr.2).below⟩⟩) ?_
          rintro v124 w3_ ⟨hr30, hb30⟩ hHeld3
          obtain ⟨ins, hins⟩ : ∃ z, insL c rows i = z := ⟨_, rfl⟩
          rw [hins] at hr30
          obtain ⟨A14, c14, rfl⟩ := Kd.R_slice hr30
          have HINS := am hins
          replace HLd := am (HLd.out.step hb30)
          replace HOd := am (Kd.R_below HOd.out hb30)
          refine norm_ (a' := ?_) ?_ ?_
          rotate_left
          · simp only [Act.put, List.setIfInBounds_toArray, List.set_cons_zero, List.set_cons_succ]; rfl
          have hb4 : Below w3_.heap.size w3_ (w3_.alloc (.cells #[.slice A14 ins.length c14] 36)) := below_alloc (Below.refl _ _) _
          refine onl 8 125 [.slice A14 ins.length c14] 36 ⟨pw_cell_below hb4 hHeld3.1, ⟨below_step hHeld3.2.out hb4⟩⟩ ?_
          intro hHeld4
          refine onaprB 9 126 (.tmp 117) (.tmp 125) HLd HOd HN (Kd.R_lower hr30 (Nat.zero_le _)) Try.underlying52 info36 (by have := HLN.out; omega) (fun w1 hL => ⟨pw_cell_below hL.below H2.out, ⟨hL.below⟩⟩) ?_
          intro v126 w5_ HO2 HN2 HL2 hHeld5
          refine norm_ (a' := ?_) ?_ ?_
          rotate_left
          · simp only [Act.put, List.setIfInBounds_toArray, List.set_cons_zero, List.set_cons_succ]; rfl
          refine pu 10 18 ?_
          refine done_ (by kernel_rfl) ?_
          clear hHeld hHeld1 hHeld3 hHeld4 hHeld5 hC26 hr30 hb30 hins k2 HL HO HN HLd HOd hbd hb4 hk4_
          go_wp2_with (fail)
          go_roundw
          case rel => exact ⟨i + 1, _, by go_num, by omega, HL2, HO2, HN2, ⟨by rw [List.range_succ, List.map_append, ← HAE.out]; show al ++ [ins] = al ++ [insL c rows i]; rw [HINS.out]⟩⟩
          case measure => simp [intOf]; omega
    · obtain rfl : i = k := by omega
      go_wp2_with (first
        | (go_at_call 28; refine (KIN.out _ HL.out.below).mono ?_; rintro e w6_ ⟨v131, rfl, hr, _, hb⟩; rw [← HAE.out] at hr; obtain ⟨B131, n131, rfl⟩ := Kd.R_slice hr; obtain ⟨B18, n18, hv18⟩ := Kd.R_slice HO.out; have HR131 := am hr; replace HL := am (HL.out.step hb); replace HO := am (Kd.R_below HO.out hb); clear hr hb; subst hv18)
        | (go_at_call 27; have hA := rowCB HR131.out; have hB := rowCB HO.out; (with_reducible refine (sameB_any al _ _ _ _ _ hA hB).mono ?_); rintro e w7_ ⟨r, rfl, rfl, hb⟩; replace HL := am (HL.out.step hb); clear hb hA hB))
      go_ret
      exact ⟨_, rfl, rfl, below_step HWM.out HL.out.below⟩
set_option maxHeartbeats 64000000 in
set_option maxRecDepth 100000 in
theorem runs_true (n : S27) (cs : List Value) (m : Int) (av : List Bool) (AA : Option Addr) (ca : Nat) (rows : List (List Bool)) (AR : Option Addr) (cr : Nat) (w : World) (h : k27.K w n cs) (h0 : 0 ≤ m) (h1 : m ≤ 255) (ha : Kd.bool.C w AA av.length av) (hr : kB.C w AR rows.length rows) :
    Calls Try.prog 7 #[.agg cs.toArray, .int .u8 m, .bool true, .slice AA av.length ca, .slice AR rows.length cr] w (RetB (fun b => b = true) w) := by
  have KG := am (fun W (hb : Below w.heap.size w W) => great_any n cs W (k27.K_below hb h))
  have KC := am (fun W (hb : Below w.heap.size w W) (ok : NetOk n) => compile_any n cs W (k27.K_below hb h) ok)
  obtain ⟨k, hk⟩ : ∃ k : Nat, m % 5 = (k : Int) := ⟨(m % 5).toNat, by omega⟩
  have hk4 : k ≤ 4 := by omega
  have KM : Aside0 (∀ W, Calls Try.prog 14 #[.int .u8 m] W (fun e w' => e = .returned (.int .i64 (k : Int)) ∧ w' = W)) := ⟨fun W => by have := some_any m W h0 h1; rw [hk] at this; exact this⟩
  obtain ⟨A0, c0, A1, c1, A2, c2, A3, c3, A4, c4, rfl, _⟩ := k27_open h
  have HL : Aside0 (Led [] w w) := ⟨Led.nil w⟩
  have hu27 := Try.underlying27
  have hu35 := Try.underlying35
  have HAV := am ha
  have HRW := am hr
  clear h hk ha hr
  go_enter Try.func7, Try.ntmps7
  go_upto_region 11 with (first
    | ((with_reducible refine zg 5 rfl ?_); refine zx 5 [.slice A0 n.f0.length c0, .slice A1 n.f1.length c1, .slice A2 n.f2.length c2, .slice A3 n.f3.length c3, .slice A4 n.f4.length c4] 27 HL ?_; clear HL; intro g2 w1_ HL hb; clear hb)
    | (go_at_call 9; refine (head_any _).mono ?_; rintro e w1_ ⟨r, rfl, rfl, hb⟩; replace HL := am (HL.out.step hb); clear hb)
    | ((with_reducible refine zg 23 rfl ?_); refine zl 0 27 (.tmp 5) HL hu27 ?_)
    | (go_at_call 10; refine (KG.out _ HL.out.below).mono ?_; rintro e w1_ ⟨r, rfl, hr, hb⟩; have HR1 := am hr; replace HL := am (HL.out.step hb); clear hr hb; cases r)
    | ((with_reducible refine zg 26 rfl ?_); refine zl 0 27 (.tmp 5) HL hu27 ?_)
    | (go_at_call 11; refine (KC.out _ HL.out.below (HR1.out (by first | rfl | trivial))).mono ?_; rintro e wc ⟨c, cs2, rfl, hk, hok, hb⟩; obtain ⟨B1, d1, B2, d2, B3, d3, B4, d4, rfl, _⟩ := k35_open hk; have HK := am hk; have HOK := am hok; have HB0 := am (HL.out.step hb).below; clear HL; have HL : Aside0 (Led [] wc wc) := ⟨Led.nil wc⟩; obtain ⟨hz0, hz1, hl1, hl2⟩ := hok.fit; have hi0 := hok.i0; have hi1 := hok.i1; have hl0 := hok.len; have hl3 := hok.lout; clear hk hok hb HR1)
    | ((with_reducible refine zg 12 rfl ?_); refine zx 12 [.int .i64 0, .slice none 0 0, .slice none 0 0, .slice none 0 0, .slice none 0 0] 35 HL ?_; clear HL; intro g6 w1_ HL hb; clear hb)
    | ((with_reducible refine zst 35 (.tmp 12) (.tmp 27) rfl ?_); refine zs 0 0 35 (.tmp 12) (.tmp 27) [.int .i64 c.f0.f0, .slice B1 c.f0.f1.length d1, .slice B2 c.f1.length d2, .slice B3 c.f2.length d3, .slice B4 c.f3.length d4] HL ?_; intro w1_ HLn hfar; replace HL := HLn; clear HLn hfar)
    | (go_at_call 14; refine (KM.out _).mono ?_; rintro e w1_ ⟨rfl, rfl⟩)
    | ((with_reducible refine zg 30 rfl ?_); refine zl 0 35 (.tmp 12) HL hu35 ?_)
    | (go_at_call 13; refine (new_any c _ k true _ (k35.K_below HL.out.below HK.out) hi0 (by omega) (by omega)).mono ?_; rintro e wz ⟨g8, rfl, _, hF, hb⟩; replace HL := am (HL.out.step hb); have HF := am hF; clear hF hb; have k3 : wz.cell? ⟨g6, 3, none⟩ = some (.slice B3 c.f2.length d3) := blk_cell (HL.out.get 0 rfl) 3)
    | (go_at_call 30; refine (bitsB_any av AA ca c.f2.length _ (Kd.C_below HAV.out (below_step HB0.out HL.out.below)) (by omega)).mono ?_; rintro e wb ⟨v40, rfl, hr40, hb⟩; obtain ⟨s, hs⟩ : ∃ z, bitsL av c.f2.length = z := ⟨_, rfl⟩; rw [hs] at hr40; obtain ⟨A15, c15, rfl⟩ := Kd.R_slice hr40; have HS := am (Kd.R_reads' hr40).2.2; have HSL : Aside0 (s.length = c.f2.length) := ⟨by rw [← hs]; exact bitsL_len _ _⟩; replace HL := am (HL.out.step hb); replace HF := am (HF.out.below hb); clear hs hr40 hb k3))
  rotate_left
  · go_ret
    exact ⟨_, rfl, rfl, HL.out.below⟩
  clear HS HSL
  have HFI := am (fun W (hb : Below wc.heap.size wc W) => first_any c _ W (k35.K_below hb HK.out) (by omega))
  have j0 : wb.cell? ⟨g6, 0, none⟩ = some (.int .i64 c.f0.f0) := blk_cell (HL.out.get 0 rfl) 0
  have j1 : wb.cell? ⟨g6, 1, none⟩ = some (.slice B1 c.f0.f1.length d1) := blk_cell (HL.out.get 0 rfl) 1
  have j2 : wb.cell? ⟨g6, 2, none⟩ = some (.slice B2 c.f1.length d2) := blk_cell (HL.out.get 0 rfl) 2
  have j3 : wb.cell? ⟨g6, 3, none⟩ = some (.slice B3 c.f2.length d3) := blk_cell (HL.out.get 0 rfl) 3
  have j4 : wb.cell? ⟨g6, 4, none⟩ = some (.slice B4 c.f3.length d4) := blk_cell (HL.out.get 0 rfl) 4
  have hbd : Below wb.heap.size wb wb.drew := below_drew (Below.refl _ _)
  have HLd := am (HL.out.step hbd)
  refine start_ (n := 7) (S := fun W => (W.cell? ⟨g6, 0, none⟩ = some (.int .i64 c.f0.f0) ∧ W.cell? ⟨g6, 1, none⟩ = some (.slice B1 c.f0.f1.length d1) ∧ W.cell? ⟨g6, 2, none⟩ = some (.slice B2 c.f1.length d2) ∧ W.cell? ⟨g6, 3, none⟩ = some (.slice B3 c.f2.length d3) ∧ W.cell? ⟨g6, 4, none⟩ = some (.slice B4 c.f3.length d4)) ∧ Aside0 (Below wb.heap.size wb W)) (ds := []) #[false, false, false, false, false, false, false] (by kernel_rfl) rfl rfl ⟨⟨pw_cell_below hbd j0, pw_cell_below hbd j1, pw_cell_below hbd j2, pw_cell_below hbd j3, pw_cell_below hbd j4⟩, ⟨hbd⟩⟩ (fun hHeld => ?_)
  refine tk 0 42 hHeld ?_
  refine pu 2 44 ?_
  refine tk 3 45 hHeld ?_
  refine pu 4 46 ?_
  refine clE 1 43 31 Try.func31 (fun v w' => Rb w' wb.drew.heap.size v (c.f2.map S84.f2) ∧ Below wb.drew.heap.size wb.drew w') ((HFI.out _ HLd.out.below).mono (fun e w' h => h)) (fun v we hr => ⟨⟨pw_cell_below (below_step hbd hr.2) j0, pw_cell_below (below_step hbd hr.2) j1, pw_cell_below (below_step hbd hr.2) j2, pw_cell_below (below_step hbd hr.2) j3, pw_cell_below (below_step hbd hr.2) j4⟩, ⟨below_step hbd hr.2⟩⟩) ?_
  rintro v43 w2_ ⟨hr43, hb43⟩ hHeld2
  obtain ⟨fi, hfi⟩ : ∃ z, c.f2.map S84.f2 = z := ⟨_, rfl⟩
  rw [hfi] at hr43
  have hfl : fi.length = c.f2.length := by rw [← hfi, List.length_map]
  obtain ⟨A43, c43, rfl⟩ := Kd.R_slice hr43
  refine norm_ (a' := ?_) ?_ ?_
  rotate_left
  · simp only [Act.put, List.setIfInBounds_toArray, List.set_cons_zero, List.set_cons_succ]; rfl
  refine clE 5 47 30 Try.func30 (fun v w' => Rb w' w2_.heap.size v (bitsL fi c.f2.length) ∧ Below w2_.heap.size w2_ w') ((bitsB_any fi A43 c43 c.f2.length _ (Kd.R_reads' hr43).2.2 (by omega)).mono (fun e w' h => h)) (fun v we hr => ⟨⟨pw_cell_below hr.2 hHeld2.1.1, pw_cell_below hr.2 hHeld2.1.2.1, pw_cell_below hr.2 hHeld2.1.2.2.1, pw_cell_below hr.2 hHeld2.1.2.2.2.1, pw_cell_below hr.2 hHeld2.1.2.2.2.2⟩, ⟨below_step hHeld2.2.out hr.2⟩⟩) ?_
  rintro v47 wq ⟨hr47, hb47⟩ hHeld3
  obtain ⟨s_, hs_⟩ : ∃ z, bitsL fi c.f2.length = z := ⟨_, rfl⟩
  rw [hs_] at hr47
  obtain ⟨A47, c47, rfl⟩ := Kd.R_slice hr47
  have hbq : Below wb.heap.size wb wq := hHeld3.2.out
  have HS := am (Kd.R_reads' hr47).2.2
  have HSL : Aside0 (s_.length = c.f2.length) := ⟨by rw [← hs_]; exact bitsL_len _ _⟩
  have HSF : Aside0 (s_ = c.f2.map S84.f2) := ⟨by rw [← hs_, hfi]; exact bitsL_self (by rw [hfl])⟩
  refine norm_ (a' := ?_) ?_ ?_
  rotate_left
  · simp only [Act.put, List.setIfInBounds_toArray, List.set_cons_zero, List.set_cons_succ]; rfl
  refine pu 6 15 ?_
  refine done_ (by kernel_rfl) ?_
  replace HL := am (HL.out.step hbq)
  replace HF := am (HF.out.below hbq)
  clear j0 j1 j2 j3 j4 hbd HLd hHeld hHeld2 hHeld3 hr43 hb43 hfi hfl hr47 hb47 hs_ hbq HFI
  have KMO : Aside0 (∀ W, Below wc.heap.size wc W → Kd.bool.C W A47 s_.length s_ → Calls Try.prog 32 #[.agg #[.int .i64 c.f0.f0, .slice B1 c.f0.f1.length d1, .slice B2 c.f1.length d2, .slice B3 c.f2.length d3, .slice B4 c.f3.length d4], .slice A47 s_.length c47, .slice AR rows.length cr, .int .i64 (k : Int)] W (RetModel c s_ rows k W)) := ⟨fun W hb hC => model_any c _ s_ A47 c47 rows AR cr k W (k35.K_below hb HK.out) HOK.out hC (Kd.C_below HRW.out (below_step HB0.out hb)) HSL.out (by omega)⟩
  go_upto_region 13 with (first
    | ((with_reducible refine zg 49 rfl ?_); refine zl 0 35 (.tmp 12) HL hu35 ?_)
    | (go_at_call 32; refine (KMO.out _ HL.out.below HS.out).mono ?_; rintro e wM ⟨v1, v2, rfl, hr1, hr2, hb⟩; obtain ⟨M, hM⟩ : ∃ z, outL c s_ rows k = z := ⟨_, rfl⟩; obtain ⟨U, hU⟩ : ∃ z, outsL c s_ rows k = z := ⟨_, rfl⟩; rw [hM] at hr1; rw [hU] at hr2; obtain ⟨A16, c16, rfl⟩ := Kd.R_slice hr1; obtain ⟨A17, c17, rfl⟩ := Kd.R_slice hr2; have HCM := am (Kd.R_reads' hr1).2.2; have HCU := am (Kd.R_reads' hr2).2.2; have HMc : M.length ≤ c16 := (Kd.R_reads' hr1).2.1; have HME := am hM; have HUE := am hU; replace HL := am (HL.out.step hb); replace HF := am (HF.out.below hb); clear hr1 hr2 hb hM hU KMO HS))
  have HWM : Aside0 (Below w.heap.size w wM) := ⟨below_step HB0.out HL.out.below⟩
  have hML : M.length = k * szN c := by rw [← HME.out]; exact outL_len HSL.out k
  have HSZ := HOK.out.szN
  have hsz1 : szN c ≤ 259201 := by have h2 := HOK.out.i1; have h3 := HOK.out.len; have h4 := HOK.out.ins; unfold szN; omega
  have hML2 : M.length ≤ 1048576 := by
    rw [hML]
    have h2 : k * szN c ≤ 4 * szN c := Nat.mul_le_mul_right _ hk4
    omega
  have KV : Aside0 (∀ W, Below wM.heap.size wM W → Calls Try.prog 19 #[.pointer (some ⟨g8, 0, none⟩)] W (RetV (.int .i64 (M.length : Int)) W)) := ⟨fun W hb => by
    have := fvars_any c g8 k true W (HF.out.below hb) (by omega) hz0 (by omega)
    rw [HSZ, ← Int.natCast_mul, ← hML] at this
    exact this⟩
  have KCL : Aside0 (∀ W, Below wM.heap.size wM W → Calls Try.prog 17 #[.pointer (some ⟨g8, 0, none⟩)] W (RetLs (framesC c true k) W)) := ⟨fun W hb => frames_any c g8 k true W (HF.out.below hb) HOK.out.ok hi0 (by omega) (by omega) HOK.out.lat (by omega) (by omega)⟩
  obtain ⟨CL, hCL⟩ : ∃ z, framesC c true k = z := ⟨_, rfl⟩
  have HRG : Aside0 (∀ l ∈ CL, ∀ x ∈ l, x ≠ 0 ∧ -(M.length : Int) ≤ x ∧ x ≤ (M.length : Int)) := ⟨by rw [← hCL, hML]; exact lits_rng (rows := rows) HOK.out HSL.out (by omega) true (fun _ => HSF.out)⟩
  have HALL : Aside0 ((CL.all fun cl => cl.any (litTrue M)) = true) := ⟨by rw [← hCL, ← HME.out]; exact met_all HOK.out HSL.out (by omega) true (fun _ => HSF.out)⟩
  have hcl1 : CL.length ≤ 100000000 := by rw [← hCL]; exact framesC_small' HOK.out k hk4
  rw [hCL] at KCL
  have KRT : Aside0 (∀ W A cc, kR.C W A CL.length CL → Calls Try.prog 35 #[.slice A CL.length cc, .int .i64 (M.length : Int)] W (RetB (fun b => b = true) W)) := ⟨fun W A cc hC => rightP_any CL A cc (M.length : Int) W hC (by omega) (by omega) HRG.out⟩
  have KMT : Aside0 (∀ W A cc, Below wM.heap.size wM W → kR.C W A CL.length CL → CL.length ≤ cc → Calls Try.prog 34 #[.slice A CL.length cc, .slice A16 M.length c16] W (fun e w' => e = .returned (.bool true) ∧ Below W.heap.size W w')) := ⟨fun W A cc hb hC hcc => by have := met_any A cc CL A16 c16 M W hC hcc (Kd.C_below HCM.out hb); rw [HALL.out] at this; exact this⟩
  have KLT := am (fun W (hb : Below wM.heap.size wM W) (x : Int) => one_met x A16 c16 M W (Kd.C_below HCM.out hb))
  have H4 : Aside0 (wM.cell? ⟨g6, 4, none⟩ = some (.slice B4 c.f3.length d4)) := ⟨blk_cell (HL.out.get 0 rfl) 4⟩
  have H2 : Aside0 (wM.cell? ⟨g6, 2, none⟩ = some (.slice B2 c.f1.length d2)) := ⟨blk_cell (HL.out.get 0 rfl) 2⟩
  have KO : Aside0 (∀ W, Below wM.heap.size wM W → ∀ a i : Int, Calls Try.prog 25 #[.pointer (some ⟨g8, 0, none⟩), .int .i64 a, .int .i64 i] W (RetV (.int .i64 (atL k (sizeOf c) (c.f3.map (fun x => x.f1)) a i)) W)) := ⟨fun W hb a i => out_any c g8 k true a i W (HF.out.below hb) (by omega) hz0 (by omega) HOK.out.outs_⟩
  have KIN : Aside0 (∀ W, Below wM.heap.size wM W → Calls Try.prog 28 #[.pointer (some ⟨g8, 0, none⟩), .slice A16 M.length c16] W (RetLB ((List.range k).map (insL c rows)) W)) := ⟨fun W hb => by
    have := ins_any c g8 k true M A16 c16 W (HF.out.below hb) (Kd.C_below HCM.out hb) (by omega) hz0 (by omega) HOK.out.ins_ (by omega)
    rw [← HME.out, insC_is HOK.out HSL.out (by omega), HME.out] at this
    exact this⟩
  have KRW := am (fun W (hb : Below wM.heap.size wM W) (i : Nat) => RetRow.is (row_any rows AR cr i W (Kd.C_below HRW.out (below_step HWM.out hb))))
  clear hCL KG KC KM HL HB0 HF hML
  have HL : Aside0 (Led [] wM wM) := ⟨Led.nil _⟩
  go_wp2_with (first
    | (go_at_call 19; refine (KV.out _ HL.out.below).mono ?_; rintro e w1_ ⟨rfl, hb⟩; replace HL := am (HL.out.step hb); (first | replace HRC := am (Kd.R_below HRC.out hb) | skip); clear hb)
    | (go_at_call 17; refine (KCL.out _ HL.out.below).mono ?_; rintro e w1_ ⟨v, rfl, hr, _, hb⟩; obtain ⟨BC, nC, rfl⟩ := Kd.R_slice hr; replace HL := am (HL.out.step hb); have HRC := am hr; clear hr hb)
    | (go_at_call 35; have hC := rowC HRC.out; (with_reducible refine (KRT.out _ _ _ hC).mono ?_); rintro e w1_ ⟨r, rfl, rfl, hb⟩; replace HL := am (HL.out.step hb); clear hb hC HRC)
    | (go_at_call 34; have hC := rowC HRC.out; have hcc := (Kd.R_reads' HRC.out).2.1; (with_reducible refine (KMT.out _ _ _ HL.out.below hC hcc).mono ?_); rintro e w1_ ⟨rfl, hb⟩; replace HL := am (HL.out.step hb); clear hb hC hcc HRC))
  have hul : U.length = k := by rw [← HUE.out]; unfold outsL; rw [List.length_map, List.length_range]
  have HUI : Aside0 (∀ (i : Nat), i < k → U[i]? = some (c.f3.map (fun x => litB (valL c s_ rows i) x.f1))) := ⟨fun i h => by rw [← HUE.out]; unfold outsL; rw [List.getElem?_map, List.getElem?_range h]; rfl⟩
  have HUL := am hul
  have hmu : U.length ≤ 9223372036854775807 := HCU.out.2.1
  clear hul KV KCL KRT KMT HRG HALL
  go_loopw [18, 19] (fun v18 v19 wr => ∃ (i : Nat) (al : List (List Bool)), v19 = .int .i64 (i : Int) ∧ i ≤ k ∧ Aside0 (Led [] wM wr) ∧ Aside0 (RrB wr v18 al) ∧ Aside0 (Own wM v18) ∧ Aside0 (al = (List.range i).map (insL c rows))) (fun _ v _ => k - (intOf v).toNat)
  case atStart => exact ⟨0, [], rfl, Nat.zero_le _, HL, ⟨Kd.R_nil _ _ _ _ _⟩, ⟨fun k hk => by simp [Value.ownBlock] at hk⟩, ⟨rfl⟩⟩
  case round =>
    clear HL
    obtain ⟨i, al, rfl, hi, HL, HO, HN, HAE⟩ := hrel
    by_cases hlt : i < k
    · have qi : (i : Int) < (k : Int) := by omega
      have q0 : (0 : Int) ≤ (i : Int) := by omega
      have qu : (i : Int) < (U.length : Int) := by rw [HUL.out]; exact qi
      have hln : al.length ≤ 10 := by rw [HAE.out, List.length_map, List.length_range]; omega
      have HLN := am hln
      clear hln
      go_wp2_with (fail)
      go_loopw [20] (fun v20 wq => ∃ j : Nat, v20 = .int .i64 (j : Int) ∧ j ≤ c.f3.length ∧ Aside0 (Led [] wM wq) ∧ Aside0 (RrB wq u18 al)) (fun v _ => c.f3.length - (intOf v).toNat)
      case atStart => exact ⟨0, rfl, Nat.zero_le _, HL, HO⟩
      case round =>
        clear HL HO
        obtain ⟨j, rfl, hj, HL, HO⟩ := hrel
        have hk4_ := pw_cell_below HL.out.below H4.out
        by_cases hjt : j < c.f3.length
        · obtain ⟨x, hx⟩ : ∃ x, litOf ((i : Int) * sizeOf c) c.f3[j].f1 = x := ⟨_, rfl⟩
          obtain ⟨b, hb⟩ : ∃ b, litB (valL c s_ rows i) c.f3[j].f1 = b := ⟨_, rfl⟩
          have KO1 : Aside0 (∀ W, Below wM.heap.size wM W → Calls Try.prog 25 #[.pointer (some ⟨g8, 0, none⟩), .int .i64 (i : Int), .int .i64 (j : Int)] W (RetV (.int .i64 x) W)) := ⟨fun W hbW => by
            have := KO.out W hbW (i : Int) (j : Int)
            rw [atL_get hlt (by rw [List.length_map]; exact hjt), List.getElem_map, hx] at this
            exact this⟩
          have HLT : Aside0 (litTrue M x = b) := ⟨by
            have h1 := hc_outs HOK.out hjt
            have h2 := (lit_true (rows := rows) HOK.out HSL.out hlt (show k ≤ 10 by omega) h1.1 h1.2).1
            rw [hx, hb, HME.out] at h2
            exact h2⟩
          obtain ⟨ad, A0, c0, hA17, h1, h2, h3⟩ := atSB HCU.out i (by rw [HUL.out]; exact hlt)
          have hui := Option.some.inj ((List.getElem?_eq_getElem (show i < U.length by rw [HUL.out]; exact hlt)).symm.trans (HUI.out i hlt))
          obtain ⟨ur, hur⟩ : ∃ z, U[i]'(by rw [HUL.out]; exact hlt) = z := ⟨_, rfl⟩
          rw [hur] at h1 h2 h3 hui
          have hurl : ur.length = c.f3.length := by rw [hui, List.length_map]
          obtain ⟨bd, hA0, h4⟩ := atB h3 j (by rw [hurl]; exact hjt)
          have hub : ur[j]'(by rw [hurl]; exact hjt) = b := by
            rw [← hb]
            subst hui
            simp
          rw [hub] at h4
          rw [hurl] at h1
          subst hA17 hA0
          have H1 := am h1
          have H5 := am h4
          have qj : (j : Int) < (c.f3.length : Int) := by omega
          have q1 : (0 : Int) ≤ (j : Int) := by omega
          clear hx hb hui h1 h2 h3 h4 hur hurl hub
          go_upto_region 23 with (go_at_call 25; refine (KO1.out _ HL.out.below).mono ?_; rintro e w3_ ⟨rfl, hb⟩; replace HL := am (HL.out.step hb); replace HO := am (Kd.R_below HO.out hb); clear hb hk4_)
          have HLd := am HL.out.drew
          refine start_ (n := 25) (S := fun W => (W.cell? ⟨g6, 4, none⟩ = some (.slice B4 c.f3.length d4) ∧ W.cell? (ad.add i) = some (.slice (some bd) c.f3.length c0) ∧ W.cell? (bd.add j) = some (.bool b)) ∧ Aside0 (Below wM.heap.size wM W)) (ds := []) #[false, false, false, false, false, false, false, false, false, false, false, false, false, false, false, false, false, false, false, false, false, false, false, false, false] (by kernel_rfl) rfl rfl ⟨⟨pw_cell_below HLd.out.below H4.out, pw_cell_below HLd.out.below H1.out, pw_cell_below HLd.out.below H5.out⟩, ⟨HLd.out.below⟩⟩ (fun hHeld => ?_)
          refine pu 0 92 ?_
          refine pu 1 93 ?_
          refine pu 2 94 ?_
          refine tk 3 95 hHeld ?_
          refine pu 4 96 ?_
          refine pu 5 97 ?_
          refine tk 6 98 hHeld ?_
          refine pu 7 99 ?_
          refine pu 8 100 ?_
          refine pu 9 101 ?_
          refine pu 10 102 ?_
          refine pu 13 105 ?_
          refine pu 16 108 ?_
          refine pu 17 109 ?_
          refine pu 18 110 ?_
          refine tk 19 111 hHeld ?_
          refine pu 20 112 ?_
          refine pu 21 113 ?_
          refine tk 22 114 hHeld ?_
          have hb1 : Below w3_.drew.heap.size w3_.drew (w3_.drew.alloc (.cells #[.int .i64 x] 3)) := below_alloc (Below.refl _ _) _
          have hb2 : Below w3_.drew.heap.size w3_.drew ((w3_.drew.alloc (.cells #[.int .i64 x] 3)).alloc (.cells #[.slice (some ⟨w3_.drew.heap.size, 0, none⟩) 1 1] 66)) := below_alloc hb1 _
          refine onl 11 103 [.int .i64 x] 3 ⟨⟨pw_cell_below hb1 hHeld.1.1, pw_cell_below hb1 hHeld.1.2.1, pw_cell_below hb1 hHeld.1.2.2⟩, ⟨below_step hHeld.2.out hb1⟩⟩ ?_
          intro hHeld2
          refine onl 12 104 [.slice (some ⟨w3_.drew.heap.size, 0, none⟩) 1 1] 66 ⟨⟨pw_cell_below hb2 hHeld.1.1, pw_cell_below hb2 hHeld.1.2.1, pw_cell_below hb2 hHeld.1.2.2⟩, ⟨below_step hHeld.2.out hb2⟩⟩ ?_
          intro hHeld3
          refine cl 14 106 34 (.bool b) Try.func34 (fun we => Below ((w3_.drew.alloc (.cells #[.int .i64 x] 3)).alloc (.cells #[.slice (some ⟨w3_.drew.heap.size, 0, none⟩) 1 1] 66)).heap.size ((w3_.drew.alloc (.cells #[.int .i64 x] 3)).alloc (.cells #[.slice (some ⟨w3_.drew.heap.size, 0, none⟩) 1 1] 66)) we) hHeld3 (by have h6 := KLT.out _ hHeld3.2.out x _ (one_row w3_.drew x); rw [HLT.out] at h6; exact h6) (fun we hb => ⟨⟨pw_cell_below hb hHeld3.1.1, pw_cell_below hb hHeld3.1.2.1, pw_cell_below hb hHeld3.1.2.2⟩, ⟨below_step hHeld3.2.out hb⟩⟩) ?_
          intro w5_ hb5 hHeld5
          refine pu 15 107 ?_
          refine pu 23 115 ?_
          refine pu 24 116 ?_
          refine done_ (by kernel_rfl) ?_
          have hb6 : Below w3_.heap.size w3_ w5_ := below_step (below_step (below_drew (Below.refl _ _)) hb2) hb5
          replace HL := am (HL.out.step hb6)
          replace HO := am (Kd.R_below HO.out hb6)
          clear hHeld hHeld2 hHeld3 hHeld5 hb1 hb2 hb5 hb6 HLd
          go_wp2_with (fail)
          go_roundw
          case rel => exact ⟨j + 1, by go_num, by omega, HL, HO⟩
          case measure => simp [intOf]; omega
        · obtain rfl : j = c.f3.length := by omega
          go_upto_region 25 with (fail)
          have k2 := pw_cell_below HL.out.below H2.out
          have HLd := am HL.out.drew
          have hbd : Below wr.heap.size wr wr.drew := below_drew (Below.refl _ _)
          have HOd := am (Kd.R_below HO.out hbd)
          refine start_ (n := 11) (S := fun W => W.cell? ⟨g6, 2, none⟩ = some (.slice B2 c.f1.length d2) ∧ Aside0 (Below wM.heap.size wM W)) (ds := []) #[false, false, false, false, false, false, false, false, false, false, false] (by kernel_rfl) rfl rfl ⟨pw_cell_below hbd k2, ⟨HLd.out.below⟩⟩ (fun hHeld => ?_)
          refine pu 0 117 ?_
          refine pu 1 118 ?_
          refine pu 2 119 ?_
          refine pu 4 121 ?_
          refine tk 5 122 hHeld ?_
          refine pu 6 123 ?_
          refine clE 3 120 36 Try.func36 (fun v w' => (∃ A c, v = .slice A (rowL rows i).length c ∧ Kd.bool.C w' A (rowL rows i).length (rowL rows i)) ∧ w' = wr.drew) (KRW.out _ HLd.out.below i) (fun v we hr => by rw [hr.2]; exact hHeld) ?_
          rintro v120 we ⟨⟨A26, c26, rfl, hC26⟩, rfl⟩ hHeld1
          refine norm_ (a' := ?_) ?_ ?_
          rotate_left
          · simp only [Act.put, List.setIfInBounds_toArray, List.set_cons_zero, List.set_cons_succ]; rfl
          refine clE 7 124 30 Try.func30 (fun v w' => Rb w' wr.drew.heap.size v (insL c rows i) ∧ Below wr.drew.heap.size wr.drew w') ((bitsB_any (rowL rows i) A26 c26 c.f1.length _ hC26 (by omega)).mono (fun e w' h => h)) (fun v we hr => ⟨pw_cell_below hr.2 hHeld.1, ⟨(HLd.out.step hr.2).below⟩⟩) ?_
          rintro v124 w3_ ⟨hr30, hb30⟩ hHeld3
          obtain ⟨ins, hins⟩ : ∃ z, insL c rows i = z := ⟨_, rfl⟩
          rw [hins] at hr30
          obtain ⟨A14, c14, rfl⟩ := Kd.R_slice hr30
          have HINS := am hins
          replace HLd := am (HLd.out.step hb30)
          replace HOd := am (Kd.R_below HOd.out hb30)
          refine norm_ (a' := ?_) ?_ ?_
          rotate_left
          · simp only [Act.put, List.setIfInBounds_toArray, List.set_cons_zero, List.set_cons_succ]; rfl
          have hb4 : Below w3_.heap.size w3_ (w3_.alloc (.cells #[.slice A14 ins.length c14] 36)) := below_alloc (Below.refl _ _) _
          refine onl 8 125 [.slice A14 ins.length c14] 36 ⟨pw_cell_below hb4 hHeld3.1, ⟨below_step hHeld3.2.out hb4⟩⟩ ?_
          intro hHeld4
          refine onaprB 9 126 (.tmp 117) (.tmp 125) HLd HOd HN (Kd.R_lower hr30 (Nat.zero_le _)) Try.underlying52 info36 (by have := HLN.out; omega) (fun w1 hL => ⟨pw_cell_below hL.below H2.out, ⟨hL.below⟩⟩) ?_
          intro v126 w5_ HO2 HN2 HL2 hHeld5
          refine norm_ (a' := ?_) ?_ ?_
          rotate_left
          · simp only [Act.put, List.setIfInBounds_toArray, List.set_cons_zero, List.set_cons_succ]; rfl
          refine pu 10 18 ?_
          refine done_ (by kernel_rfl) ?_
          clear hHeld hHeld1 hHeld3 hHeld4 hHeld5 hC26 hr30 hb30 hins k2 HL HO HN HLd HOd hbd hb4 hk4_
          go_wp2_with (fail)
          go_roundw
          case rel => exact ⟨i + 1, _, by go_num, by omega, HL2, HO2, HN2, ⟨by rw [List.range_succ, List.map_append, ← HAE.out]; show al ++ [ins] = al ++ [insL c rows i]; rw [HINS.out]⟩⟩
          case measure => simp [intOf]; omega
    · obtain rfl : i = k := by omega
      go_wp2_with (first
        | (go_at_call 28; refine (KIN.out _ HL.out.below).mono ?_; rintro e w6_ ⟨v131, rfl, hr, _, hb⟩; rw [← HAE.out] at hr; obtain ⟨B131, n131, rfl⟩ := Kd.R_slice hr; obtain ⟨B18, n18, hv18⟩ := Kd.R_slice HO.out; have HR131 := am hr; replace HL := am (HL.out.step hb); replace HO := am (Kd.R_below HO.out hb); clear hr hb; subst hv18)
        | (go_at_call 27; have hA := rowCB HR131.out; have hB := rowCB HO.out; (with_reducible refine (sameB_any al _ _ _ _ _ hA hB).mono ?_); rintro e w7_ ⟨r, rfl, rfl, hb⟩; replace HL := am (HL.out.step hb); clear hb hA hB))
      go_ret
      exact ⟨_, rfl, rfl, below_step HWM.out HL.out.below⟩
theorem runs_any (n : S27) (cs : List Value) (m : Int) (fs : Bool) (av : List Bool) (AA : Option Addr) (ca : Nat) (rows : List (List Bool)) (AR : Option Addr) (cr : Nat) (w : World) (h : k27.K w n cs) (h0 : 0 ≤ m) (h1 : m ≤ 255) (ha : Kd.bool.C w AA av.length av) (hr : kB.C w AR rows.length rows) :
    Calls Try.prog 7 #[.agg cs.toArray, .int .u8 m, .bool fs, .slice AA av.length ca, .slice AR rows.length cr] w (RetB (fun b => b = true) w) := by
  cases fs
  · exact runs_false n cs m av AA ca rows AR cr w h h0 h1 ha hr
  · exact runs_true n cs m av AA ca rows AR cr w h h0 h1 ha hr
end Go.Proofs.Yteilkojmefipcaa.U
