/- Unroll: walks and plain laws of this seat's functions, merged out of smaller texts of this session (Un, Uo, Up, Uq, Us). -/
import Derived.Test.YteilkojmefipcaaM03
namespace Go.Proofs.Yteilkojmefipcaa.U
open Go.RowKit Go.Proofs.YteilkojmefipcaaW.PrintWords Go.Proofs.YteilkojmefipcaaW.PrintLast
set_option linter.unusedVariables false
set_option linter.unusedSimpArgs false
set_option maxHeartbeats 32000000 in
set_option maxRecDepth 100000 in
theorem do_mux (ins : Int) (v : Value) (l : List S117) (x : S77) (A : Option Addr) (c : Nat) (xs : List Int) (B : Option Addr) (d : Nat) (ys : List Int) (C : Option Addr) (e : Nat) (zz : List Int) (w : World) (h : GOk ins v l 2560 w) (hA : (Kd.int .i64).C w A xs.length xs) (hB : (Kd.int .i64).C w B ys.length ys) (hC : (Kd.int .i64).C w C zz.length zz) (hx : Vlds ins l.length xs) (hy : Vlds ins l.length ys) (hz : Vlds ins l.length zz) (h1 : 1 ≤ xs.length) (hs : ys.length ≤ 16) (hle : ys.length ≤ zz.length) (h0 : x.f0 = 16) :
    Calls Try.prog 77 #[.agg #[.int .i64 ins, v], .agg #[.int .i64 x.f0, .int .i64 x.f1, .int .i64 x.f2, .int .i64 x.f3, .int .i64 x.f4, .int .i64 x.f5, .int .i64 x.f6], .slice A xs.length c, .slice B ys.length d, .slice C zz.length e] w (RetL ins l 2560 ys.length w) := by
  obtain ⟨A0, c0, rfl, hlc, _⟩ := h.slice
  have HG := am (h.less (Nat.zero_le _))
  have HM : Aside0 (l.length + 2560 ≤ 1000000000) := ⟨h.len⟩
  have HE := am (Ext.refl (k := 0) h.ok)
  have HA := am hA
  have HB := am hB
  have HC := am hC
  have HX := am hx
  have HY := am hy
  have HZ := am hz
  have hi0 := h.i0
  have HL : Aside0 (Led [] w w) := ⟨Led.nil w⟩
  have hu30 := Try.underlying30
  have hu77 := Try.underlying77
  clear h hA hB hC hx hy hz hlc
  obtain ⟨o, ho⟩ : ∃ o, x.f0 = o := ⟨_, rfl⟩
  obtain rfl : o = 16 := ho.symm.trans h0
  rw [ho]
  have hmy := HB.out.2.1
  have hmz := HC.out.2.1
  have h10 : (0 : Int) < (xs.length : Int) := by omega
  obtain ⟨ad, rfl, ha0⟩ := atI HA.out 0 h1
  obtain ⟨p, hp⟩ : ∃ p, xs[0] = p := ⟨_, rfl⟩
  have HVp := am (hp ▸ HX.out _ (List.getElem_mem h1))
  rw [hp, Addr.add_zero'] at ha0
  have HA0 := am ha0
  clear ha0 hp
  go_enter Try.func77, Try.ntmps77
  go_wp2_with (first
    | ((with_reducible refine zg 5 rfl ?_); refine zx 5 [.int .i64 ins, .slice A0 l.length c0] 30 HL ?_; clear HL; intro g5 w1_ HL hb_; replace HG := am (HG.out.step hb_); clear hb_)
    | ((with_reducible refine zg 6 rfl ?_); refine zx 6 [.int .i64 16, .int .i64 x.f1, .int .i64 x.f2, .int .i64 x.f3, .int .i64 x.f4, .int .i64 x.f5, .int .i64 x.f6] 77 HL ?_; clear HL; intro g6 w2_ HL hb_; replace HG := am (HG.out.step hb_); clear hb_)
    | ((with_reducible refine zg 10 rfl ?_); refine zx 10 [.int .i64 0, .slice none 0 0] 30 HL ?_; clear HL; intro g10 w3_ HL hb_; replace HG := am (HG.out.step hb_); have hk6 : w3_.cell? ⟨g6, 0, none⟩ = some (.int .i64 16) := blk_cell (HL.out.get 1 rfl) 0; clear hb_))
  have HO : Aside0 (Ri w3_ w.heap.size (.slice none 0 0) []) := ⟨Kd.R_nil _ _ _ _ _⟩
  go_loopw [20, 21] (fun v10 v11 wr => ∃ (i : Nat) (v' : Value) (l' : List S117) (os : List Int), v11 = .int .i64 (i : Int) ∧ i ≤ ys.length ∧ os.length = i ∧ Aside0 (Led [(g10, [.int .i64 0, .slice none 0 0], 30), (g6, [.int .i64 16, .int .i64 x.f1, .int .i64 x.f2, .int .i64 x.f3, .int .i64 x.f4, .int .i64 x.f5, .int .i64 x.f6], 77), (g5, [.int .i64 ins, v'], 30)] w wr) ∧ Aside0 (GOk ins v' l' 0 wr) ∧ Aside0 (Ext ins l l' (3 * i)) ∧ Aside0 (Ri wr w.heap.size v10 os) ∧ Aside0 (Vlds ins l'.length os)) (fun _ v _ => ys.length - (intOf v).toNat)
  case atStart => exact ⟨0, _, l, [], rfl, Nat.zero_le _, rfl, HL, HG, HE, HO, ⟨fun _ h => by cases h⟩⟩
  case round =>
    clear HL HG HE HO hk6
    obtain ⟨i, v', l', os, rfl, hi, hos, HL, HG, HE, HO, HOS⟩ := hrel
    obtain ⟨A', c', rfl, _⟩ := HG.out.slice
    obtain ⟨AO, cO, rfl⟩ := Kd.R_slice HO.out
    have HOL := am hos
    clear hos
    by_cases hlt : i < ys.length
    · have hi0 : (0 : Int) ≤ (i : Int) := by omega
      have hi1 : (i : Int) < (ys.length : Int) := by omega
      have hi2 : (i : Int) < (zz.length : Int) := by omega
      have h11 : 0 < xs.length := h1
      obtain ⟨bd, rfl, hb0⟩ := atI HB.out i hlt
      obtain ⟨zd, rfl, hz0⟩ := atI HC.out i (by omega)
      obtain ⟨q, hq⟩ : ∃ q, ys[i] = q := ⟨_, rfl⟩
      obtain ⟨r, hr⟩ : ∃ r, zz[i] = r := ⟨_, rfl⟩
      replace HVp := am (HVp.out.up HE.out.le)
      have HVq : Aside0 (Vld ins l'.length q) := ⟨hq ▸ (HY.out _ (List.getElem_mem hlt)).up HE.out.le⟩
      have HVr : Aside0 (Vld ins l'.length r) := ⟨hr ▸ (HZ.out _ (List.getElem_mem (by omega))).up HE.out.le⟩
      rw [hq] at hb0
      rw [hr] at hz0
      have ha1 := pw_cell_below HL.out.below HA0.out
      have hb1 := pw_cell_below HL.out.below hb0
      have hz1 := pw_cell_below HL.out.below hz0
      clear hb0 hz0 hq hr
      have k0 : wr.cell? ⟨g5, 0, none⟩ = some (.int .i64 ins) := blk_cell (HL.out.get 2 rfl) 0
      have k1 : wr.cell? ⟨g5, 1, none⟩ = some (.slice A' l'.length c') := blk_cell (HL.out.get 2 rfl) 1
      have KS : Aside0 (∀ W, Below wr.heap.size wr W → (W.cell? ⟨g5, 0, none⟩ = some (.int .i64 ins) ∧ W.cell? ⟨g5, 1, none⟩ = some (.slice A' l'.length c') ∧ W.cell? ad = some (.int .i64 p) ∧ W.cell? (bd.add i) = some (.int .i64 q) ∧ W.cell? (zd.add i) = some (.int .i64 r)) ∧ Aside0 (Below wr.heap.size wr W)) := ⟨fun W hb => ⟨⟨pw_cell_below hb k0, pw_cell_below hb k1, pw_cell_below hb ha1, pw_cell_below hb hb1, pw_cell_below hb hz1⟩, ⟨hb⟩⟩⟩
      go_upto_region 29 with (fail)
      go_cut [22, 23] (fun sh sx wx => ∃ g22 v2 l2 x2, sh = .pointer (some ⟨g22, 0, none⟩) ∧ sx = .int .i64 x2 ∧ Aside0 (Led [(g22, [.int .i64 ins, v2], 30), (g10, [.int .i64 0, .slice none 0 0], 30), (g6, [.int .i64 16, .int .i64 x.f1, .int .i64 x.f2, .int .i64 x.f3, .int .i64 x.f4, .int .i64 x.f5, .int .i64 x.f6], 77), (g5, [.int .i64 ins, .slice A' l'.length c'], 30)] w wx) ∧ Aside0 (GOk ins v2 l2 0 wx) ∧ Aside0 (Ext ins l l2 (3 * i + 3)) ∧ Aside0 (Vld ins l2.length x2) ∧ Aside0 (l'.length ≤ l2.length) ∧ Aside0 (Ri wx w.heap.size (.slice AO os.length cO) os))
      case first =>
        go_region_held3 (fun w' => (w'.cell? ⟨g5, 0, none⟩ = some (.int .i64 ins) ∧ w'.cell? ⟨g5, 1, none⟩ = some (.slice A' l'.length c') ∧ w'.cell? ad = some (.int .i64 p) ∧ w'.cell? (bd.add i) = some (.int .i64 q) ∧ w'.cell? (zd.add i) = some (.int .i64 r)) ∧ Aside0 (Below wr.heap.size wr w'))
          ((refine KS.out _ ?_; repeat (first | exact Aside0.out (And.right (by assumption)) | refine below_alloc ?_ _ | refine below_step ?_ (by assumption) | (refine below_set ?_ ?_; rotate_left; first | exact Nat.le_refl _ | exact (Aside0.out (p := Below wr.heap.size wr _) (And.right (by assumption))).size | exact below_size (by repeat (first | (with_reducible exact Below.refl _ _) | refine below_alloc ?_ _ | refine below_drew ?_ | refine below_step ?_ (by assumption)))) | refine below_drew ?_ | exact Below.refl _ _)))
          (first | (go_at_call 98; refine (mux_any ins _ l' p q r _ ((HG.out.step (by repeat (first | (with_reducible exact Below.refl _ _) | refine below_alloc ?_ _ | refine below_drew ?_ | refine below_step ?_ (by assumption)))).more (m := 3) (by have := HM.out; have := HE.out.len; omega)) HVp.out HVq.out HVr.out).mono ?_; rintro e we ⟨v2, l2, x2, rfl, hg, he, hv, hb⟩; obtain ⟨A2, c2, rfl, _⟩ := hg.slice; obtain ⟨hc, hf⟩ := bcell hb))
        all_goals
          go_wp2_with (fail)
          go_meet
          first
            | exact ⟨_, _, l2, x2, rfl, rfl, ⟨(finA (HL.out.step (by repeat (first | (with_reducible exact Below.refl _ _) | refine below_alloc ?_ _ | refine below_drew ?_ | refine below_step ?_ (by assumption)))) hg).1⟩, ⟨(finA (HL.out.step (by repeat (first | (with_reducible exact Below.refl _ _) | refine below_alloc ?_ _ | refine below_drew ?_ | refine below_step ?_ (by assumption)))) hg).2.less (Nat.zero_le _)⟩, ⟨HE.out.trans he⟩, ⟨hv⟩, ⟨he.le⟩, ⟨Kd.R_below HO.out (below_alloc (by repeat (first | (with_reducible exact Below.refl _ _) | refine below_alloc ?_ _ | refine below_drew ?_ | refine below_step ?_ (by assumption))) _)⟩⟩
            | exact ⟨_, _, l2, x2, rfl, rfl, ⟨(finC (HL.out.step (by repeat (first | (with_reducible exact Below.refl _ _) | refine below_alloc ?_ _ | refine below_drew ?_ | refine below_step ?_ (by assumption)))) (by repeat (first | (with_reducible exact Below.refl _ _) | refine below_alloc ?_ _ | refine below_drew ?_ | refine below_step ?_ (by assumption))) hg).1⟩, ⟨(finC (HL.out.step (by repeat (first | (with_reducible exact Below.refl _ _) | refine below_alloc ?_ _ | refine below_drew ?_ | refine below_step ?_ (by assumption)))) (by repeat (first | (with_reducible exact Below.refl _ _) | refine below_alloc ?_ _ | refine below_drew ?_ | refine below_step ?_ (by assumption))) hg).2.less (Nat.zero_le _)⟩, ⟨HE.out.trans he⟩, ⟨hv⟩, ⟨he.le⟩, ⟨finCR (HL.out.step (by repeat (first | (with_reducible exact Below.refl _ _) | refine below_alloc ?_ _ | refine below_drew ?_ | refine below_step ?_ (by assumption)))) (by repeat (first | (with_reducible exact Below.refl _ _) | refine below_alloc ?_ _ | refine below_drew ?_ | refine below_step ?_ (by assumption))) (Kd.R_below HO.out (by repeat (first | (with_reducible exact Below.refl _ _) | refine below_alloc ?_ _ | refine below_drew ?_ | refine below_step ?_ (by assumption)))) (by decide)⟩⟩
      case rest =>
        clear k0 k1 KS HL HG HE HO ha1 hb1 hz1
        obtain ⟨g22, v2, l2, x2, rfl, rfl, HL, HG, HE, HV2, HLE2, HO⟩ := hcut
        obtain ⟨A2, c2, rfl, _⟩ := HG.out.slice
        replace HOS := am (HOS.out.up HLE2.out)
        go_wp2_with (first
            | ((with_reducible refine zg 134 rfl ?_); refine zl 0 30 (.tmp 22) HL hu30 ?_)
            | ((with_reducible refine zst 30 (.tmp 5) (.tmp 134) rfl ?_); refine zs 3 0 30 (.tmp 5) (.tmp 134) [.int .i64 ins, .slice A2 l2.length c2] HL ?_; intro w1_ HLn hfar; replace HG := am (HG.out.far HL.out 3 rfl hfar); replace HO := am (Rfar HO.out HL.out 3 rfl hfar); replace HL := HLn; clear HLn hfar)
            | ((with_reducible refine zg 138 rfl ?_); refine zap (Kd.int .i64) (.tmp 135) (.tmp 137) 66 3 x2 [.int .i64 x2] HL HO Try.underlying66 info3 rfl (by have := HOL.out; omega) ?_; intro v9_ w9_ HO9 HL9 hg_; obtain ⟨os2, ho2⟩ : ∃ z, os ++ [x2] = z := ⟨_, rfl⟩; rw [ho2] at HO9; have HOE := am ho2; clear ho2; obtain ⟨A9, c9, rfl⟩ := Kd.R_slice HO9.out; replace HG := am (HG.out.other HO.out hg_); replace HL := HL9; replace HO := HO9; clear HO9 HL9 hg_))
        go_roundw
        case rel => exact ⟨i + 1, _, l2, os2, by go_num, by omega, by rw [← HOE.out, List.length_append, HOL.out]; rfl, ⟨HL.out.drop⟩, HG, ⟨HE.out.mono (by omega)⟩, HO, ⟨by rw [← HOE.out]; exact HOS.out.snoc HV2.out⟩⟩
        case measure => simp [intOf]; omega
    · obtain rfl : i = ys.length := by omega
      go_wp2_with (first
          | ((with_reducible refine zg 139 rfl ?_); refine zl 2 30 (.tmp 5) HL hu30 ?_)
          | ((with_reducible refine zst 30 (.tmp 10) (.tmp 139) rfl ?_); refine zs 0 0 30 (.tmp 10) (.tmp 139) [.int .i64 ins, .slice A' l'.length c'] HL ?_; intro w1_ HLn hfar; replace HG := am (HG.out.far HL.out 0 rfl hfar); replace HO := am (Rfar HO.out HL.out 0 rfl hfar); replace HL := HLn; clear HLn hfar))
      refine zret 0 10 11 30 HL hu30 ?_
      exact ⟨_, l', _, os, rfl, HG.out, HE.out.mono (by omega), Kd.R_lower HO.out (Nat.zero_le _), HOL.out, HOS.out, HL.out.below⟩
set_option maxHeartbeats 32000000 in
set_option maxRecDepth 100000 in
theorem do_ask (ins : Int) (v : Value) (l : List S117) (x : S77) (A : Option Addr) (c : Nat) (xs : List Int) (B : Option Addr) (d : Nat) (ys : List Int) (C : Option Addr) (e : Nat) (zz : List Int) (w : World) (h : GOk ins v l 2560 w) (hA : (Kd.int .i64).C w A xs.length xs) (hB : (Kd.int .i64).C w B ys.length ys) (hC : (Kd.int .i64).C w C zz.length zz) (hx : Vlds ins l.length xs) (hy : Vlds ins l.length ys) (hz : Vlds ins l.length zz) (hs : xs.length ≤ 16) (hle : x.f0 ≠ 4 → x.f0 ≠ 5 → xs.length ≤ ys.length) (e1 : (x.f0 == 1) = false) (e3 : (x.f0 == 3) = false) (e6 : (x.f0 == 6) = false) (e7 : (x.f0 == 7) = false) (e8 : (x.f0 == 8) = false) (e9 : (x.f0 == 9) = false) (e10 : (x.f0 == 10) = false) (e11 : (x.f0 == 11) = false) (e17 : (x.f0 == 17) = false) (e18 : (x.f0 == 18) = false) (e16 : (x.f0 == 16) = false) :
    Calls Try.prog 77 #[.agg #[.int .i64 ins, v], .agg #[.int .i64 x.f0, .int .i64 x.f1, .int .i64 x.f2, .int .i64 x.f3, .int .i64 x.f4, .int .i64 x.f5, .int .i64 x.f6], .slice A xs.length c, .slice B ys.length d, .slice C zz.length e] w (RetL ins l 2560 1 w) := by
  obtain ⟨A0, c0, rfl, hlc, _⟩ := h.slice
  have HG := am (h.less (Nat.zero_le _))
  have HM : Aside0 (l.length + 2560 ≤ 1000000000) := ⟨h.len⟩
  have HE := am (Ext.refl (k := 0) h.ok)
  have HA := am hA
  have HB := am hB
  have HC := am hC
  have HX := am hx
  have HY := am hy
  have HZ := am hz
  have hi0 := h.i0
  have HL : Aside0 (Led [] w w) := ⟨Led.nil w⟩
  have hu30 := Try.underlying30
  have hu77 := Try.underlying77
  clear h hA hB hC hx hy hz hlc
  obtain ⟨o, ho⟩ : ∃ o, x.f0 = o := ⟨_, rfl⟩
  subst ho
  have HLE := am hle
  clear hle
  go_enter Try.func77, Try.ntmps77
  go_wp2_with (first
    | ((with_reducible refine zg 5 rfl ?_); refine zx 5 [.int .i64 ins, .slice A0 l.length c0] 30 HL ?_; clear HL; intro g5 w1_ HL hb_; replace HG := am (HG.out.step hb_); clear hb_)
    | ((with_reducible refine zg 6 rfl ?_); refine zx 6 [.int .i64 x.f0, .int .i64 x.f1, .int .i64 x.f2, .int .i64 x.f3, .int .i64 x.f4, .int .i64 x.f5, .int .i64 x.f6] 77 HL ?_; clear HL; intro g6 w2_ HL hb_; replace HG := am (HG.out.step hb_); clear hb_)
    | ((with_reducible refine zg 10 rfl ?_); refine zx 10 [.int .i64 0, .slice none 0 0] 30 HL ?_; clear HL; intro g10 w3_ HL hb_; replace HG := am (HG.out.step hb_); have hk6 : w3_.cell? ⟨g6, 0, none⟩ = some (.int .i64 x.f0) := blk_cell (HL.out.get 1 rfl) 0; clear hb_)
    | ((with_reducible refine zg 142 rfl ?_); refine zl 2 30 (.tmp 5) HL hu30 ?_)
    | ((with_reducible refine zg 143 rfl ?_); refine zl 1 77 (.tmp 6) HL hu77 ?_)
    | (go_at_call 99; refine (asked_any ins _ l x A c xs B d ys _ (HG.out.more (by have := HM.out; have := HE.out.len; omega)) (Kd.C_below HA.out HL.out.below) (Kd.C_below HB.out HL.out.below) (by omega) HX.out HY.out HLE.out).mono ?_; rintro e_ we1 ⟨v1, l1, x1, rfl, hg, he, HV1, hb⟩; obtain ⟨A1, c1, rfl, _⟩ := hg.slice; replace HL := am (HL.out.step hb); replace HG := am hg; replace HE := am (HE.out.trans he); replace HV1 := am HV1; clear hg he hb)
    | ((with_reducible refine zg 24 rfl ?_); refine zx 24 [.int .i64 0, .slice none 0 0] 30 HL ?_; clear HL; intro g24 w4_ HL hb_; replace HG := am (HG.out.step hb_); clear hb_)
    | ((with_reducible refine zst 30 (.tmp 24) (.tmp 147) rfl ?_); refine zs 0 0 30 (.tmp 24) (.tmp 147) [.int .i64 ins, .slice A1 l1.length c1] HL ?_; intro w5_ HLn hfar; replace HG := am (HG.out.far HL.out 0 rfl hfar); replace HL := HLn; clear HLn hfar)
    | ((with_reducible refine zg 149 rfl ?_); refine zl 0 30 (.tmp 24) HL hu30 ?_)
    | ((with_reducible refine zg 151 rfl ?_); refine zl1 151 x1 HL ?_; intro vr wr_ HR HLn hb; obtain ⟨rr, hrr⟩ : ∃ z, [x1] = z := ⟨_, rfl⟩; rw [hrr] at HR; have HRR := am hrr; obtain ⟨AR, cR, rfl⟩ := Kd.R_slice HR.out; replace HG := am (HG.out.step hb); replace HL := HLn; clear HLn hb hrr)
    | ((with_reducible refine zst 30 (.tmp 10) (.tmp 149) rfl ?_); refine zs 1 0 30 (.tmp 10) (.tmp 149) [.int .i64 ins, .slice A1 l1.length c1] HL ?_; intro w6_ HLn hfar; replace HG := am (HG.out.far HL.out 1 rfl hfar); replace HR := am (Rfar HR.out HL.out 1 rfl hfar); replace HL := HLn; clear HLn hfar))
  refine zret 1 10 11 30 HL hu30 ?_
  exact ⟨_, l1, _, rr, rfl, HG.out, HE.out.mono (by omega), Kd.R_lower HR.out (Nat.zero_le _), by rw [← HRR.out]; rfl, (by rw [← HRR.out]; exact fun y hy => by rw [List.mem_singleton.1 hy]; exact HV1.out), HL.out.below⟩
/-- What a node asks of its operands' widths; m its own. -/
structure DoOk (x : S77) (na nb nc m : Nat) : Prop where
  wid : x.f1 = (m : Int)
  m16 : m ≤ 16
  a16 : na ≤ 16
  b16 : nb ≤ 16
  o3 : x.f0 = 3 → na = m
  o45 : x.f0 = 4 ∨ x.f0 = 5 → m = 1
  o6 : 6 ≤ x.f0 → x.f0 ≤ 11 → na = m ∧ nb = m
  o12 : 12 ≤ x.f0 → x.f0 ≤ 15 → m = 1 ∧ na = nb
  o16 : x.f0 = 16 → 1 ≤ na ∧ nb = m ∧ nc = m
  o17 : x.f0 = 17 → na + nb = m
  o18 : x.f0 = 18 → 0 ≤ x.f6 ∧ x.f6 ≤ x.f5 ∧ x.f5 < na ∧ x.f1 = x.f5 - x.f6 + 1
  ops : x.f0 = 1 ∨ (3 ≤ x.f0 ∧ x.f0 ≤ 18)
theorem RetL.cast {ins : Int} {l : List S117} {k n m : Nat} {w w' : World} {e : Ending} (h : RetL ins l k n w e w') (hn : n = m) : RetL ins l k m w e w' := hn ▸ h
theorem do_any (ins : Int) (v : Value) (l : List S117) (x : S77) (A : Option Addr) (c : Nat) (xs : List Int) (B : Option Addr) (d : Nat) (ys : List Int) (C : Option Addr) (e : Nat) (zz : List Int) (m : Nat) (w : World) (h : GOk ins v l 2560 w) (hA : (Kd.int .i64).C w A xs.length xs) (hB : (Kd.int .i64).C w B ys.length ys) (hC : (Kd.int .i64).C w C zz.length zz) (hx : Vlds ins l.length xs) (hy : Vlds ins l.length ys) (hz : Vlds ins l.length zz) (hca : xs.length ≤ c) (ok : DoOk x xs.length ys.length zz.length m) :
    Calls Try.prog 77 #[.agg #[.int .i64 ins, v], .agg #[.int .i64 x.f0, .int .i64 x.f1, .int .i64 x.f2, .int .i64 x.f3, .int .i64 x.f4, .int .i64 x.f5, .int .i64 x.f6], .slice A xs.length c, .slice B ys.length d, .slice C zz.length e] w (RetL ins l 2560 m w) := by
  have hw := ok.wid
  have hm := ok.m16
  have ha := ok.a16
  have hb := ok.b16
  by_cases o1 : x.f0 = 1
  · exact do_lit ins v l x A c xs B d ys C e zz w h hA hB hC hx hy hz m hm hw o1
  by_cases o3 : x.f0 = 3
  · exact (do_inv ins v l x A c xs B d ys C e zz w h hA hB hC hx hy hz ha o3).mono fun _ _ h => h.cast (ok.o3 o3)
  by_cases o6 : x.f0 = 6
  · have := ok.o6 (by omega) (by omega)
    exact (do_each6 ins v l x A c xs B d ys C e zz w h hA hB hC hx hy hz ha (by omega) o6).mono fun _ _ h => h.cast (by omega)
  by_cases o7 : x.f0 = 7
  · have := ok.o6 (by omega) (by omega)
    exact (do_each7 ins v l x A c xs B d ys C e zz w h hA hB hC hx hy hz ha (by omega) o7).mono fun _ _ h => h.cast (by omega)
  by_cases o8 : x.f0 = 8
  · have := ok.o6 (by omega) (by omega)
    exact (do_each8 ins v l x A c xs B d ys C e zz w h hA hB hC hx hy hz ha (by omega) o8).mono fun _ _ h => h.cast (by omega)
  by_cases o9 : x.f0 = 9
  · have := ok.o6 (by omega) (by omega)
    exact (do_add ins v l x A c xs B d ys C e zz w h hA hB hC hx hy hz ha (by omega) o9).mono fun _ _ h => h.cast (by omega)
  by_cases o10 : x.f0 = 10
  · have := ok.o6 (by omega) (by omega)
    exact (do_sub ins v l x A c xs B d ys C e zz w h hA hB hC hx hy hz ha (by omega) hb o10).mono fun _ _ h => h.cast (by omega)
  by_cases o11 : x.f0 = 11
  · have := ok.o6 (by omega) (by omega)
    exact (do_mul ins v l x A c xs B d ys C e zz w h hA hB hC hx hy hz ha hb o11).mono fun _ _ h => h.cast (by omega)
  by_cases o17 : x.f0 = 17
  · exact (do_cat ins v l x A c xs B d ys C e zz w h hA hB hC hx hy hz ha hb o17).mono fun _ _ h => h.cast (ok.o17 o17)
  by_cases o18 : x.f0 = 18
  · obtain ⟨h1, h2, h3, h4⟩ := ok.o18 o18
    exact do_slice ins v l x A c xs B d ys C e zz w h hA hB hC hx hy hz x.f6.toNat x.f5.toNat m hca ha (by omega) (by omega) (by omega) (by omega) (by omega) (by omega) o18
  by_cases o16 : x.f0 = 16
  · obtain ⟨h1, h2, h3⟩ := ok.o16 o16
    exact (do_mux ins v l x A c xs B d ys C e zz w h hA hB hC hx hy hz h1 hb (by omega) o16).mono fun _ _ h => h.cast (by omega)
  have hr : m = 1 ∧ (x.f0 ≠ 4 → x.f0 ≠ 5 → xs.length ≤ ys.length) := by
    by_cases h4 : x.f0 = 4 ∨ x.f0 = 5
    · exact ⟨ok.o45 h4, fun h1 h2 => (h4.elim h1 h2).elim⟩
    · have := ok.ops
      have := ok.o12 (by omega) (by omega)
      exact ⟨this.1, fun _ _ => by omega⟩
  exact (do_ask ins v l x A c xs B d ys C e zz w h hA hB hC hx hy hz ha hr.2 (by simp; exact o1) (by simp; exact o3) (by simp; exact o6) (by simp; exact o7) (by simp; exact o8) (by simp; exact o9) (by simp; exact o10) (by simp; exact o11) (by simp; exact o17) (by simp; exact o18) (by simp; exact o16)).mono fun _ _ h => h.cast (by omega)
theorem at77 {w : World} {A : Option Addr} {l : List S77} (h : Kd.C k77 w A l.length l) (i : Nat) (hi : i < l.length) : ∃ ad , A = some ad ∧ w.cell? (ad.add (i * 7)) = some (.int .i64 l[i].f0) ∧ w.cell? ⟨(ad.add (i * 7)).block, (ad.add (i * 7)).off + 1, none⟩ = some (.int .i64 l[i].f1) ∧ w.cell? ⟨(ad.add (i * 7)).block, (ad.add (i * 7)).off + 2, none⟩ = some (.int .i64 l[i].f2) ∧ w.cell? ⟨(ad.add (i * 7)).block, (ad.add (i * 7)).off + 3, none⟩ = some (.int .i64 l[i].f3) ∧ w.cell? ⟨(ad.add (i * 7)).block, (ad.add (i * 7)).off + 4, none⟩ = some (.int .i64 l[i].f4) ∧ w.cell? ⟨(ad.add (i * 7)).block, (ad.add (i * 7)).off + 5, none⟩ = some (.int .i64 l[i].f5) ∧ w.cell? ⟨(ad.add (i * 7)).block, (ad.add (i * 7)).off + 6, none⟩ = some (.int .i64 l[i].f6) := by
  have e : rd_T77 l (i : Int) = l[i] := by simp [rd_T77, List.getD_eq_getElem?_getD, hi]
  have h2 := at_T77 h (i : Int) (by omega) (by omega)
  rw [e, Int.toNat_natCast] at h2
  exact h2
/-- The bits of all nodes of an op. -/
def wideS (op : Int) : List S77 → Int
  | [] => 0
  | x :: r => (if x.f0 = op then x.f1 else 0) + wideS op r
theorem wideS_append (op : Int) : ∀ (a b : List S77), wideS op (a ++ b) = wideS op a + wideS op b
  | [], b => by simp [wideS]
  | x :: r, b => by rw [List.cons_append, wideS, wideS, wideS_append op r b]; omega
theorem wideS_take (op : Int) (l : List S77) (i : Nat) (h : i < l.length) : wideS op (l.take (i + 1)) = wideS op (l.take i) + (if l[i].f0 = op then l[i].f1 else 0) := by
  rw [List.take_succ_eq_append_getElem h, wideS_append, wideS, wideS]; omega
def Wid (l : List S77) : Prop := ∀ x ∈ l, 1 ≤ x.f1 ∧ x.f1 ≤ 16
theorem wideS_bnd (op : Int) : ∀ (l : List S77), Wid l → 0 ≤ wideS op l ∧ wideS op l ≤ 16 * l.length
  | [], _ => by simp [wideS]
  | x :: r, h => by
    have h1 := h x (by simp)
    have h2 := wideS_bnd op r (fun y hy => h y (by simp [hy]))
    rw [wideS, List.length_cons]
    split <;> omega
theorem Wid.take {l : List S77} (h : Wid l) (i : Nat) : Wid (l.take i) := fun x hx => h x (List.mem_of_mem_take hx)
theorem wideS_le (op : Int) (l : List S77) (h : Wid l) (i : Nat) : wideS op (l.take i) ≤ wideS op l := by
  have h1 := wideS_append op (l.take i) (l.drop i)
  rw [List.take_append_drop] at h1
  have := wideS_bnd op (l.drop i) (fun x hx => h x (List.mem_of_mem_drop hx))
  omega
set_option maxHeartbeats 8000000 in
theorem wide_any (n : S27) (cs : List Value) (op : Int) (w : World) (h : k27.K w n cs) (hw : Wid n.f0) (hl : n.f0.length ≤ 100) :
    Calls Try.prog 74 #[.agg cs.toArray, .int .i64 op] w (RetI (fun r => r = wideS op n.f0) w) := by
  obtain ⟨A0, c0, A1, c1, A2, c2, A3, c3, A4, c4, rfl, hl0, hC0, _⟩ := k27_open h
  have HC := am hC0
  have HW := am hw
  have HL : Aside0 (Led [] w w) := ⟨Led.nil w⟩
  clear h hC0
  go_enter Try.func74, Try.ntmps74
  go_wp2_with ((with_reducible refine zg 2 rfl ?_); refine zx 2 [.slice A0 n.f0.length c0, .slice A1 n.f1.length c1, .slice A2 n.f2.length c2, .slice A3 n.f3.length c3, .slice A4 n.f4.length c4] 27 HL ?_; clear HL; intro g2 w1 HL hb; clear hb)
  go_loopw [5, 6] (fun v5 v6 wr => ∃ i : Nat, v6 = .int .i64 (i : Int) ∧ i ≤ n.f0.length ∧ v5 = .int .i64 (wideS op (n.f0.take i)) ∧ Aside0 (Led [(g2, [.slice A0 n.f0.length c0, .slice A1 n.f1.length c1, .slice A2 n.f2.length c2, .slice A3 n.f3.length c3, .slice A4 n.f4.length c4], 27)] w wr)) (fun _ v _ => n.f0.length - (intOf v).toNat)
  case atStart => exact ⟨0, rfl, Nat.zero_le _, by simp [wideS], HL⟩
  case round =>
    clear HL
    obtain ⟨i, rfl, hi, rfl, HL⟩ := hrel
    have hk0 : wr.cell? ⟨g2, 0, none⟩ = some (.slice A0 n.f0.length c0) := blk_cell HL.out.g0 0
    by_cases hlt : i < n.f0.length
    · obtain ⟨ad, rfl, h0, h1, _⟩ := at77 (Kd.C_below HC.out HL.out.below) i hlt
      have hwb := HW.out _ (List.getElem_mem hlt)
      have hsb := wideS_bnd op _ (HW.out.take i)
      have htl : (n.f0.take i).length ≤ 100 := by rw [List.length_take]; omega
      have HS := am (wideS_take op n.f0 i hlt)
      obtain ⟨s, hs⟩ : ∃ s, wideS op (n.f0.take i) = s := ⟨_, rfl⟩
      obtain ⟨o, ho⟩ : ∃ o, n.f0[i].f0 = o := ⟨_, rfl⟩
      obtain ⟨m, hm⟩ : ∃ m, n.f0[i].f1 = m := ⟨_, rfl⟩
      rw [hs] at hsb HS
      rw [hs]
      rw [ho] at HS h0
      rw [hm] at HS h1 hwb
      obtain ⟨q1, q2⟩ := hwb
      obtain ⟨q3, q4⟩ := hsb
      have q5 : s ≤ 1600 := by omega
      clear hs ho hm q4 htl
      by_cases e : o = op
      · have e1 : (o == op) = true := by simpa using e
        have HE : Aside0 (wideS op (n.f0.take (i + 1)) = s + m) := ⟨by rw [HS.out, if_pos e]⟩
        clear e
        go_wp2
        go_roundw
        case rel => exact ⟨i + 1, by go_num, by omega, by rw [HE.out], HL⟩
        case measure => simp [intOf]; omega
      · have e1 : (o == op) = false := by simpa using e
        have HE : Aside0 (wideS op (n.f0.take (i + 1)) = s) := ⟨by rw [HS.out, if_neg e]; omega⟩
        clear e
        go_wp2
        go_roundw
        case rel => exact ⟨i + 1, by go_num, by omega, by rw [HE.out], HL⟩
        case measure => simp [intOf]; omega
    · obtain rfl : i = n.f0.length := by omega
      go_wp2
      go_ret
      exact ⟨_, rfl, by rw [List.take_length], HL.out.below⟩
set_option maxHeartbeats 8000000 in
theorem bits_any (f : Int) (m : Nat) (w : World) (h0 : 0 ≤ f) (h1 : f ≤ 100000) (hs : m ≤ 16) : Calls Try.prog 76 #[.int .i64 f, .int .i64 (m : Int)] w (RetR (fun ys => ys.length = m ∧ ∀ y ∈ ys, 0 ≤ y ∧ y < 2 * (f + m)) w) := by
  have HL : Aside0 (Led [] w w) := ⟨Led.nil w⟩
  have HO : Aside0 (Ri w w.heap.size (.slice none 0 0) []) := ⟨Kd.R_nil _ _ _ _ _⟩
  go_enter Try.func76, Try.ntmps76
  go_wp2_with (fail)
  go_loopw [5, 6] (fun v3 v4 wr => ∃ (i : Nat) (os : List Int), v4 = .int .i64 (i : Int) ∧ i ≤ m ∧ Aside0 (Led [] w wr) ∧ Aside0 (Ri wr w.heap.size v3 os) ∧ Aside0 (os.length = i ∧ ∀ y ∈ os, 0 ≤ y ∧ y < 2 * (f + m))) (fun _ v _ => m - (intOf v).toNat)
  case atStart => exact ⟨0, [], rfl, Nat.zero_le _, HL, HO, ⟨rfl, fun _ h => by cases h⟩⟩
  case round =>
    clear HL HO
    obtain ⟨i, os, rfl, hi, HL, HO, HS⟩ := hrel
    obtain ⟨AO, cO, rfl⟩ := Kd.R_slice HO.out
    by_cases hlt : i < m
    · go_wp2_with ((with_reducible refine zg 18 rfl ?_); refine zap (Kd.int .i64) (.tmp 12) (.tmp 17) 66 3 (2 * (f + i)) [.int .i64 (2 * (f + i))] HL HO Try.underlying66 info3 rfl (by have := HS.out.1; omega) ?_; intro v9_ w9_ HO9 HL9 hg_; clear HO HL hg_)
      go_roundw
      case rel => exact ⟨i + 1, _, by go_num, by omega, HL9, HO9, ⟨by rw [List.length_append, HS.out.1]; rfl, fun y hy => by
        rcases List.mem_append.1 hy with hy | hy
        · exact HS.out.2 y hy
        · rw [List.mem_singleton.1 hy]; omega⟩⟩
      case measure => simp [intOf]; omega
    · obtain rfl : i = m := by omega
      go_wp2_with (fail)
      go_ret
      exact ⟨_, _, rfl, Kd.R_lower HO.out (Nat.zero_le _), HS.out, HL.out.below⟩
theorem new13_any (n : Int) (w : World) : Calls Try.prog 75 #[.int .i64 n] w fun e w' => e = .returned (.agg #[.int .i64 n, .slice none 0 0]) ∧ Below w.heap.size w w' := by
  have HL : Aside0 (Led [] w w) := ⟨Led.nil w⟩
  have hu30 := Try.underlying30
  go_enter Try.func75, Try.ntmps75
  go_wp2_with (first
    | ((with_reducible refine zg 2 rfl ?_); refine zx 2 [.int .i64 0, .slice none 0 0] 30 HL ?_; clear HL; intro g2 w1 HL hb; clear hb)
    | ((with_reducible refine zst 30 (.tmp 2) (.tmp 4) rfl ?_); refine zs 0 0 30 (.tmp 2) (.tmp 4) [.int .i64 n, .slice none 0 0] HL ?_; clear HL; intro w2 HL hfar; clear hfar))
  refine bodyPost_ret (results_cell_row rfl _ _ g2 30 #[.int .i64 n, .slice none 0 0] (0, 0) _ rfl HL.out.g0 Try.underlying30 rfl (by kernel_rfl)) rfl ?_
  exact ⟨rfl, HL.out.below⟩
/-! ### rows of rows -/
abbrev kR : Kd (List Int) := Kd.slice 3 (Kd.int .i64)
abbrev Rr (w : World) (v : Value) (ls : List (List Int)) : Prop := kR.R 66 w 0 Any v ls
def Own (w : World) (v : Value) : Prop := ∀ k, v.ownBlock = some k → w.heap.size ≤ k
theorem inner_ok {w : World} {v vi : Value} {ls : List (List Int)} {ys : List Int} (hO : Rr w v ls) (hi : Ri w 0 vi ys) : kR.M w 0 (fun k => some k ≠ v.ownBlock) ys [vi] :=
  ⟨vi, rfl, Kd.R_mono (Kd.R_bound hi) (fun k hk he => by
    obtain ⟨_, _, _, q, hq, cells, hc⟩ := hk
    obtain ⟨_, inner, ho, _⟩ := hO
    obtain ⟨cells', hc'⟩ := own_typed ho k he.symm
    rw [hc] at hc'
    injection hc' with hc'
    injection hc' with _ hc'
    rw [List.mem_singleton.1 (show q ∈ [3] from hq)] at hc'
    exact absurd hc' (by decide))⟩
theorem atS {w : World} {A : Option Addr} {l : List (List Int)} (h : kR.C w A l.length l) (i : Nat) (hi : i < l.length) : ∃ ad A0 c0, A = some ad ∧ w.cell? (ad.add i) = some (.slice A0 l[i].length c0) ∧ l[i].length ≤ c0 ∧ (Kd.int .i64).C w A0 l[i].length l[i] := by
  obtain ⟨ad, c, e, _, hK, hc⟩ := Kd.C_get h [] (i : Int) (by omega) (by omega)
  obtain ⟨A0, c0, rfl, h1, h2⟩ := hK
  have e2 : l.getD (i : Int).toNat [] = l[i] := by simp [List.getD_eq_getElem?_getD, hi]
  rw [e2] at h1 h2 hc
  refine ⟨ad, A0, c0, e, ?_, h1, h2⟩
  have : w.cell? (ad.add ((i : Int).toNat * 1 + 0)) = some (.slice A0 l[i].length c0) := hc 0 _ rfl
  simpa using this
section
variable {P : Program} {ops : Array Oper} {rest : List Oper} {o : Oper} {a : Act} {Q : Exit → Act → World → Prop}
/-- out = append(out, l): a row behind rows of the call's own. -/
theorem zapr {w0 W : World} {L : List Bx} (s x : Operand) {z : Value} {v vi : Value} {ls : List (List Int)} {ys : List Int}
    (HL : Aside0 (Led L w0 W)) (HO : Aside0 (Rr W v ls)) (HN : Aside0 (Own w0 v)) (hi : Ri W 0 vi ys) (ht : P.underlying 47 = some (.slice 66)) (hinfo : (P.info? 66).map (fun i => (i.zero, i.size, i.bytes)) = some (some z, 1, 24)) (hl : ls.length ≤ 100000)
    (h : ∀ v1 w1, Aside0 (Rr w1 v1 (ls ++ [ys])) → Aside0 (Own w0 v1) → Aside0 (Led L w0 w1) → W.grownBy w1 v.ownBlock → wpList P ops Q rest (a.put o.dst v1) w1)
    (hne : ∀ b, b ∈ L → 66 ≠ b.2.2 := by simp) (ho : o.op = .call { callee := .builtin .append, args := #[s, x], argTypes := #[47, 47] } := by rfl) (hgd : o.guard = none := by rfl)
    (hz : z.cells.size = 1 := by rfl) (hs : a.eval s = v := by rfl) (hx : a.eval x = .slice (some ⟨W.heap.size, 0, none⟩) 1 1 := by rfl) :
    wpList P ops Q (o :: rest) a (W.alloc (.cells #[vi] 66)) :=
  Kd.R_append kR (w0 := W) 0 hgd s x 47 66 z 24 ho ht hinfo hz (by decide) (by decide) v ls ys [vi] Any _ hs hx (inner_ok HO.out hi) (fun k hk => ⟨trivial, hk⟩) (fun _ _ => trivial) HO.out ⟨rfl, rfl, rfl, Nat.le_refl _, fun _ _ => rfl⟩ (Nat.zero_le _) (by omega)
    (fun v1 w1 h1 _ hg hat => h v1 w1 ⟨h1⟩ ⟨fun k hk => by
      rcases hat with e | ⟨b, e, hb⟩
      · exact HN.out k (e ▸ hk)
      · rw [e] at hk; injection hk with hk; subst hk; exact Nat.le_trans HL.out.below.size hb⟩
      ⟨HL.out.grown HO.out hg (pw_below_grown HL.out.below _ HL.out.below.size hg HN.out) hne⟩ hg)
end
def wdt (ns : List S77) (j : Nat) : Nat := (ns.getD j z77).f1.toNat
/-- A node that may be. -/
structure NOk (ns : List S77) (i : Nat) (x : S77) : Prop where
  w : 1 ≤ x.f1 ∧ x.f1 ≤ 16
  op : x.f0 = 1 ∨ x.f0 = 21 ∨ x.f0 = 22 ∨ (3 ≤ x.f0 ∧ x.f0 ≤ 18 ∧ ∃ A B C : Nat, x.f2 = A ∧ x.f3 = B ∧ x.f4 = C ∧ A < i ∧ B < i ∧ C < i ∧ DoOk x (wdt ns A) (wdt ns B) (wdt ns C) (wdt ns i))
def Nodes (ns : List S77) : Prop := ∀ (i : Nat) (h : i < ns.length), NOk ns i ns[i]
theorem Nodes.wid {ns : List S77} (h : Nodes ns) : Wid ns := fun x hx => by
  obtain ⟨i, hi, rfl⟩ := List.mem_iff_getElem.1 hx
  exact (h i hi).w
theorem wdt_eq {ns : List S77} {i m : Nat} (h : i < ns.length) (hm : ns[i].f1 = (m : Int)) : wdt ns i = m := by
  unfold wdt; rw [List.getD_eq_getElem?_getD, List.getElem?_eq_getElem h]; simp [hm]
def RowsOk (ns : List S77) (T : Int) (k : Nat) (outs : List (List Int)) : Prop := ∀ (j : Nat) (h : j < outs.length), outs[j].length = wdt ns j ∧ Vlds T k outs[j]
theorem RowsOk.up {ns : List S77} {T : Int} {k m : Nat} {outs : List (List Int)} (h : RowsOk ns T k outs) (hm : k ≤ m) : RowsOk ns T m outs := fun j hj => ⟨(h j hj).1, (h j hj).2.up hm⟩
theorem RowsOk.snoc {ns : List S77} {T : Int} {k : Nat} {outs : List (List Int)} {ys : List Int} (h : RowsOk ns T k outs) (h1 : ys.length = wdt ns outs.length) (h2 : Vlds T k ys) : RowsOk ns T k (outs ++ [ys]) := by
  intro j hj
  rcases Nat.lt_or_ge j outs.length with h3 | h3
  · rw [List.getElem_append_left h3]; exact h j h3
  · have : j = outs.length := by rw [List.length_append, List.length_singleton] at hj; omega
    subst this
    simp [h1, h2]
theorem DoOk.lit {m : Nat} {fa fb fc fn fl : Int} (hm : m ≤ 16) : DoOk ⟨1, m, fa, fb, fc, fn, fl⟩ 0 0 0 m := ⟨rfl, hm, by omega, by omega, fun h => by simp at h, fun h => by simp at h, fun h => by simp at h, fun h => by simp at h, fun h => by simp at h, fun h => by simp at h, fun h => by simp at h, .inl rfl⟩
/-- A graph and the bits of nodes are handed back. -/
def RetM (ns : List S77) (T : Int) (w : World) (e : Ending) (w' : World) : Prop := ∃ v' l' vo outs, e = .returned (.tuple #[.agg #[.int .i64 T, v'], vo]) ∧ GOk T v' l' 0 w' ∧ l'.length ≤ 256000 ∧ Rr w' vo outs ∧ outs.length = ns.length ∧ RowsOk ns T l'.length outs ∧ Below w.heap.size w w'
section
variable {P : Program} {ops : Array Oper} {rest : List Oper} {o : Oper} {a : Act} {Q : Exit → Act → World → Prop}
/-- A struct is read out of a row's element. -/
theorem zle {W : World} (N : Tmp) (t : TypeId) (x : Operand) (cs : List Value) {a0 : Addr} {d : TypeDesc} (hc : ∀ (j : Nat) v, cs[j]? = some v → W.cell? (a0.add j) = some v) (hu : P.underlying t = some d)
    (h : wpList P ops Q rest (a.put o.dst (.agg cs.toArray)) W) (_hN : o.dst = some N := by rfl) (ho : o.op = .load t x := by rfl) (hx : a.eval x = .pointer (some a0) := by rfl) (hgd : o.guard = none := by rfl)
    (hd : (match d with | .struct _ | .array _ _ => true | _ => false) = true := by rfl) (hq : (P.info? t).map (·.size) = some cs.length := by kernel_rfl) : wpList P ops Q (o :: rest) a W :=
  wpList_load_cells hgd t x ho a0 hx cs hc d hu hd hq h
end
theorem rowC {w : World} {A : Option Addr} {c : Nat} {ls : List (List Int)} (h : Rr w (.slice A ls.length c) ls) : kR.C w A ls.length ls := (Kd.R_reads' h).2.2
set_option maxHeartbeats 64000000 in
set_option maxRecDepth 100000 in
theorem made_any (n : S27) (cs : List Value) (w : World) (h : k27.K w n cs) (hn : Nodes n.f0) (hl : n.f0.length ≤ 100) : Calls Try.prog 43 #[.agg cs.toArray] w (RetM n.f0 (wideS 21 n.f0 + wideS 22 n.f0) w) := by
  have HK := am h
  obtain ⟨A0, c0, A1, c1, A2, c2, A3, c3, A4, c4, rfl, hl0, hC0, _⟩ := k27_open h
  have HC := am hC0
  have HN := am hn
  have HW := am hn.wid
  have HL : Aside0 (Led [] w w) := ⟨Led.nil w⟩
  have hu30 := Try.underlying30
  have hu77 := Try.underlying77
  have hu27 := Try.underlying27
  obtain ⟨b1, b2⟩ := wideS_bnd 21 _ HW.out
  obtain ⟨b3, b4⟩ := wideS_bnd 22 _ HW.out
  have KI := am (fun W (hb : Below w.heap.size w W) => wide_any n _ 21 W (k27.K_below hb HK.out) HW.out hl)
  have KS_ := am (fun W (hb : Below w.heap.size w W) => wide_any n _ 22 W (k27.K_below hb HK.out) HW.out hl)
  have HI := am (fun i => wideS_le 21 n.f0 HW.out i)
  have HS := am (fun i => wideS_le 22 n.f0 HW.out i)
  obtain ⟨I, hI⟩ : ∃ I, wideS 21 n.f0 = I := ⟨_, rfl⟩
  obtain ⟨S, hS⟩ : ∃ S, wideS 22 n.f0 = S := ⟨_, rfl⟩
  rw [hI] at KI b1 b2 HI ⊢
  rw [hS] at KS_ b3 b4 HS ⊢
  have HT : Aside0 (0 ≤ I ∧ 0 ≤ S ∧ I ≤ 1600 ∧ S ≤ 1600) := ⟨by omega⟩
  have b5 : I ≤ 1600 := by omega
  have b6 : S ≤ 1600 := by omega
  clear h hC0 hn b2 b4 hI hS
  go_enter Try.func43, Try.ntmps43
  go_wp2_with (first
    | ((with_reducible refine zg 1 rfl ?_); refine zx 1 [.slice A0 n.f0.length c0, .slice A1 n.f1.length c1, .slice A2 n.f2.length c2, .slice A3 n.f3.length c3, .slice A4 n.f4.length c4] 27 HL ?_; clear HL; intro g1 w1_ HL hb_; clear hb_)
    | ((with_reducible refine zg 2 rfl ?_); refine zx 2 [.int .i64 0, .slice none 0 0] 30 HL ?_; clear HL; intro g2 w2_ HL hb_; clear hb_)
    | ((with_reducible refine zg 15 rfl ?_); refine zl 1 27 (.tmp 1) HL hu27 ?_)
    | (go_at_call 74; first | ((with_reducible refine (KI.out _ HL.out.below).mono ?_); rintro e we ⟨r, he, hr, hb⟩; rw [hr] at he; subst he; clear hr; replace HL := am (HL.out.step hb); clear hb) | ((with_reducible refine (KS_.out _ HL.out.below).mono ?_); rintro e we ⟨r, he, hr, hb⟩; rw [hr] at he; subst he; clear hr; replace HL := am (HL.out.step hb); clear hb))
    | ((with_reducible refine zg 18 rfl ?_); refine zl 1 27 (.tmp 1) HL hu27 ?_)
    | (go_at_call 75; refine (new13_any _ _).mono ?_; rintro e we ⟨rfl, hb⟩; replace HL := am (HL.out.step hb); clear hb)
    | ((with_reducible refine zg 5 rfl ?_); refine zx 5 [.int .i64 0, .slice none 0 0] 30 HL ?_; clear HL; intro g5 w3_ HL hb_; clear hb_)
    | ((with_reducible refine zst 30 (.tmp 5) (.tmp 21) rfl ?_); refine zs 0 0 30 (.tmp 5) (.tmp 21) [.int .i64 (I + S), .slice none 0 0] HL ?_; intro w4_ HLn hfar; replace HL := HLn; clear HLn hfar))
  have HG : Aside0 (GOk (I + S) (.slice none 0 0) [] 0 w4_) := ⟨⟨Kd.R_nil _ _ _ _ _, fun i hi => by simp at hi, by omega, by omega, by simp⟩⟩
  have HO : Aside0 (Rr w4_ (.slice none 0 0) []) := ⟨Kd.R_nil _ _ _ _ _⟩
  have HE := am (Ext.refl (k := 0) HG.out.ok)
  go_loopw [6, 7, 8, 9] (fun v6 v7 v8 v9 wr => ∃ (i : Nat) (v' : Value) (l' : List S117) (outs : List (List Int)), v9 = .int .i64 (i : Int) ∧ i ≤ n.f0.length ∧ v7 = .int .i64 (1 + wideS 21 (n.f0.take i)) ∧ v8 = .int .i64 (1 + I + wideS 22 (n.f0.take i)) ∧ Aside0 (Led [(g5, [.int .i64 (I + S), v'], 30), (g2, [.int .i64 0, .slice none 0 0], 30), (g1, [.slice A0 n.f0.length c0, .slice A1 n.f1.length c1, .slice A2 n.f2.length c2, .slice A3 n.f3.length c3, .slice A4 n.f4.length c4], 27)] w wr) ∧ Aside0 (GOk (I + S) v' l' 0 wr) ∧ Aside0 (Ext (I + S) [] l' (2560 * i)) ∧ Aside0 (Rr wr v6 outs) ∧ Aside0 (Own w v6) ∧ Aside0 (outs.length = i) ∧ Aside0 (RowsOk n.f0 (I + S) l'.length outs)) (fun _ _ _ v _ => n.f0.length - (intOf v).toNat)
  case atStart => exact ⟨0, _, [], [], rfl, Nat.zero_le _, by simp [wideS], by simp [wideS], HL, HG, HE, HO, ⟨fun k hk => by simp [Value.ownBlock] at hk⟩, ⟨rfl⟩, ⟨fun j hj => by simp at hj⟩⟩
  case round =>
    clear HL HG HE HO
    obtain ⟨i, v', l', outs, rfl, hi, rfl, rfl, HL, HG, HE, HO, HOW, HOL, HRK⟩ := hrel
    obtain ⟨A', c', rfl, _⟩ := HG.out.slice
    obtain ⟨AO, cO, rfl⟩ := Kd.R_slice HO.out
    have hk1 : wr.cell? ⟨g1, 0, none⟩ = some (.slice A0 n.f0.length c0) := blk_cell HL.out.g2 0
    by_cases hlt : i < n.f0.length
    · have q0 : (0 : Int) ≤ (i : Int) := by omega
      have q1 : (i : Int) < (n.f0.length : Int) := by omega
      obtain ⟨ad, cx, rfl, hKx, hcx⟩ := el_get HC.out i hlt
      have hNx := HN.out i hlt
      have hw21 := wideS_take 21 n.f0 i hlt
      have hw22 := wideS_take 22 n.f0 i hlt
      have hwd := @wdt_eq n.f0 i
      obtain ⟨⟨o, wd, fa, fb, fc, fn, fl⟩, hx⟩ : ∃ x, n.f0[i] = x := ⟨_, rfl⟩
      rw [hx] at hKx hNx hw21 hw22
      obtain ⟨m, hm⟩ : ∃ m : Nat, wd = (m : Int) := ⟨wd.toNat, by have := hNx.w.1; simp only [] at this; omega⟩
      subst hm
      have HWD : Aside0 (wdt n.f0 i = m) := ⟨hwd hlt (by rw [hx])⟩
      have hm1 : 1 ≤ m := by have := hNx.w.1; simp only [] at this; omega
      have hm16 : m ≤ 16 := by have := hNx.w.2; simp only [] at this; omega
      obtain rfl := k77_open hKx
      have HCX := am hcx
      have HNX := am hNx
      have hs1 := (wideS_bnd 21 _ (HW.out.take i)).1
      have hs2 := (wideS_bnd 22 _ (HW.out.take i)).1
      have hs3 := HI.out (i + 1)
      have hs4 := HS.out (i + 1)
      have hs5 := HI.out i
      have hs6 := HS.out i
      obtain ⟨s1, e1⟩ : ∃ s, wideS 21 (n.f0.take i) = s := ⟨_, rfl⟩
      obtain ⟨s2, e2⟩ : ∃ s, wideS 22 (n.f0.take i) = s := ⟨_, rfl⟩
      rw [e1] at hw21 hs1 hs5
      rw [e2] at hw22 hs2 hs6
      rw [e1, e2]
      have HW1 := am hw21
      have HW2 := am hw22
      have HS3 := am hs3
      have HS4 := am hs4
      clear hKx hcx hNx hw21 hw22 hwd hx e1 e2 hs3 hs4
      by_cases o21 : o = 21
      · subst o21
        have hs7 : s1 + m ≤ I := by have := HS3.out; rw [HW1.out, if_pos rfl] at this; exact this
        go_wp2_with (first
            | ((with_reducible refine zg 35 rfl ?_); refine zle 35 77 (.tmp 34) [.int .i64 21, .int .i64 (m : Int), .int .i64 fa, .int .i64 fb, .int .i64 fc, .int .i64 fn, .int .i64 fl] (HCX.out _ HL.out.below) hu77 ?_)
            | ((with_reducible refine zg 10 rfl ?_); refine zx 10 [.int .i64 0, .int .i64 0, .int .i64 0, .int .i64 0, .int .i64 0, .int .i64 0, .int .i64 0] 77 HL ?_; clear HL; intro g10 w1_ HL hb_; replace HG := am (HG.out.step hb_); replace HO := am (Kd.R_below HO.out hb_); clear hb_)
            | ((with_reducible refine zst 77 (.tmp 10) (.tmp 35) rfl ?_); refine zs 0 0 77 (.tmp 10) (.tmp 35) [.int .i64 21, .int .i64 (m : Int), .int .i64 fa, .int .i64 fb, .int .i64 fc, .int .i64 fn, .int .i64 fl] HL ?_; intro w2_ HLn hfar; replace HG := am (HG.out.far HL.out 0 rfl hfar); replace HO := am (RfarG HO.out HL.out 0 rfl hfar); replace HL := HLn; clear HLn hfar; have hn0 : w2_.cell? ⟨g10, 0, none⟩ = some (.int .i64 21) := blk_cell (HL.out.get 0 rfl) 0; have hn1 : w2_.cell? ⟨g10, 1, none⟩ = some (.int .i64 (m : Int)) := blk_cell (HL.out.get 0 rfl) 1)
            | (go_at_call 76; refine (bits_any (1 + s1) m _ (by omega) (by omega) hm16).mono ?_; rintro e we ⟨vr, rr, rfl, hr, hrr, hb⟩; replace hrr := am hrr; obtain ⟨AR, cR, rfl⟩ := Kd.R_slice hr; replace HL := am (HL.out.step hb); replace HG := am (HG.out.step hb); replace HO := am (Kd.R_below HO.out hb); clear hb hn0 hn1)
            | ((with_reducible refine zg 72 rfl ?_); refine zapr (.tmp 66) (.tmp 71) HL HO HOW hr Try.underlying47 info66 (by have := HOL.out; omega) ?_; intro v9_ w9_ HO9 HOW9 HL9 hg_; obtain ⟨outs2, ho2⟩ : ∃ z, outs ++ [rr] = z := ⟨_, rfl⟩; rw [ho2] at HO9; have HRE := am ho2; clear ho2; obtain ⟨A9, c9, rfl⟩ := Kd.R_slice HO9.out; replace HG := am (HG.out.other HO.out hg_); replace HL := HL9; replace HO := HO9; replace HOW := HOW9; clear HO9 HL9 HOW9 hg_; have hn1 : w9_.cell? ⟨g10, 1, none⟩ = some (.int .i64 (m : Int)) := blk_cell (HL.out.get 0 rfl) 1))
        go_roundw
        case rel => exact ⟨i + 1, _, l', outs2, by go_num, by omega, by rw [HW1.out]; exact congrArg (Value.int .i64) (by simp <;> omega), by rw [HW2.out]; exact congrArg (Value.int .i64) (by simp <;> omega), ⟨HL.out.drop⟩, HG, ⟨HE.out.mono (by omega)⟩, HO, HOW, ⟨by rw [← HRE.out, List.length_append, HOL.out]; rfl⟩, ⟨by rw [← HRE.out]; exact HRK.out.snoc (by rw [hrr.out.1, HOL.out, HWD.out]) (fun y hy => ⟨(hrr.out.2 y hy).1, by have := (hrr.out.2 y hy).2; have := HG.out.i0; omega⟩)⟩⟩
        case measure => simp [intOf]; omega
      · have e21 : (o == 21) = false := by simp; exact o21
        by_cases o22 : o = 22
        · subst o22
          have hs7 : s2 + m ≤ S := by have := HS4.out; rw [HW2.out, if_pos rfl] at this; exact this
          go_wp2_with (first
              | ((with_reducible refine zg 35 rfl ?_); refine zle 35 77 (.tmp 34) [.int .i64 22, .int .i64 (m : Int), .int .i64 fa, .int .i64 fb, .int .i64 fc, .int .i64 fn, .int .i64 fl] (HCX.out _ HL.out.below) hu77 ?_)
              | ((with_reducible refine zg 10 rfl ?_); refine zx 10 [.int .i64 0, .int .i64 0, .int .i64 0, .int .i64 0, .int .i64 0, .int .i64 0, .int .i64 0] 77 HL ?_; clear HL; intro g10 w1_ HL hb_; replace HG := am (HG.out.step hb_); replace HO := am (Kd.R_below HO.out hb_); clear hb_)
              | ((with_reducible refine zst 77 (.tmp 10) (.tmp 35) rfl ?_); refine zs 0 0 77 (.tmp 10) (.tmp 35) [.int .i64 22, .int .i64 (m : Int), .int .i64 fa, .int .i64 fb, .int .i64 fc, .int .i64 fn, .int .i64 fl] HL ?_; intro w2_ HLn hfar; replace HG := am (HG.out.far HL.out 0 rfl hfar); replace HO := am (RfarG HO.out HL.out 0 rfl hfar); replace HL := HLn; clear HLn hfar; have hn0 : w2_.cell? ⟨g10, 0, none⟩ = some (.int .i64 22) := blk_cell (HL.out.get 0 rfl) 0; have hn1 : w2_.cell? ⟨g10, 1, none⟩ = some (.int .i64 (m : Int)) := blk_cell (HL.out.get 0 rfl) 1)
              | (go_at_call 76; refine (bits_any (1 + I + s2) m _ (by omega) (by omega) hm16).mono ?_; rintro e we ⟨vr, rr, rfl, hr, hrr, hb⟩; replace hrr := am hrr; obtain ⟨AR, cR, rfl⟩ := Kd.R_slice hr; replace HL := am (HL.out.step hb); replace HG := am (HG.out.step hb); replace HO := am (Kd.R_below HO.out hb); clear hb hn0 hn1)
              | ((with_reducible refine zg 85 rfl ?_); refine zapr (.tmp 79) (.tmp 84) HL HO HOW hr Try.underlying47 info66 (by have := HOL.out; omega) ?_; intro v9_ w9_ HO9 HOW9 HL9 hg_; obtain ⟨outs2, ho2⟩ : ∃ z, outs ++ [rr] = z := ⟨_, rfl⟩; rw [ho2] at HO9; have HRE := am ho2; clear ho2; obtain ⟨A9, c9, rfl⟩ := Kd.R_slice HO9.out; replace HG := am (HG.out.other HO.out hg_); replace HL := HL9; replace HO := HO9; replace HOW := HOW9; clear HO9 HL9 HOW9 hg_; have hn1 : w9_.cell? ⟨g10, 1, none⟩ = some (.int .i64 (m : Int)) := blk_cell (HL.out.get 0 rfl) 1))
          go_roundw
          case rel => exact ⟨i + 1, _, l', outs2, by go_num, by omega, by rw [HW1.out]; exact congrArg (Value.int .i64) (by simp <;> omega), by rw [HW2.out]; exact congrArg (Value.int .i64) (by simp <;> omega), ⟨HL.out.drop⟩, HG, ⟨HE.out.mono (by omega)⟩, HO, HOW, ⟨by rw [← HRE.out, List.length_append, HOL.out]; rfl⟩, ⟨by rw [← HRE.out]; exact HRK.out.snoc (by rw [hrr.out.1, HOL.out, HWD.out]) (fun y hy => ⟨(hrr.out.2 y hy).1, by have := (hrr.out.2 y hy).2; have := HG.out.i0; omega⟩)⟩⟩
          case measure => simp [intOf]; omega
        · have e22 : (o == 22) = false := by simp; exact o22
          by_cases o1 : o = 1
          · subst o1
            go_wp2_with (first
                | ((with_reducible refine zg 35 rfl ?_); refine zle 35 77 (.tmp 34) [.int .i64 1, .int .i64 (m : Int), .int .i64 fa, .int .i64 fb, .int .i64 fc, .int .i64 fn, .int .i64 fl] (HCX.out _ HL.out.below) hu77 ?_)
                | ((with_reducible refine zg 10 rfl ?_); refine zx 10 [.int .i64 0, .int .i64 0, .int .i64 0, .int .i64 0, .int .i64 0, .int .i64 0, .int .i64 0] 77 HL ?_; clear HL; intro g10 w1_ HL hb_; replace HG := am (HG.out.step hb_); replace HO := am (Kd.R_below HO.out hb_); clear hb_)
                | ((with_reducible refine zst 77 (.tmp 10) (.tmp 35) rfl ?_); refine zs 0 0 77 (.tmp 10) (.tmp 35) [.int .i64 1, .int .i64 (m : Int), .int .i64 fa, .int .i64 fb, .int .i64 fc, .int .i64 fn, .int .i64 fl] HL ?_; intro w2_ HLn hfar; replace HG := am (HG.out.far HL.out 0 rfl hfar); replace HO := am (RfarG HO.out HL.out 0 rfl hfar); replace HL := HLn; clear HLn hfar; have hn0 : w2_.cell? ⟨g10, 0, none⟩ = some (.int .i64 1) := blk_cell (HL.out.get 0 rfl) 0; have hn1 : w2_.cell? ⟨g10, 1, none⟩ = some (.int .i64 (m : Int)) := blk_cell (HL.out.get 0 rfl) 1)
                | ((with_reducible refine zg 93 rfl ?_); refine zl 1 30 (.tmp 5) HL hu30 ?_)
                | ((with_reducible refine zg 94 rfl ?_); refine zl 0 77 (.tmp 10) HL hu77 ?_)
                | (go_at_call 77; refine (do_any (I + S) _ l' ⟨1, (m : Int), fa, fb, fc, fn, fl⟩ none 0 [] none 0 [] none 0 [] m _ (HG.out.more (by have := HE.out.len; simp only [List.length_nil] at this; omega)) (Kd.C_nil _ _) (Kd.C_nil _ _) (Kd.C_nil _ _) (fun _ h => by cases h) (fun _ h => by cases h) (fun _ h => by cases h) (Nat.le_refl _) (DoOk.lit hm16)).mono ?_; rintro e we ⟨v2, l2, vr, rr, rfl, hg, he, hr, hrl, hrs, hb⟩; obtain ⟨A2, c2, rfl, _⟩ := hg.slice; obtain ⟨AR, cR, rfl⟩ := Kd.R_slice hr; replace HL := am (HL.out.step hb); replace HO := am (Kd.R_below HO.out hb); replace HRK := am (HRK.out.up he.le); replace HG := am hg; replace HE := am (HE.out.trans he); have HR := am hr; have HRS := am hrs; have HRL := am hrl; clear hg he hb hr hrs hrl hn0 hn1)
                | ((with_reducible refine zg 11 rfl ?_); refine zx 11 [.int .i64 0, .slice none 0 0] 30 HL ?_; clear HL; intro g11 w3_ HL hb_; replace HG := am (HG.out.step hb_); replace HO := am (Kd.R_below HO.out hb_); replace HR := am (Kd.R_below HR.out hb_); clear hb_)
                | ((with_reducible refine zst 30 (.tmp 11) (.tmp 96) rfl ?_); refine zs 0 0 30 (.tmp 11) (.tmp 96) [.int .i64 (I + S), .slice A2 l2.length c2] HL ?_; intro w4_ HLn hfar; replace HG := am (HG.out.far HL.out 0 rfl hfar); replace HO := am (RfarG HO.out HL.out 0 rfl hfar); replace HR := am (Rfar HR.out HL.out 0 rfl hfar); replace HL := HLn; clear HLn hfar)
                | ((with_reducible refine zg 98 rfl ?_); refine zl 0 30 (.tmp 11) HL hu30 ?_)
                | ((with_reducible refine zst 30 (.tmp 5) (.tmp 98) rfl ?_); refine zs 2 0 30 (.tmp 5) (.tmp 98) [.int .i64 (I + S), .slice A2 l2.length c2] HL ?_; intro w5_ HLn hfar; replace HG := am (HG.out.far HL.out 2 rfl hfar); replace HO := am (RfarG HO.out HL.out 2 rfl hfar); replace HR := am (Rfar HR.out HL.out 2 rfl hfar); replace HL := HLn; clear HLn hfar)
                | ((with_reducible refine zg 102 rfl ?_); refine zapr (.tmp 99) (.tmp 101) HL HO HOW HR.out Try.underlying47 info66 (by have := HOL.out; omega) ?_; intro v9_ w9_ HO9 HOW9 HL9 hg_; obtain ⟨outs2, ho2⟩ : ∃ z, outs ++ [rr] = z := ⟨_, rfl⟩; rw [ho2] at HO9; have HRE := am ho2; clear ho2; obtain ⟨A9, c9, rfl⟩ := Kd.R_slice HO9.out; replace HG := am (HG.out.other HO.out hg_); replace HL := HL9; replace HO := HO9; replace HOW := HOW9; clear HO9 HL9 HOW9 hg_))
            go_roundw
            case rel => exact ⟨i + 1, _, l2, outs2, by go_num, by omega, by rw [HW1.out]; exact congrArg (Value.int .i64) (by simp <;> omega), by rw [HW2.out]; exact congrArg (Value.int .i64) (by simp <;> omega), ⟨HL.out.drop.drop⟩, HG, ⟨HE.out.mono (by omega)⟩, HO, HOW, ⟨by rw [← HRE.out, List.length_append, HOL.out]; rfl⟩, ⟨by rw [← HRE.out]; exact HRK.out.snoc (by rw [HRL.out, HOL.out, HWD.out]) (HRS.out)⟩⟩
            case measure => simp [intOf]; omega
          · have e1 : (o == 1) = false := by simp; exact o1
            have HZ21 : Aside0 (wideS 21 (n.f0.take (i + 1)) = s1) := ⟨by rw [HW1.out, if_neg o21]; omega⟩
            have HZ22 : Aside0 (wideS 22 (n.f0.take (i + 1)) = s2) := ⟨by rw [HW2.out, if_neg o22]; omega⟩
            obtain ⟨hop1, hop2, A, B, C, ha, hb, hc, hA, hB, hC, hdo⟩ : 3 ≤ o ∧ o ≤ 18 ∧ ∃ A B C : Nat, fa = A ∧ fb = B ∧ fc = C ∧ A < i ∧ B < i ∧ C < i ∧ DoOk ⟨o, m, fa, fb, fc, fn, fl⟩ (wdt n.f0 A) (wdt n.f0 B) (wdt n.f0 C) (wdt n.f0 i) := by
              rcases HNX.out.op with h | h | h | h
              · exact absurd h o1
              · exact absurd h o21
              · exact absurd h o22
              · exact h
            subst ha hb hc
            have HDO := am hdo
            have HAB : Aside0 (A < i ∧ B < i ∧ C < i) := ⟨hA, hB, hC⟩
            clear o21 o22 o1 hdo hop1 hop2 hA hB hC
            go_upto_region 11 with (first
              | ((with_reducible refine zg 35 rfl ?_); refine zle 35 77 (.tmp 34) [.int .i64 o, .int .i64 (m : Int), .int .i64 (A : Int), .int .i64 (B : Int), .int .i64 (C : Int), .int .i64 fn, .int .i64 fl] (HCX.out _ HL.out.below) hu77 ?_)
              | ((with_reducible refine zg 10 rfl ?_); refine zx 10 [.int .i64 0, .int .i64 0, .int .i64 0, .int .i64 0, .int .i64 0, .int .i64 0, .int .i64 0] 77 HL ?_; clear HL; intro g10 w1_ HL hb_; replace HG := am (HG.out.step hb_); replace HO := am (Kd.R_below HO.out hb_); clear hb_)
              | ((with_reducible refine zst 77 (.tmp 10) (.tmp 35) rfl ?_); refine zs 0 0 77 (.tmp 10) (.tmp 35) [.int .i64 o, .int .i64 (m : Int), .int .i64 (A : Int), .int .i64 (B : Int), .int .i64 (C : Int), .int .i64 fn, .int .i64 fl] HL ?_; intro w2_ HLn hfar; replace HG := am (HG.out.far HL.out 0 rfl hfar); replace HO := am (RfarG HO.out HL.out 0 rfl hfar); replace HL := HLn; clear HLn hfar; have hn0 : w2_.cell? ⟨g10, 0, none⟩ = some (.int .i64 o) := blk_cell (HL.out.get 0 rfl) 0; have hn1 : w2_.cell? ⟨g10, 1, none⟩ = some (.int .i64 (m : Int)) := blk_cell (HL.out.get 0 rfl) 1))
            have hO9 := rowC HO.out
            obtain ⟨od, AA, cA, hod, hxA, hlA, hCA⟩ := atS hO9 A (by have := HOL.out; have := HAB.out; omega)
            subst hod
            obtain ⟨odB, AB, cB, hod, hxB, hlB, hCB⟩ := atS hO9 B (by have := HOL.out; have := HAB.out; omega)
            cases hod
            obtain ⟨odC, AC, cC, hod, hxC, hlC, hCC⟩ := atS hO9 C (by have := HOL.out; have := HAB.out; omega)
            cases hod
            have pA : (0 : Int) ≤ (A : Int) := by omega
            have rA : (A : Int) < (outs.length : Int) := by have := HOL.out; have := HAB.out; omega
            have HRA := am (HRK.out A (by have := HOL.out; have := HAB.out; omega))
            obtain ⟨xa, hyA⟩ : ∃ z, outs[A]'(by have := HOL.out; have := HAB.out; omega) = z := ⟨_, rfl⟩
            rw [hyA] at hxA hlA hCA HRA
            have HCA := am hCA
            have HLA := am hlA
            have pB : (0 : Int) ≤ (B : Int) := by omega
            have rB : (B : Int) < (outs.length : Int) := by have := HOL.out; have := HAB.out; omega
            have HRB := am (HRK.out B (by have := HOL.out; have := HAB.out; omega))
            obtain ⟨xb, hyB⟩ : ∃ z, outs[B]'(by have := HOL.out; have := HAB.out; omega) = z := ⟨_, rfl⟩
            rw [hyB] at hxB hlB hCB HRB
            have HCB := am hCB
            have HLB := am hlB
            have pC : (0 : Int) ≤ (C : Int) := by omega
            have rC : (C : Int) < (outs.length : Int) := by have := HOL.out; have := HAB.out; omega
            have HRC := am (HRK.out C (by have := HOL.out; have := HAB.out; omega))
            obtain ⟨xc, hyC⟩ : ∃ z, outs[C]'(by have := HOL.out; have := HAB.out; omega) = z := ⟨_, rfl⟩
            rw [hyC] at hxC hlC hCC HRC
            have HCC := am hCC
            have HLC := am hlC
            have HDOK : Aside0 (DoOk ⟨o, m, A, B, C, fn, fl⟩ xa.length xb.length xc.length m) := ⟨by rw [HRA.out.1, HRB.out.1, HRC.out.1]; have := HDO.out; rw [HWD.out] at this; exact this⟩
            clear hCA hCB hCC hlA hlB hlC hyA hyB hyC hO9
            have k0 : w2_.cell? ⟨g5, 0, none⟩ = some (.int .i64 (I + S)) := blk_cell (HL.out.get 1 rfl) 0
            have k1 : w2_.cell? ⟨g5, 1, none⟩ = some (.slice A' l'.length c') := blk_cell (HL.out.get 1 rfl) 1
            have kn0 : w2_.cell? ⟨g10, 0, none⟩ = some (.int .i64 o) := blk_cell (HL.out.get 0 rfl) 0
            have kn1 : w2_.cell? ⟨g10, 1, none⟩ = some (.int .i64 (m : Int)) := blk_cell (HL.out.get 0 rfl) 1
            have kn2 : w2_.cell? ⟨g10, 2, none⟩ = some (.int .i64 (A : Int)) := blk_cell (HL.out.get 0 rfl) 2
            have kn3 : w2_.cell? ⟨g10, 3, none⟩ = some (.int .i64 (B : Int)) := blk_cell (HL.out.get 0 rfl) 3
            have kn4 : w2_.cell? ⟨g10, 4, none⟩ = some (.int .i64 (C : Int)) := blk_cell (HL.out.get 0 rfl) 4
            have kn5 : w2_.cell? ⟨g10, 5, none⟩ = some (.int .i64 fn) := blk_cell (HL.out.get 0 rfl) 5
            have kn6 : w2_.cell? ⟨g10, 6, none⟩ = some (.int .i64 fl) := blk_cell (HL.out.get 0 rfl) 6
            have KS : Aside0 (∀ W, Below w2_.heap.size w2_ W → (W.cell? ⟨g5, 0, none⟩ = some (.int .i64 (I + S)) ∧ W.cell? ⟨g5, 1, none⟩ = some (.slice A' l'.length c') ∧ W.cell? ⟨g10, 0, none⟩ = some (.int .i64 o) ∧ W.cell? ⟨g10, 1, none⟩ = some (.int .i64 (m : Int)) ∧ W.cell? ⟨g10, 2, none⟩ = some (.int .i64 (A : Int)) ∧ W.cell? ⟨g10, 3, none⟩ = some (.int .i64 (B : Int)) ∧ W.cell? ⟨g10, 4, none⟩ = some (.int .i64 (C : Int)) ∧ W.cell? ⟨g10, 5, none⟩ = some (.int .i64 fn) ∧ W.cell? ⟨g10, 6, none⟩ = some (.int .i64 fl) ∧ W.cell? (od.add A) = some (.slice AA xa.length cA) ∧ W.cell? (od.add B) = some (.slice AB xb.length cB) ∧ W.cell? (od.add C) = some (.slice AC xc.length cC)) ∧ Aside0 (Below w2_.heap.size w2_ W)) := ⟨fun W hb => ⟨⟨pw_cell_below hb k0, pw_cell_below hb k1, pw_cell_below hb kn0, pw_cell_below hb kn1, pw_cell_below hb kn2, pw_cell_below hb kn3, pw_cell_below hb kn4, pw_cell_below hb kn5, pw_cell_below hb kn6, pw_cell_below hb hxA, pw_cell_below hb hxB, pw_cell_below hb hxC⟩, ⟨hb⟩⟩⟩
            clear hn0 hn1
            go_cut [13, 14] (fun sh sx wx => ∃ g13 v2 l2 AR cR rr, sh = .pointer (some ⟨g13, 0, none⟩) ∧ sx = .slice AR rr.length cR ∧ Aside0 (Led [(g13, [.int .i64 (I + S), v2], 30), (g10, [.int .i64 o, .int .i64 (m : Int), .int .i64 (A : Int), .int .i64 (B : Int), .int .i64 (C : Int), .int .i64 fn, .int .i64 fl], 77), (g5, [.int .i64 (I + S), .slice A' l'.length c'], 30), (g2, [.int .i64 0, .slice none 0 0], 30), (g1, [.slice (some ad) n.f0.length c0, .slice A1 n.f1.length c1, .slice A2 n.f2.length c2, .slice A3 n.f3.length c3, .slice A4 n.f4.length c4], 27)] w wx) ∧ Aside0 (GOk (I + S) v2 l2 0 wx) ∧ Aside0 (Ext (I + S) [] l2 (2560 * i + 2560)) ∧ Aside0 (Ri wx 0 (.slice AR rr.length cR) rr) ∧ Aside0 (rr.length = m) ∧ Aside0 (Vlds (I + S) l2.length rr) ∧ Aside0 (l'.length ≤ l2.length) ∧ Aside0 (Rr wx (.slice (some od) outs.length cO) outs))
            case first =>
              go_region_held3 (fun w' => (w'.cell? ⟨g5, 0, none⟩ = some (.int .i64 (I + S)) ∧ w'.cell? ⟨g5, 1, none⟩ = some (.slice A' l'.length c') ∧ w'.cell? ⟨g10, 0, none⟩ = some (.int .i64 o) ∧ w'.cell? ⟨g10, 1, none⟩ = some (.int .i64 (m : Int)) ∧ w'.cell? ⟨g10, 2, none⟩ = some (.int .i64 (A : Int)) ∧ w'.cell? ⟨g10, 3, none⟩ = some (.int .i64 (B : Int)) ∧ w'.cell? ⟨g10, 4, none⟩ = some (.int .i64 (C : Int)) ∧ w'.cell? ⟨g10, 5, none⟩ = some (.int .i64 fn) ∧ w'.cell? ⟨g10, 6, none⟩ = some (.int .i64 fl) ∧ w'.cell? (od.add A) = some (.slice AA xa.length cA) ∧ w'.cell? (od.add B) = some (.slice AB xb.length cB) ∧ w'.cell? (od.add C) = some (.slice AC xc.length cC)) ∧ Aside0 (Below w2_.heap.size w2_ w'))
                ((refine KS.out _ ?_; repeat (first | exact Aside0.out (And.right (by assumption)) | refine below_alloc ?_ _ | refine below_step ?_ (by assumption) | (refine below_set ?_ ?_; rotate_left; first | exact Nat.le_refl _ | exact (Aside0.out (p := Below w2_.heap.size w2_ _) (And.right (by assumption))).size | exact below_size (by repeat (first | (with_reducible exact Below.refl _ _) | refine below_alloc ?_ _ | refine below_drew ?_ | refine below_step ?_ (by assumption)))) | refine below_drew ?_ | exact Below.refl _ _)))
                (first | (go_at_call 77; refine (do_any (I + S) _ l' ⟨o, (m : Int), A, B, C, fn, fl⟩ AA cA xa AB cB xb AC cC xc m _ ((HG.out.step (by repeat (first | (with_reducible exact Below.refl _ _) | refine below_alloc ?_ _ | refine below_drew ?_ | refine below_step ?_ (by assumption)))).more (by have := HE.out.len; simp only [List.length_nil] at this; omega)) (Kd.C_below HCA.out (by repeat (first | (with_reducible exact Below.refl _ _) | refine below_alloc ?_ _ | refine below_drew ?_ | refine below_step ?_ (by assumption)))) (Kd.C_below HCB.out (by repeat (first | (with_reducible exact Below.refl _ _) | refine below_alloc ?_ _ | refine below_drew ?_ | refine below_step ?_ (by assumption)))) (Kd.C_below HCC.out (by repeat (first | (with_reducible exact Below.refl _ _) | refine below_alloc ?_ _ | refine below_drew ?_ | refine below_step ?_ (by assumption)))) HRA.out.2 HRB.out.2 HRC.out.2 HLA.out HDOK.out).mono ?_; rintro e_ we ⟨v2, l2, vr, rr, rfl, hg, he, hr, hrl, hrs, hb⟩; obtain ⟨A2, c2, rfl, _⟩ := hg.slice; obtain ⟨AR, cR, rfl⟩ := Kd.R_slice hr; replace hrl := am hrl; obtain ⟨hc, hf⟩ := bcell hb))
              all_goals
                go_wp2_with (fail)
                go_meet
                first
                  | exact ⟨_, _, l2, _, _, rr, rfl, rfl, ⟨(finA (HL.out.step (by repeat (first | (with_reducible exact Below.refl _ _) | refine below_alloc ?_ _ | refine below_drew ?_ | refine below_step ?_ (by assumption)))) hg).1⟩, ⟨(finA (HL.out.step (by repeat (first | (with_reducible exact Below.refl _ _) | refine below_alloc ?_ _ | refine below_drew ?_ | refine below_step ?_ (by assumption)))) hg).2⟩, ⟨HE.out.trans he⟩, ⟨Kd.R_below hr (below_alloc (Below.refl _ _) _)⟩, hrl, ⟨hrs⟩, ⟨he.le⟩, ⟨Kd.R_below HO.out (below_alloc (by repeat (first | (with_reducible exact Below.refl _ _) | refine below_alloc ?_ _ | refine below_drew ?_ | refine below_step ?_ (by assumption))) _)⟩⟩
                  | exact ⟨_, _, l2, _, _, rr, rfl, rfl, ⟨(finC (HL.out.step (by repeat (first | (with_reducible exact Below.refl _ _) | refine below_alloc ?_ _ | refine below_drew ?_ | refine below_step ?_ (by assumption)))) (by repeat (first | (with_reducible exact Below.refl _ _) | refine below_alloc ?_ _ | refine below_drew ?_ | refine below_step ?_ (by assumption))) hg).1⟩, ⟨(finC (HL.out.step (by repeat (first | (with_reducible exact Below.refl _ _) | refine below_alloc ?_ _ | refine below_drew ?_ | refine below_step ?_ (by assumption)))) (by repeat (first | (with_reducible exact Below.refl _ _) | refine below_alloc ?_ _ | refine below_drew ?_ | refine below_step ?_ (by assumption))) hg).2⟩, ⟨HE.out.trans he⟩, ⟨finCR (HL.out.step (by repeat (first | (with_reducible exact Below.refl _ _) | refine below_alloc ?_ _ | refine below_drew ?_ | refine below_step ?_ (by assumption)))) (by repeat (first | (with_reducible exact Below.refl _ _) | refine below_alloc ?_ _ | refine below_drew ?_ | refine below_step ?_ (by assumption))) hr (by decide)⟩, hrl, ⟨hrs⟩, ⟨he.le⟩, ⟨finCR (HL.out.step (by repeat (first | (with_reducible exact Below.refl _ _) | refine below_alloc ?_ _ | refine below_drew ?_ | refine below_step ?_ (by assumption)))) (by repeat (first | (with_reducible exact Below.refl _ _) | refine below_alloc ?_ _ | refine below_drew ?_ | refine below_step ?_ (by assumption))) (Kd.R_below HO.out (by repeat (first | (with_reducible exact Below.refl _ _) | refine below_alloc ?_ _ | refine below_drew ?_ | refine below_step ?_ (by assumption)))) (by decide)⟩⟩
            case rest =>
              clear k0 k1 kn0 kn1 kn2 kn3 kn4 kn5 kn6 hxA hxB hxC KS HL HG HE HO
              obtain ⟨g13, v2, l2, AR, cR, rr, rfl, rfl, HL, HG, HE, HR, HRL, HRS, HLE2, HO⟩ := hcut
              obtain ⟨A2, c2, rfl, _⟩ := HG.out.slice
              replace HRK := am (HRK.out.up HLE2.out)
              go_wp2_with (first
                  | ((with_reducible refine zg 59 rfl ?_); refine zl 0 30 (.tmp 13) HL hu30 ?_)
                  | ((with_reducible refine zst 30 (.tmp 5) (.tmp 59) rfl ?_); refine zs 2 0 30 (.tmp 5) (.tmp 59) [.int .i64 (I + S), .slice A2 l2.length c2] HL ?_; intro w3_ HLn hfar; replace HG := am (HG.out.far HL.out 2 rfl hfar); replace HO := am (RfarG HO.out HL.out 2 rfl hfar); replace HR := am (Rfar HR.out HL.out 2 rfl hfar); replace HL := HLn; clear HLn hfar)
                  | ((with_reducible refine zg 63 rfl ?_); refine zapr (.tmp 60) (.tmp 62) HL HO HOW HR.out Try.underlying47 info66 (by have := HOL.out; omega) ?_; intro v9_ w9_ HO9 HOW9 HL9 hg_; obtain ⟨outs2, ho2⟩ : ∃ z, outs ++ [rr] = z := ⟨_, rfl⟩; rw [ho2] at HO9; have HRE := am ho2; clear ho2; obtain ⟨A9, c9, rfl⟩ := Kd.R_slice HO9.out; replace HG := am (HG.out.other HO.out hg_); replace HL := HL9; replace HO := HO9; replace HOW := HOW9; clear HO9 HL9 HOW9 hg_))
              go_roundw
              case rel => exact ⟨i + 1, _, l2, outs2, by go_num, by omega, by rw [HZ21.out], by rw [HZ22.out], ⟨HL.out.drop.drop⟩, HG, ⟨HE.out.mono (by omega)⟩, HO, HOW, ⟨by rw [← HRE.out, List.length_append, HOL.out]; rfl⟩, ⟨by rw [← HRE.out]; exact HRK.out.snoc (by rw [HRL.out, HOL.out, HWD.out]) (HRS.out)⟩⟩
              case measure => simp [intOf]; omega
    · obtain rfl : i = n.f0.length := by omega
      go_wp2_with (first
          | ((with_reducible refine zg 103 rfl ?_); refine zl 0 30 (.tmp 5) HL hu30 ?_)
          | ((with_reducible refine zst 30 (.tmp 2) (.tmp 103) rfl ?_); refine zs 1 0 30 (.tmp 2) (.tmp 103) [.int .i64 (I + S), .slice A' l'.length c'] HL ?_; intro w1_ HLn hfar; replace HG := am (HG.out.far HL.out 1 rfl hfar); replace HO := am (RfarG HO.out HL.out 1 rfl hfar); replace HL := HLn; clear HLn hfar))
      refine zret 1 2 3 30 HL hu30 ?_
      exact ⟨_, l', _, outs, rfl, HG.out, by have := HE.out.len; simp only [List.length_nil] at this; omega, HO.out, HOL.out, HRK.out, HL.out.below⟩
def sumW (ns : List S77) : List Int → Int
  | [] => 0
  | j :: r => (wdt ns j.toNat : Int) + sumW ns r
theorem sumW_append (ns : List S77) : ∀ (a b : List Int), sumW ns (a ++ b) = sumW ns a + sumW ns b
  | [], b => by simp [sumW]
  | x :: r, b => by rw [List.cons_append, sumW, sumW, sumW_append ns r b]; omega
theorem sumW_take {α : Type} (ns : List S77) (f : α → Int) (l : List α) (i : Nat) (h : i < l.length) : sumW ns ((l.take (i + 1)).map f) = sumW ns ((l.take i).map f) + wdt ns (f l[i]).toNat := by
  rw [List.take_succ_eq_append_getElem h, List.map_append, sumW_append]; simp [sumW]
theorem wdt_le {ns : List S77} (h : Nodes ns) (j : Nat) : wdt ns j ≤ 16 := by
  unfold wdt
  rw [List.getD_eq_getElem?_getD]
  by_cases hj : j < ns.length
  · rw [List.getElem?_eq_getElem hj]; have := (h j hj).w; simp; omega
  · rw [List.getElem?_eq_none (by omega)]; simp [z77]
theorem sumW_bnd {ns : List S77} (h : Nodes ns) : ∀ (l : List Int), 0 ≤ sumW ns l ∧ sumW ns l ≤ 16 * l.length
  | [] => by simp [sumW]
  | j :: r => by have := sumW_bnd h r; have := wdt_le h j.toNat; rw [sumW, List.length_cons]; omega
structure NetOk (n : S27) : Prop where
  nodes : Nodes n.f0
  len : n.f0.length ≤ 100
  lp : n.f1.length ≤ 100
  lc : n.f2.length ≤ 16
  lo : n.f3.length ≤ 100
  pins : ∀ (i : Nat) (h : i < n.f1.length), ∃ j : Nat, n.f1[i].f1 = j ∧ j < n.f0.length
  cells : ∀ (i : Nat) (h : i < n.f2.length), ∃ j k : Nat, n.f2[i].f1 = j ∧ j < n.f0.length ∧ n.f2[i].f2 = k ∧ k < n.f0.length ∧ wdt n.f0 k = wdt n.f0 j
  props : ∀ (i : Nat) (h : i < n.f3.length), ∃ j : Nat, n.f3[i].f2 = j ∧ j < n.f0.length ∧ wdt n.f0 j = 1
  psum : sumW n.f0 (n.f1.map S79.f1) = wideS 21 n.f0
  csum : sumW n.f0 (n.f2.map S82.f1) = wideS 22 n.f0
def Pins (xs : List S80) : Prop := ∀ (j : Nat) (h : j < xs.length), xs[j].f0 = (j : Int) + 1
def Lats (T : Int) (k p : Nat) (xs : List S84) : Prop := ∀ (j : Nat) (h : j < xs.length), xs[j].f0 = (p : Int) + j + 1 ∧ Vld T k xs[j].f1
def Outs (T : Int) (k : Nat) (xs : List S88) : Prop := ∀ (j : Nat) (h : j < xs.length), Vld T k xs[j].f1
/-- What a circuit is. -/
structure CircOk (c : S35) : Prop where
  i0 : 0 ≤ c.f0.f0
  i1 : c.f0.f0 ≤ 3200
  ins : ((c.f1.length + c.f2.length : Nat) : Int) = c.f0.f0
  ok : OkA c.f0.f0 c.f0.f1
  len : c.f0.f1.length ≤ 256000
  pins : Pins c.f1
  lats : Lats c.f0.f0 c.f0.f1.length c.f1.length c.f2
  outs : Outs c.f0.f0 c.f0.f1.length c.f3
  lout : c.f3.length ≤ 100000
theorem Pins.snoc {xs : List S80} {a b c : Int} (h : Pins xs) (ha : a = (xs.length : Int) + 1) : Pins (xs ++ [⟨a, b, c⟩]) := by
  intro j hj
  rcases Nat.lt_or_ge j xs.length with h1 | h1
  · rw [List.getElem_append_left h1]; exact h j h1
  · have : j = xs.length := by rw [List.length_append, List.length_singleton] at hj; omega
    subst this; simp [ha]
theorem Lats.snoc {T : Int} {k p : Nat} {xs : List S84} {x : S84} (h : Lats T k p xs) (h1 : x.f0 = (p : Int) + xs.length + 1) (h2 : Vld T k x.f1) : Lats T k p (xs ++ [x]) := by
  intro j hj
  rcases Nat.lt_or_ge j xs.length with h3 | h3
  · rw [List.getElem_append_left h3]; exact h j h3
  · have : j = xs.length := by rw [List.length_append, List.length_singleton] at hj; omega
    subst this; simp [h1, h2]
theorem Outs.snoc {T : Int} {k : Nat} {xs : List S88} {x : S88} (h : Outs T k xs) (h2 : Vld T k x.f1) : Outs T k (xs ++ [x]) := by
  intro j hj
  rcases Nat.lt_or_ge j xs.length with h3 | h3
  · rw [List.getElem_append_left h3]; exact h j h3
  · have : j = xs.length := by rw [List.length_append, List.length_singleton] at hj; omega
    subst this; simp [h2]
/-- A circuit is handed back. -/
def RetC (w : World) (e : Ending) (w' : World) : Prop := ∃ (c : S35) (cs : List Value), e = .returned (.agg cs.toArray) ∧ k35.K w' c cs ∧ CircOk c ∧ Below w.heap.size w w'
theorem at79 {w : World} {A : Option Addr} {l : List S79} (h : Kd.C k79 w A l.length l) (i : Nat) (hi : i < l.length) : ∃ ad , A = some ad ∧ w.cell? (ad.add (i * 2)) = some (.string l[i].f0) ∧ w.cell? ⟨(ad.add (i * 2)).block, (ad.add (i * 2)).off + 1, none⟩ = some (.int .i64 l[i].f1) := by
  have e : rd_T79 l (i : Int) = l[i] := by simp [rd_T79, List.getD_eq_getElem?_getD, hi]
  have h2 := at_T79 h (i : Int) (by omega) (by omega)
  rw [e, Int.toNat_natCast] at h2
  exact h2
theorem at86 {w : World} {A : Option Addr} {l : List S86} (h : Kd.C k86 w A l.length l) (i : Nat) (hi : i < l.length) : ∃ ad , A = some ad ∧ w.cell? (ad.add (i * 3)) = some (.int .i64 l[i].f0) ∧ w.cell? ⟨(ad.add (i * 3)).block, (ad.add (i * 3)).off + 1, none⟩ = some (.string l[i].f1) ∧ w.cell? ⟨(ad.add (i * 3)).block, (ad.add (i * 3)).off + 2, none⟩ = some (.int .i64 l[i].f2) := by
  have e : rd_T86 l (i : Int) = l[i] := by simp [rd_T86, List.getD_eq_getElem?_getD, hi]
  have h2 := at_T86 h (i : Int) (by omega) (by omega)
  rw [e, Int.toNat_natCast] at h2
  exact h2
section
variable {P : Program} {ops : Array Oper} {md : Region.Mode} {Q : Exit → Act → World → Prop} {S : World → Prop} {ds : List Nat}
/-- A pure operation of a region that draws, taken first. -/
theorem pu {oi : Oper} {v : Value} {fuel : Nat} {l : Array Bool} {a : Act} {w : World} {a' : Act} (i : Nat) (N : Tmp)
    (h : wpAnyLast P md ops Q S ds fuel (l.setIfInBounds i true) a' w) (hc : anyB md ops l (l.setIfInBounds i true) i = true := by kernel_rfl) (hi : ops[i]? = some oi := by rfl) (hN : oi.dst = some N := by rfl)
    (hQ : ∀ c a w, Q (.panic c) (a.put oi.dst v) w → Q (.panic c) a w := by exact (fun _ _ _ h => h)) (hy : Yields P ops oi v a := by refine Or.inl ⟨by rfl, ?_⟩; intro w'; go_simp; with_reducible rfl)
    (ha : a.put (some N) v = a' := by simp only [Act.put, List.setIfInBounds_toArray, List.set_cons_zero, List.set_cons_succ, i64_w, i32_w]; rfl) : wpAnyLast P md ops Q S ds (fuel + 1) l a w := pure_ _ hi hN hc hQ hy ha h
/-- A load, taken first. -/
theorem tk {oi : Oper} {v : Value} {fuel : Nat} {l : Array Bool} {a : Act} {w : World} {a' : Act} (i : Nat) (N : Tmp) (hS : S w)
    (h : wpAnyLast P md ops Q S ds fuel (l.setIfInBounds i true) a' w) (hc : takeB md ops ds l (l.setIfInBounds i true) i = true := by kernel_rfl) (hi : ops[i]? = some oi := by rfl) (hN : oi.dst = some N := by rfl)
    (hQ : ∀ c a w, Q (.panic c) (a.put oi.dst v) w → Q (.panic c) a w := by exact (fun _ _ _ h => h)) (hy : YieldsIf P ops S oi v a := by refine Or.inl ⟨by rfl, ?_⟩; intro w' hS_; (try dsimp only at hS_); go_simp; with_reducible rfl)
    (ha : a.put (some N) v = a' := by simp only [Act.put, List.setIfInBounds_toArray, List.set_cons_zero, List.set_cons_succ, i64_w, i32_w]; rfl) : wpAnyLast P md ops Q S ds (fuel + 1) l a w := take_ _ hi hN hc hQ hy hS ha h
theorem onl {oi : Oper} {fuel : Nat} {l : Array Bool} {a : Act} {w : World} {a' : Act} (i : Nat) (N : Tmp) (cs : List Value) (e : TypeId) (hS : S (w.alloc (.cells cs.toArray e)))
    (h : S (w.alloc (.cells cs.toArray e)) → wpAnyLast P md ops Q S ds fuel (l.setIfInBounds i true) a' (w.alloc (.cells cs.toArray e)))
    (hc : readyB md ops l (l.setIfInBounds i true) i = true := by kernel_rfl) (hi : ops[i]? = some oi := by rfl) (hN : oi.dst = some N := by rfl) (hd : i ∉ ds := by decide) (hw : Region.wanted oi (yielded ops a.tmps) = true := by rfl)
    (hrun : (execOp a.eval oi).run P w = .ok (.value (.slice (some ⟨w.heap.size, 0, none⟩) 1 1)) (w.alloc (.cells cs.toArray e)) := by first | (go_simp; done) | (go_simp; rfl))
    (ha : a.put (some N) (.slice (some ⟨w.heap.size, 0, none⟩) 1 1) = a' := by simp only [Act.put, List.setIfInBounds_toArray, List.set_cons_zero, List.set_cons_succ]; rfl) : wpAnyLast P md ops Q S ds (fuel + 1) l a w := by
  refine one_ (N := some N) _ hi hN hc hd (fun K hK => ?_)
  rw [← hN]
  refine event_step hw hrun (hK.out _ _ hS (fun hs => ?_))
  rw [hN, ha]
  exact h hs
theorem onap {α : Type} (d : Kd α) {oi : Oper} {fuel : Nat} {l : Array Bool} {a : Act} {w0 W : World} {L : List Bx} (i : Nat) (N : Tmp) (s x : Operand) (t e : TypeId) {z : Value} {bytes : Nat} {v : Value} {xs : List α} (p : α) (cs : List Value)
    (HL : Led L w0 W) (HO : d.R e W w0.heap.size Any v xs) (ht : P.underlying t = some (.slice e)) (hinfo : (P.info? e).map (fun i => (i.zero, i.size, i.bytes)) = some (some z, d.sz, bytes))
    (hp : d.M W w0.heap.size (fun _ => False) p cs) (hl : (xs.length + 1) * bytes ≤ 140737488355328)
    (h : ∀ v1 w1, d.R e w1 w0.heap.size Any v1 (xs ++ [p]) → Led L w0 w1 → W.grownBy w1 v.ownBlock → wpAnyLast P md ops Q S ds fuel (l.setIfInBounds i true) (a.put (some N) v1) w1)
    (hne : ∀ b, b ∈ L → e ≠ b.2.2 := by simp) (hc : readyB md ops l (l.setIfInBounds i true) i = true := by kernel_rfl) (hi : ops[i]? = some oi := by rfl) (hN : oi.dst = some N := by rfl) (hd : i ∈ ds := by decide)
    (ho : oi.op = .call { callee := .builtin .append, args := #[s, x], argTypes := #[t, t] } := by rfl) (hw : Region.wanted oi (yielded ops a.tmps) = true := by rfl)
    (hz : z.cells.size = d.sz := by rfl) (hs0 : 0 < d.sz := by decide) (hb0 : 0 < bytes := by decide) (hs : a.eval s = v := by rfl) (hx : a.eval x = .slice (some ⟨W.heap.size, 0, none⟩) 1 1 := by rfl) :
    wpAnyLast P md ops Q S ds (fuel + 1) l a (W.alloc (.cells cs.toArray e)) := by
  refine last_ (N := some N) _ hi hN hc hd (fun K hK => ?_)
  rw [← hN]
  exact Kd.R_append_step d (w0 := w0) w0.heap.size hw s x t e z bytes ho ht hinfo hz hs0 hb0 v xs p cs Any (fun _ => False) hs hx hp (fun _ h => h.elim) (fun _ _ => trivial) HO HL.below HL.below.size hl
    (fun v1 w1 h1 hb hg _ => hK.out _ _ (by rw [hN]; exact h v1 w1 h1 (HL.grown HO hg hb hne) hg))
theorem onst {oi : Oper} {fuel : Nat} {l : Array Bool} {a : Act} {w0 W : World} {L : List Bx} (i k j : Nat) (t : TypeId) (p x : Operand) (seg : List Value) {g e : Nat} {cs : List Value} (HL : Led L w0 W)
    (h : ∀ w1, Led (L.set k (g, cs.take j ++ seg ++ cs.drop (j + seg.length), e)) w0 w1 → (∀ k, k ≠ g → w1.heap[k]? = W.heap[k]?) → wpAnyLast P md ops Q S ds fuel (l.setIfInBounds i true) a w1)
    (hk : L[k]? = some (g, cs, e) := by rfl) (hc : readyB md ops l (l.setIfInBounds i true) i = true := by kernel_rfl) (hi : ops[i]? = some oi := by rfl) (hN : oi.dst = none := by rfl) (hd : i ∈ ds := by decide)
    (ho : oi.op = .store t p x := by rfl) (hw : Region.wanted oi (yielded ops a.tmps) = true := by rfl)
    (hp : a.eval p = .pointer (some ⟨g, j, none⟩) := by rfl) {u : Value} (hx : a.eval x = u := by rfl) (hu : u.cells.toList = seg := by rfl) (hsz : j + seg.length ≤ cs.length := by exact Nat.le_of_ble_eq_true rfl)
    (ht : (P.info? t).map (·.size) = some seg.length := by kernel_rfl) (h1 : ∀ q ∈ seg, q.oneCell' = true := by simp [Value.oneCell']) : wpAnyLast P md ops Q S ds (fuel + 1) l a W := by
  refine last_ (N := none) _ hi hN hc hd (fun K hK => ?_)
  rw [if_pos hw]
  have hg := HL.get k hk
  have hrun := run_store_run (P := P) (w := W) (o := j) t u seg hg hu ht (by simpa using hsz) h1
  obtain ⟨cur', hl, hx1, hfar, hbel⟩ := store_in (i := j) seg hg (by simpa using hsz)
  rw [show cur' = (cs.take j ++ seg ++ cs.drop (j + seg.length)).toArray from Array.toList_inj.1 (by rw [hl])] at hx1
  unfold Oper.wp execOp
  simp only [ho, hp, hx, Sem.run_bind, Sem.run_pure, Result.andThen_ok, hrun]
  show K (a.put oi.dst undef) _
  rw [hN]
  exact hK.out a _ (h _ (HL.put k hk hx1 hfar hbel) hfar)
end
/-- A flag is handed back. -/
def RetB (p : Bool → Prop) (w : World) (e : Ending) (w' : World) : Prop := ∃ r : Bool, e = .returned (.bool r) ∧ p r ∧ Below w.heap.size w w'
def wdi (ns : List S77) (i m : Int) : Int := if 0 ≤ i ∧ i < m then (ns.getD i.toNat z77).f1 else 0
set_option maxHeartbeats 4000000 in
theorem wide92_any (n : S27) (cs : List Value) (i m : Int) (w : World) (h : k27.K w n cs) (hm : m ≤ n.f0.length) :
    Calls Try.prog 92 #[.agg cs.toArray, .int .i64 i, .int .i64 m] w (RetI (fun r => r = wdi n.f0 i m) w) := by
  obtain ⟨A0, c0, A1, c1, A2, c2, A3, c3, A4, c4, rfl, hl0, hC0, _⟩ := k27_open h
  have HC := am hC0
  have HL : Aside0 (Led [] w w) := ⟨Led.nil w⟩
  clear h hC0
  by_cases h1 : 0 ≤ i
  · by_cases h2 : i < m
    · obtain ⟨j, rfl⟩ := Int.eq_ofNat_of_zero_le h1
      have hjl : j < n.f0.length := by omega
      obtain ⟨ad, rfl, hx0, hx1, hx2⟩ := at77 HC.out j hjl
      clear hx0 hx2
      obtain ⟨q, hq⟩ : ∃ q, n.f0[j] = q := ⟨_, rfl⟩
      have HR : Aside0 (q.f1 = wdi n.f0 (j : Int) m) := ⟨by unfold wdi; rw [if_pos ⟨h1, h2⟩, List.getD_eq_getElem?_getD, Int.toNat_natCast, List.getElem?_eq_getElem hjl, hq]; rfl⟩
      rw [hq] at hx1
      have e1 : decide ((j : Int) < 0) = false := decide_eq_false (by omega)
      have e2 : decide (m ≤ (j : Int)) = false := decide_eq_false (by omega)
      have q2 : (j : Int) < (n.f0.length : Int) := by omega
      have HX := am hx1
      clear hq hm h2 hx1 hjl
      go_enter Try.func92, Try.ntmps92
      go_wp2_with ((with_reducible refine zg 3 rfl ?_); refine zx 3 [.slice (some ad) n.f0.length c0, .slice A1 n.f1.length c1, .slice A2 n.f2.length c2, .slice A3 n.f3.length c3, .slice A4 n.f4.length c4] 27 HL ?_; clear HL; intro g w1 HL hb; have hk0 : w1.cell? ⟨g, 0, none⟩ = some (.slice (some ad) n.f0.length c0) := blk_cell HL.out.g0 0; have hx1 := pw_cell_below hb HX.out; clear hb)
      go_ret
      exact ⟨_, rfl, HR.out, HL.out.below⟩
    · have e1 : decide (i < 0) = false := decide_eq_false (by omega)
      have e2 : decide (m ≤ i) = true := decide_eq_true (by omega)
      have HR : Aside0 (0 = wdi n.f0 i m) := ⟨by unfold wdi; rw [if_neg (fun h => h2 h.2)]⟩
      clear h1 h2 hm
      go_enter Try.func92, Try.ntmps92
      go_wp2_with ((with_reducible refine zg 3 rfl ?_); refine zx 3 [.slice A0 n.f0.length c0, .slice A1 n.f1.length c1, .slice A2 n.f2.length c2, .slice A3 n.f3.length c3, .slice A4 n.f4.length c4] 27 HL ?_; clear HL; intro g w1 HL hb; clear hb)
      go_ret
      exact ⟨_, rfl, HR.out, HL.out.below⟩
  · have e1 : decide (i < 0) = true := decide_eq_true (by omega)
    have HR : Aside0 (0 = wdi n.f0 i m) := ⟨by unfold wdi; rw [if_neg (fun h => h1 h.1)]⟩
    clear h1 hm
    go_enter Try.func92, Try.ntmps92
    go_wp2_with ((with_reducible refine zg 3 rfl ?_); refine zx 3 [.slice A0 n.f0.length c0, .slice A1 n.f1.length c1, .slice A2 n.f2.length c2, .slice A3 n.f3.length c3, .slice A4 n.f4.length c4] 27 HL ?_; clear HL; intro g w1 HL hb; clear hb)
    go_ret
    exact ⟨_, rfl, HR.out, HL.out.below⟩
set_option maxHeartbeats 4000000 in
theorem there_any (n : S27) (cs : List Value) (i : Int) (w : World) (h : k27.K w n cs) :
    Calls Try.prog 71 #[.agg cs.toArray, .int .i64 i] w (RetI (fun r => r = wdi n.f0 i n.f0.length) w) := by
  have KW : Aside0 (∀ W, Below w.heap.size w W → Calls Try.prog 92 #[.agg cs.toArray, .int .i64 i, .int .i64 (n.f0.length : Int)] W (RetI (fun r => r = wdi n.f0 i n.f0.length) W)) := ⟨fun W hb => wide92_any n cs i _ W (k27.K_below hb h) (Int.le_refl _)⟩
  obtain ⟨A0, c0, A1, c1, A2, c2, A3, c3, A4, c4, rfl, hl0, hC0, _⟩ := k27_open h
  have hm : n.f0.length ≤ 9223372036854775807 := hC0.2.1
  have HL : Aside0 (Led [] w w) := ⟨Led.nil w⟩
  have hu27 := Try.underlying27
  clear h hC0
  go_enter Try.func71, Try.ntmps71
  go_wp2_with (first
    | ((with_reducible refine zg 2 rfl ?_); refine zx 2 [.slice A0 n.f0.length c0, .slice A1 n.f1.length c1, .slice A2 n.f2.length c2, .slice A3 n.f3.length c3, .slice A4 n.f4.length c4] 27 HL ?_; clear HL; intro g w1 HL hb; have hk0 : w1.cell? ⟨g, 0, none⟩ = some (.slice A0 n.f0.length c0) := blk_cell HL.out.g0 0; clear hb)
    | ((with_reducible refine zg 5 rfl ?_); refine zl 0 27 (.tmp 2) HL hu27 ?_)
    | (go_at_call 92; refine (KW.out _ HL.out.below).mono ?_; rintro e we ⟨r, rfl, hr, hb⟩; have HR := am hr; clear hr; replace HL := am (HL.out.step hb); clear hb))
  go_ret
  exact ⟨_, rfl, HR.out, HL.out.below⟩
set_option maxHeartbeats 4000000 in
theorem mask_any (m : Int) (w : World) (h0 : 0 ≤ m) (h1 : m ≤ 16) : Calls Try.prog 72 #[.int .i64 m] w (RetI (fun _ => True) w) := by
  obtain ⟨k, rfl⟩ := Int.eq_ofNat_of_zero_le h0
  have hk : k ≤ 16 := by omega
  clear h0 h1
  rcases (by omega : k = 0 ∨ k = 1 ∨ k = 2 ∨ k = 3 ∨ k = 4 ∨ k = 5 ∨ k = 6 ∨ k = 7 ∨ k = 8 ∨ k = 9 ∨ k = 10 ∨ k = 11 ∨ k = 12 ∨ k = 13 ∨ k = 14 ∨ k = 15 ∨ k = 16) with rfl | rfl | rfl | rfl | rfl | rfl | rfl | rfl | rfl | rfl | rfl | rfl | rfl | rfl | rfl | rfl | rfl
  all_goals go_enter Try.func72, Try.ntmps72
  all_goals go_wp2
  all_goals go_ret
  all_goals exact ⟨_, rfl, trivial, Below.refl _ _⟩
/-- How many operands an op has. -/
def opsN (o : Int) : Int := if o = 1 ∨ o = 21 ∨ o = 22 then 0 else if o = 3 ∨ o = 4 ∨ o = 5 ∨ o = 18 then 1 else if (6 ≤ o ∧ o ≤ 15) ∨ o = 17 then 2 else if o = 16 then 3 else -1
set_option maxHeartbeats 16000000 in
theorem operands_any (o : Int) (w : World) : Calls Try.prog 90 #[.int .i64 o] w (RetI (fun r => r = opsN o) w) := by
  by_cases h : o ∈ [1, 21, 22, 3, 4, 5, 6, 7, 8, 9, 10, 11, 12, 13, 14, 15, 16, 17, 18]
  · simp only [List.mem_cons, List.not_mem_nil, or_false] at h
    rcases h with rfl | rfl | rfl | rfl | rfl | rfl | rfl | rfl | rfl | rfl | rfl | rfl | rfl | rfl | rfl | rfl | rfl | rfl | rfl
    all_goals go_enter Try.func90, Try.ntmps90
    all_goals go_wp2
    all_goals go_ret
    all_goals exact ⟨_, rfl, by decide, Below.refl _ _⟩
  · simp only [List.mem_cons, List.not_mem_nil, or_false, not_or] at h
    obtain ⟨h1, h21, h22, h3, h4, h5, h6, h7, h8, h9, h10, h11, h12, h13, h14, h15, h16, h17, h18⟩ := h
    have e1 : (o == 1) = false := beq_eq_false_iff_ne.mpr h1
    have e21 : (o == 21) = false := beq_eq_false_iff_ne.mpr h21
    have e22 : (o == 22) = false := beq_eq_false_iff_ne.mpr h22
    have e3 : (o == 3) = false := beq_eq_false_iff_ne.mpr h3
    have e4 : (o == 4) = false := beq_eq_false_iff_ne.mpr h4
    have e5 : (o == 5) = false := beq_eq_false_iff_ne.mpr h5
    have e6 : (o == 6) = false := beq_eq_false_iff_ne.mpr h6
    have e7 : (o == 7) = false := beq_eq_false_iff_ne.mpr h7
    have e8 : (o == 8) = false := beq_eq_false_iff_ne.mpr h8
    have e9 : (o == 9) = false := beq_eq_false_iff_ne.mpr h9
    have e10 : (o == 10) = false := beq_eq_false_iff_ne.mpr h10
    have e11 : (o == 11) = false := beq_eq_false_iff_ne.mpr h11
    have e12 : (o == 12) = false := beq_eq_false_iff_ne.mpr h12
    have e13 : (o == 13) = false := beq_eq_false_iff_ne.mpr h13
    have e14 : (o == 14) = false := beq_eq_false_iff_ne.mpr h14
    have e15 : (o == 15) = false := beq_eq_false_iff_ne.mpr h15
    have e16 : (o == 16) = false := beq_eq_false_iff_ne.mpr h16
    have e17 : (o == 17) = false := beq_eq_false_iff_ne.mpr h17
    have e18 : (o == 18) = false := beq_eq_false_iff_ne.mpr h18
    have HR : Aside0 (-1 = opsN o) := ⟨by unfold opsN; rw [if_neg (by omega), if_neg (by omega), if_neg (by omega), if_neg (by omega)]⟩
    clear h1 h21 h22 h3 h4 h5 h6 h7 h8 h9 h10 h11 h12 h13 h14 h15 h16 h17 h18
    go_enter Try.func90, Try.ntmps90
    go_wp2
    go_ret
    exact ⟨_, rfl, HR.out, Below.refl _ _⟩
end Go.Proofs.Yteilkojmefipcaa.U
