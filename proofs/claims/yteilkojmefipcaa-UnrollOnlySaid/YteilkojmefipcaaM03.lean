/- Unroll: walks and plain laws of this seat's functions, merged out of smaller texts of this session (Uk, Ul, Um). -/
import Derived.Test.YteilkojmefipcaaM02
namespace Go.Proofs.Yteilkojmefipcaa.U
open Go.RowKit Go.Proofs.YteilkojmefipcaaW.PrintWords Go.Proofs.YteilkojmefipcaaW.PrintLast
set_option linter.unusedVariables false
set_option linter.unusedSimpArgs false
set_option maxHeartbeats 32000000 in
set_option maxRecDepth 100000 in
theorem asked_redand (ins : Int) (v : Value) (l : List S117) (x : S77) (A : Option Addr) (c : Nat) (xs : List Int) (B : Option Addr) (d : Nat) (ys : List Int) (w : World) (h : GOk ins v l (6 * xs.length) w) (hA : (Kd.int .i64).C w A xs.length xs) (hB : (Kd.int .i64).C w B ys.length ys) (hs : xs.length ≤ 1000000) (hx : Vlds ins l.length xs) (hy : Vlds ins l.length ys) (h0 : x.f0 = 5) :
    Calls Try.prog 99 #[.agg #[.int .i64 ins, v], .agg #[.int .i64 x.f0, .int .i64 x.f1, .int .i64 x.f2, .int .i64 x.f3, .int .i64 x.f4, .int .i64 x.f5, .int .i64 x.f6], .slice A xs.length c, .slice B ys.length d] w (RetG ins l (6 * xs.length) w) := by
  obtain ⟨A0, c0, rfl, hlc, _⟩ := h.slice
  have HG := am (h.less (Nat.zero_le _))
  have HM : Aside0 (l.length + 6 * xs.length ≤ 1000000000) := ⟨h.len⟩
  have HE := am (Ext.refl (k := 0) h.ok)
  have HA := am hA
  have HB := am hB
  have HX := am hx
  have HY := am hy
  have hi0 := h.i0
  have HL : Aside0 (Led [] w w) := ⟨Led.nil w⟩
  have hu30 := Try.underlying30
  clear h hA hB hx hy hlc
  obtain ⟨o, ho⟩ : ∃ o, x.f0 = o := ⟨_, rfl⟩
  obtain rfl : o = 5 := ho.symm.trans h0
  rw [ho]
  go_enter Try.func99, Try.ntmps99
  go_wp2_with (first
    | ((with_reducible refine zg 4 rfl ?_); refine zx 4 [.int .i64 ins, .slice A0 l.length c0] 30 HL ?_; clear HL; intro g4 w1_ HL hb_; replace HG := am (HG.out.step hb_); clear hb_)
    | ((with_reducible refine zg 5 rfl ?_); refine zx 5 [.int .i64 5, .int .i64 x.f1, .int .i64 x.f2, .int .i64 x.f3, .int .i64 x.f4, .int .i64 x.f5, .int .i64 x.f6] 77 HL ?_; clear HL; intro g5 w2_ HL hb_; replace HG := am (HG.out.step hb_); clear hb_)
    | ((with_reducible refine zg 8 rfl ?_); refine zx 8 [.int .i64 0, .slice none 0 0] 30 HL ?_; clear HL; intro g8 w3_ HL hb_; replace HG := am (HG.out.step hb_); have hk5 : w3_.cell? ⟨g5, 0, none⟩ = some (.int .i64 5) := blk_cell (HL.out.get 1 rfl) 0; clear hb_)
    | ((with_reducible refine zg 27 rfl ?_); refine zl 2 30 (.tmp 4) HL hu30 ?_)
    | (go_at_call 108; refine (all_any ins _ l A c xs _ (HG.out.more (by have := HM.out; have := HE.out.len; omega)) (Kd.C_below HA.out HL.out.below) HX.out).mono ?_; rintro e we1 ⟨v1, l1, x1, rfl, hg, he, HV1, hb⟩; obtain ⟨A1, c1, rfl, _⟩ := hg.slice; replace HL := am (HL.out.step hb); replace HX := am (HX.out.up he.le); replace HY := am (HY.out.up he.le); replace HG := am hg; replace HE := am (HE.out.trans he); replace HV1 := am HV1; clear hg he hb)
    | ((with_reducible refine zg 10 rfl ?_); refine zx 10 [.int .i64 0, .slice none 0 0] 30 HL ?_; clear HL; intro g10 w4_ HL hb_; replace HG := am (HG.out.step hb_); clear hb_)
    | ((with_reducible refine zst 30 (.tmp 10) (.tmp 30) rfl ?_); refine zs 0 0 30 (.tmp 10) (.tmp 30) [.int .i64 ins, .slice A1 l1.length c1] HL ?_; intro w5_ HLn hfar; replace HG := am (HG.out.far HL.out 0 rfl hfar); replace HL := HLn; clear HLn hfar)
    | ((with_reducible refine zg 32 rfl ?_); refine zl 0 30 (.tmp 10) HL hu30 ?_)
    | ((with_reducible refine zst 30 (.tmp 8) (.tmp 32) rfl ?_); refine zs 1 0 30 (.tmp 8) (.tmp 32) [.int .i64 ins, .slice A1 l1.length c1] HL ?_; intro w6_ HLn hfar; replace HG := am (HG.out.far HL.out 1 rfl hfar); replace HL := HLn; clear HLn hfar))
  refine zret 1 8 9 30 HL hu30 ?_
  exact ⟨_, l1, x1, rfl, HG.out, HE.out.mono (by omega), HV1.out, HL.out.below⟩
set_option maxHeartbeats 32000000 in
set_option maxRecDepth 100000 in
theorem asked_lt (ins : Int) (v : Value) (l : List S117) (x : S77) (A : Option Addr) (c : Nat) (xs : List Int) (B : Option Addr) (d : Nat) (ys : List Int) (w : World) (h : GOk ins v l (6 * xs.length) w) (hA : (Kd.int .i64).C w A xs.length xs) (hB : (Kd.int .i64).C w B ys.length ys) (hs : xs.length ≤ 1000000) (hx : Vlds ins l.length xs) (hy : Vlds ins l.length ys) (hle : xs.length ≤ ys.length) (h0 : x.f0 = 14) :
    Calls Try.prog 99 #[.agg #[.int .i64 ins, v], .agg #[.int .i64 x.f0, .int .i64 x.f1, .int .i64 x.f2, .int .i64 x.f3, .int .i64 x.f4, .int .i64 x.f5, .int .i64 x.f6], .slice A xs.length c, .slice B ys.length d] w (RetG ins l (6 * xs.length) w) := by
  obtain ⟨A0, c0, rfl, hlc, _⟩ := h.slice
  have HG := am (h.less (Nat.zero_le _))
  have HM : Aside0 (l.length + 6 * xs.length ≤ 1000000000) := ⟨h.len⟩
  have HE := am (Ext.refl (k := 0) h.ok)
  have HA := am hA
  have HB := am hB
  have HX := am hx
  have HY := am hy
  have hi0 := h.i0
  have HL : Aside0 (Led [] w w) := ⟨Led.nil w⟩
  have hu30 := Try.underlying30
  clear h hA hB hx hy hlc
  obtain ⟨o, ho⟩ : ∃ o, x.f0 = o := ⟨_, rfl⟩
  obtain rfl : o = 14 := ho.symm.trans h0
  rw [ho]
  go_enter Try.func99, Try.ntmps99
  go_wp2_with (first
    | ((with_reducible refine zg 4 rfl ?_); refine zx 4 [.int .i64 ins, .slice A0 l.length c0] 30 HL ?_; clear HL; intro g4 w1_ HL hb_; replace HG := am (HG.out.step hb_); clear hb_)
    | ((with_reducible refine zg 5 rfl ?_); refine zx 5 [.int .i64 14, .int .i64 x.f1, .int .i64 x.f2, .int .i64 x.f3, .int .i64 x.f4, .int .i64 x.f5, .int .i64 x.f6] 77 HL ?_; clear HL; intro g5 w2_ HL hb_; replace HG := am (HG.out.step hb_); clear hb_)
    | ((with_reducible refine zg 8 rfl ?_); refine zx 8 [.int .i64 0, .slice none 0 0] 30 HL ?_; clear HL; intro g8 w3_ HL hb_; replace HG := am (HG.out.step hb_); have hk5 : w3_.cell? ⟨g5, 0, none⟩ = some (.int .i64 14) := blk_cell (HL.out.get 1 rfl) 0; clear hb_)
    | ((with_reducible refine zg 49 rfl ?_); refine zl 2 30 (.tmp 4) HL hu30 ?_)
    | (go_at_call 109; refine (less_any ins _ l A c xs B d ys 0 _ (HG.out.more (by have := HM.out; have := HE.out.len; omega)) (Kd.C_below HA.out HL.out.below) (Kd.C_below HB.out HL.out.below) hle HX.out HY.out ⟨by omega, by omega⟩).mono ?_; rintro e we1 ⟨v1, l1, x1, rfl, hg, he, HV1, hb⟩; obtain ⟨A1, c1, rfl, _⟩ := hg.slice; replace HL := am (HL.out.step hb); replace HX := am (HX.out.up he.le); replace HY := am (HY.out.up he.le); replace HG := am hg; replace HE := am (HE.out.trans he); replace HV1 := am HV1; clear hg he hb)
    | ((with_reducible refine zg 14 rfl ?_); refine zx 14 [.int .i64 0, .slice none 0 0] 30 HL ?_; clear HL; intro g14 w4_ HL hb_; replace HG := am (HG.out.step hb_); clear hb_)
    | ((with_reducible refine zst 30 (.tmp 14) (.tmp 53) rfl ?_); refine zs 0 0 30 (.tmp 14) (.tmp 53) [.int .i64 ins, .slice A1 l1.length c1] HL ?_; intro w5_ HLn hfar; replace HG := am (HG.out.far HL.out 0 rfl hfar); replace HL := HLn; clear HLn hfar)
    | ((with_reducible refine zg 55 rfl ?_); refine zl 0 30 (.tmp 14) HL hu30 ?_)
    | ((with_reducible refine zst 30 (.tmp 8) (.tmp 55) rfl ?_); refine zs 1 0 30 (.tmp 8) (.tmp 55) [.int .i64 ins, .slice A1 l1.length c1] HL ?_; intro w6_ HLn hfar; replace HG := am (HG.out.far HL.out 1 rfl hfar); replace HL := HLn; clear HLn hfar))
  refine zret 1 8 9 30 HL hu30 ?_
  exact ⟨_, l1, x1, rfl, HG.out, HE.out.mono (by omega), HV1.out, HL.out.below⟩
set_option maxHeartbeats 32000000 in
set_option maxRecDepth 100000 in
theorem asked_le (ins : Int) (v : Value) (l : List S117) (x : S77) (A : Option Addr) (c : Nat) (xs : List Int) (B : Option Addr) (d : Nat) (ys : List Int) (w : World) (h : GOk ins v l (6 * xs.length) w) (hA : (Kd.int .i64).C w A xs.length xs) (hB : (Kd.int .i64).C w B ys.length ys) (hs : xs.length ≤ 1000000) (hx : Vlds ins l.length xs) (hy : Vlds ins l.length ys) (hle : xs.length ≤ ys.length) (h0 : x.f0 = 15) :
    Calls Try.prog 99 #[.agg #[.int .i64 ins, v], .agg #[.int .i64 x.f0, .int .i64 x.f1, .int .i64 x.f2, .int .i64 x.f3, .int .i64 x.f4, .int .i64 x.f5, .int .i64 x.f6], .slice A xs.length c, .slice B ys.length d] w (RetG ins l (6 * xs.length) w) := by
  obtain ⟨A0, c0, rfl, hlc, _⟩ := h.slice
  have HG := am (h.less (Nat.zero_le _))
  have HM : Aside0 (l.length + 6 * xs.length ≤ 1000000000) := ⟨h.len⟩
  have HE := am (Ext.refl (k := 0) h.ok)
  have HA := am hA
  have HB := am hB
  have HX := am hx
  have HY := am hy
  have hi0 := h.i0
  have HL : Aside0 (Led [] w w) := ⟨Led.nil w⟩
  have hu30 := Try.underlying30
  clear h hA hB hx hy hlc
  obtain ⟨o, ho⟩ : ∃ o, x.f0 = o := ⟨_, rfl⟩
  obtain rfl : o = 15 := ho.symm.trans h0
  rw [ho]
  go_enter Try.func99, Try.ntmps99
  go_wp2_with (first
    | ((with_reducible refine zg 4 rfl ?_); refine zx 4 [.int .i64 ins, .slice A0 l.length c0] 30 HL ?_; clear HL; intro g4 w1_ HL hb_; replace HG := am (HG.out.step hb_); clear hb_)
    | ((with_reducible refine zg 5 rfl ?_); refine zx 5 [.int .i64 15, .int .i64 x.f1, .int .i64 x.f2, .int .i64 x.f3, .int .i64 x.f4, .int .i64 x.f5, .int .i64 x.f6] 77 HL ?_; clear HL; intro g5 w2_ HL hb_; replace HG := am (HG.out.step hb_); clear hb_)
    | ((with_reducible refine zg 8 rfl ?_); refine zx 8 [.int .i64 0, .slice none 0 0] 30 HL ?_; clear HL; intro g8 w3_ HL hb_; replace HG := am (HG.out.step hb_); have hk5 : w3_.cell? ⟨g5, 0, none⟩ = some (.int .i64 15) := blk_cell (HL.out.get 1 rfl) 0; clear hb_)
    | ((with_reducible refine zg 60 rfl ?_); refine zl 2 30 (.tmp 4) HL hu30 ?_)
    | (go_at_call 109; refine (less_any ins _ l A c xs B d ys 1 _ (HG.out.more (by have := HM.out; have := HE.out.len; omega)) (Kd.C_below HA.out HL.out.below) (Kd.C_below HB.out HL.out.below) hle HX.out HY.out ⟨by omega, by omega⟩).mono ?_; rintro e we1 ⟨v1, l1, x1, rfl, hg, he, HV1, hb⟩; obtain ⟨A1, c1, rfl, _⟩ := hg.slice; replace HL := am (HL.out.step hb); replace HX := am (HX.out.up he.le); replace HY := am (HY.out.up he.le); replace HG := am hg; replace HE := am (HE.out.trans he); replace HV1 := am HV1; clear hg he hb)
    | ((with_reducible refine zg 16 rfl ?_); refine zx 16 [.int .i64 0, .slice none 0 0] 30 HL ?_; clear HL; intro g16 w4_ HL hb_; replace HG := am (HG.out.step hb_); clear hb_)
    | ((with_reducible refine zst 30 (.tmp 16) (.tmp 64) rfl ?_); refine zs 0 0 30 (.tmp 16) (.tmp 64) [.int .i64 ins, .slice A1 l1.length c1] HL ?_; intro w5_ HLn hfar; replace HG := am (HG.out.far HL.out 0 rfl hfar); replace HL := HLn; clear HLn hfar)
    | ((with_reducible refine zg 66 rfl ?_); refine zl 0 30 (.tmp 16) HL hu30 ?_)
    | ((with_reducible refine zst 30 (.tmp 8) (.tmp 66) rfl ?_); refine zs 1 0 30 (.tmp 8) (.tmp 66) [.int .i64 ins, .slice A1 l1.length c1] HL ?_; intro w6_ HLn hfar; replace HG := am (HG.out.far HL.out 1 rfl hfar); replace HL := HLn; clear HLn hfar))
  refine zret 1 8 9 30 HL hu30 ?_
  exact ⟨_, l1, x1, rfl, HG.out, HE.out.mono (by omega), HV1.out, HL.out.below⟩
set_option maxHeartbeats 32000000 in
set_option maxRecDepth 100000 in
theorem asked_redor (ins : Int) (v : Value) (l : List S117) (x : S77) (A : Option Addr) (c : Nat) (xs : List Int) (B : Option Addr) (d : Nat) (ys : List Int) (w : World) (h : GOk ins v l (6 * xs.length) w) (hA : (Kd.int .i64).C w A xs.length xs) (hB : (Kd.int .i64).C w B ys.length ys) (hs : xs.length ≤ 1000000) (hx : Vlds ins l.length xs) (hy : Vlds ins l.length ys) (h0 : x.f0 = 4) :
    Calls Try.prog 99 #[.agg #[.int .i64 ins, v], .agg #[.int .i64 x.f0, .int .i64 x.f1, .int .i64 x.f2, .int .i64 x.f3, .int .i64 x.f4, .int .i64 x.f5, .int .i64 x.f6], .slice A xs.length c, .slice B ys.length d] w (RetG ins l (6 * xs.length) w) := by
  obtain ⟨A0, c0, rfl, hlc, _⟩ := h.slice
  have HG := am (h.less (Nat.zero_le _))
  have HM : Aside0 (l.length + 6 * xs.length ≤ 1000000000) := ⟨h.len⟩
  have HE := am (Ext.refl (k := 0) h.ok)
  have HA := am hA
  have HB := am hB
  have HX := am hx
  have HY := am hy
  have hi0 := h.i0
  have HL : Aside0 (Led [] w w) := ⟨Led.nil w⟩
  have hu30 := Try.underlying30
  clear h hA hB hx hy hlc
  obtain ⟨o, ho⟩ : ∃ o, x.f0 = o := ⟨_, rfl⟩
  obtain rfl : o = 4 := ho.symm.trans h0
  rw [ho]
  go_enter Try.func99, Try.ntmps99
  go_upto_region 6 with (first
    | ((with_reducible refine zg 4 rfl ?_); refine zx 4 [.int .i64 ins, .slice A0 l.length c0] 30 HL ?_; clear HL; intro g4 w1_ HL hb_; replace HG := am (HG.out.step hb_); clear hb_)
    | ((with_reducible refine zg 5 rfl ?_); refine zx 5 [.int .i64 4, .int .i64 x.f1, .int .i64 x.f2, .int .i64 x.f3, .int .i64 x.f4, .int .i64 x.f5, .int .i64 x.f6] 77 HL ?_; clear HL; intro g5 w2_ HL hb_; replace HG := am (HG.out.step hb_); clear hb_)
    | ((with_reducible refine zg 8 rfl ?_); refine zx 8 [.int .i64 0, .slice none 0 0] 30 HL ?_; clear HL; intro g8 w3_ HL hb_; replace HG := am (HG.out.step hb_); have hk5 : w3_.cell? ⟨g5, 0, none⟩ = some (.int .i64 4) := blk_cell (HL.out.get 1 rfl) 0; clear hb_))
  have k0 : w3_.cell? ⟨g4, 0, none⟩ = some (.int .i64 ins) := blk_cell (HL.out.get 2 rfl) 0
  have k1 : w3_.cell? ⟨g4, 1, none⟩ = some (.slice A0 l.length c0) := blk_cell (HL.out.get 2 rfl) 1
  have KS : Aside0 (∀ W, Below w3_.heap.size w3_ W → (W.cell? ⟨g4, 0, none⟩ = some (.int .i64 ins) ∧ W.cell? ⟨g4, 1, none⟩ = some (.slice A0 l.length c0)) ∧ Aside0 (Below w3_.heap.size w3_ W)) := ⟨fun W hb => ⟨⟨pw_cell_below hb k0, pw_cell_below hb k1⟩, ⟨hb⟩⟩⟩
  go_cut [12, 13] (fun sh sx wx => ∃ g12 v2 l2 x2, sh = .pointer (some ⟨g12, 0, none⟩) ∧ sx = .int .i64 x2 ∧ Aside0 (Led [(g12, [.int .i64 ins, v2], 30), (g8, [.int .i64 0, .slice none 0 0], 30), (g5, [.int .i64 4, .int .i64 x.f1, .int .i64 x.f2, .int .i64 x.f3, .int .i64 x.f4, .int .i64 x.f5, .int .i64 x.f6], 77), (g4, [.int .i64 ins, .slice A0 l.length c0], 30)] w wx) ∧ Aside0 (GOk ins v2 l2 0 wx) ∧ Aside0 (Ext ins l l2 (0 + xs.length)) ∧ Aside0 (Vld ins l2.length x2) ∧ Aside0 (l.length ≤ l2.length))
  case first =>
    go_region_held3 (fun w' => (w'.cell? ⟨g4, 0, none⟩ = some (.int .i64 ins) ∧ w'.cell? ⟨g4, 1, none⟩ = some (.slice A0 l.length c0)) ∧ Aside0 (Below w3_.heap.size w3_ w'))
      ((refine KS.out _ ?_; repeat (first | exact Aside0.out (And.right (by assumption)) | refine below_alloc ?_ _ | refine below_step ?_ (by assumption) | (refine below_set ?_ ?_; rotate_left; first | exact Nat.le_refl _ | exact (Aside0.out (p := Below w3_.heap.size w3_ _) (And.right (by assumption))).size | exact below_size (by repeat (first | (with_reducible exact Below.refl _ _) | refine below_alloc ?_ _ | refine below_drew ?_ | refine below_step ?_ (by assumption)))) | refine below_drew ?_ | exact Below.refl _ _)))
      (first | (go_at_call 108; refine (all_any ins _ l At ct ts _ ((HG.out.step (by repeat (first | (with_reducible exact Below.refl _ _) | refine below_alloc ?_ _ | refine below_drew ?_ | refine below_step ?_ (by assumption)))).more (by have := HM.out; have := HE.out.len; have := hti.len; omega)) (Kd.C_below (Kd.R_reads' ht).2.2 (by repeat (first | (with_reducible exact Below.refl _ _) | refine below_alloc ?_ _ | refine below_drew ?_ | refine below_step ?_ (by assumption)))) (hti.vlds HX.out HG.out.bnd)).mono ?_; rintro e we ⟨v2, l2, x2, rfl, hg, he, hv, hb⟩; obtain ⟨A2, c2, rfl, _⟩ := hg.slice; obtain ⟨hc, hf⟩ := bcell hb) | (go_at_call 94; refine (turned_any A c xs _ (Kd.C_below HA.out (below_step HL.out.below (by repeat (first | (with_reducible exact Below.refl _ _) | refine below_alloc ?_ _ | refine below_drew ?_ | refine below_step ?_ (by assumption))))) hs).mono ?_; rintro e wt ⟨vt, ts, rfl, ht, hti, hbt⟩; obtain ⟨At, ct, rfl⟩ := Kd.R_slice ht; obtain ⟨hct, hft⟩ := bcell hbt; (try have hlt2 : w3_.heap.size < wt.heap.size := by have h_ := hbt.size; simp at h_; omega)))
    all_goals
      go_wp2_with (fail)
      go_meet
      first
        | exact ⟨_, _, l2, x2, rfl, rfl, ⟨(finA (HL.out.step (by repeat (first | (with_reducible exact Below.refl _ _) | refine below_alloc ?_ _ | refine below_drew ?_ | refine below_step ?_ (by assumption)))) hg).1⟩, ⟨(finA (HL.out.step (by repeat (first | (with_reducible exact Below.refl _ _) | refine below_alloc ?_ _ | refine below_drew ?_ | refine below_step ?_ (by assumption)))) hg).2.less (Nat.zero_le _)⟩, ⟨HE.out.trans (he.mono (by have := hti.len; omega))⟩, ⟨hv⟩, ⟨he.le⟩⟩
        | exact ⟨_, _, l2, x2, rfl, rfl, ⟨(finC (HL.out.step (by repeat (first | (with_reducible exact Below.refl _ _) | refine below_alloc ?_ _ | refine below_drew ?_ | refine below_step ?_ (by assumption)))) (by repeat (first | (with_reducible exact Below.refl _ _) | refine below_alloc ?_ _ | refine below_drew ?_ | refine below_step ?_ (by assumption))) hg).1⟩, ⟨(finC (HL.out.step (by repeat (first | (with_reducible exact Below.refl _ _) | refine below_alloc ?_ _ | refine below_drew ?_ | refine below_step ?_ (by assumption)))) (by repeat (first | (with_reducible exact Below.refl _ _) | refine below_alloc ?_ _ | refine below_drew ?_ | refine below_step ?_ (by assumption))) hg).2.less (Nat.zero_le _)⟩, ⟨HE.out.trans (he.mono (by have := hti.len; omega))⟩, ⟨hv⟩, ⟨he.le⟩⟩
  case rest =>
    clear k0 k1 KS HL HG HE  
    obtain ⟨g12, v2, l2, x2, rfl, rfl, HL, HG, HE, HV2, HLE2⟩ := hcut
    obtain ⟨A2, c2, rfl, _⟩ := HG.out.slice
    go_wp2_with (first
        | ((with_reducible refine zg 43 rfl ?_); refine zl 0 30 (.tmp 12) HL hu30 ?_)
        | ((with_reducible refine zst 30 (.tmp 8) (.tmp 43) rfl ?_); refine zs 1 0 30 (.tmp 8) (.tmp 43) [.int .i64 ins, .slice A2 l2.length c2] HL ?_; intro w4_ HLn hfar; replace HG := am (HG.out.far HL.out 1 rfl hfar); replace HL := HLn; clear HLn hfar))
    refine zret 1 8 9 30 HL hu30 ?_
    exact ⟨_, l2, turnI x2, rfl, HG.out, HE.out.mono (by omega), HV2.out.turn HG.out.bnd, HL.out.below⟩
set_option maxHeartbeats 32000000 in
set_option maxRecDepth 100000 in
theorem asked_eq (ins : Int) (v : Value) (l : List S117) (x : S77) (A : Option Addr) (c : Nat) (xs : List Int) (B : Option Addr) (d : Nat) (ys : List Int) (w : World) (h : GOk ins v l (6 * xs.length) w) (hA : (Kd.int .i64).C w A xs.length xs) (hB : (Kd.int .i64).C w B ys.length ys) (hs : xs.length ≤ 1000000) (hx : Vlds ins l.length xs) (hy : Vlds ins l.length ys) (hle : xs.length ≤ ys.length) (h4 : x.f0 ≠ 4) (h5 : x.f0 ≠ 5) (h14 : x.f0 ≠ 14) (h15 : x.f0 ≠ 15) :
    Calls Try.prog 99 #[.agg #[.int .i64 ins, v], .agg #[.int .i64 x.f0, .int .i64 x.f1, .int .i64 x.f2, .int .i64 x.f3, .int .i64 x.f4, .int .i64 x.f5, .int .i64 x.f6], .slice A xs.length c, .slice B ys.length d] w (RetG ins l (6 * xs.length) w) := by
  obtain ⟨A0, c0, rfl, hlc, _⟩ := h.slice
  have HG := am (h.less (Nat.zero_le _))
  have HM : Aside0 (l.length + 6 * xs.length ≤ 1000000000) := ⟨h.len⟩
  have HE := am (Ext.refl (k := 0) h.ok)
  have HA := am hA
  have HB := am hB
  have HX := am hx
  have HY := am hy
  have hi0 := h.i0
  have HL : Aside0 (Led [] w w) := ⟨Led.nil w⟩
  have hu30 := Try.underlying30
  clear h hA hB hx hy hlc
  obtain ⟨o, ho⟩ : ∃ o, x.f0 = o := ⟨_, rfl⟩
  rw [ho] at h4 h5 h14 h15
  have e4 : (o == 4) = false := by simp; exact h4
  have e5 : (o == 5) = false := by simp; exact h5
  have e14 : (o == 14) = false := by simp; exact h14
  have e15 : (o == 15) = false := by simp; exact h15
  rw [ho]
  clear ho h4 h5 h14 h15
  go_enter Try.func99, Try.ntmps99
  go_upto_region 15 with (first
    | ((with_reducible refine zg 4 rfl ?_); refine zx 4 [.int .i64 ins, .slice A0 l.length c0] 30 HL ?_; clear HL; intro g4 w1_ HL hb_; replace HG := am (HG.out.step hb_); clear hb_)
    | ((with_reducible refine zg 5 rfl ?_); refine zx 5 [.int .i64 o, .int .i64 x.f1, .int .i64 x.f2, .int .i64 x.f3, .int .i64 x.f4, .int .i64 x.f5, .int .i64 x.f6] 77 HL ?_; clear HL; intro g5 w2_ HL hb_; replace HG := am (HG.out.step hb_); clear hb_)
    | ((with_reducible refine zg 8 rfl ?_); refine zx 8 [.int .i64 0, .slice none 0 0] 30 HL ?_; clear HL; intro g8 w3_ HL hb_; replace HG := am (HG.out.step hb_); have hk5 : w3_.cell? ⟨g5, 0, none⟩ = some (.int .i64 o) := blk_cell (HL.out.get 1 rfl) 0; clear hb_)
    | ((with_reducible refine zg 69 rfl ?_); refine zl 2 30 (.tmp 4) HL hu30 ?_)
    | (go_at_call 95; refine (each_any ins _ l A c xs B d ys 8 _ (HG.out.more (by have := HM.out; omega)) (Kd.C_below HA.out HL.out.below) (Kd.C_below HB.out HL.out.below) hle hs HX.out HY.out).mono ?_; rintro e we ⟨v1, l1, vz, zz, rfl, hg, he, hz, HZL, hzs, hb⟩; obtain ⟨A1, c1, rfl, _⟩ := hg.slice; obtain ⟨AZ, cZ, rfl⟩ := Kd.R_slice hz; replace HL := am (HL.out.step hb); replace HG := am hg; replace HE := am (HE.out.trans he); have HZ := am hz; have HZS := am hzs; replace HZL := am HZL; clear hg he hb hz hzs hk5)
    | ((with_reducible refine zg 18 rfl ?_); refine zx 18 [.int .i64 0, .slice none 0 0] 30 HL ?_; clear HL; intro g18 w4_ HL hb_; replace HG := am (HG.out.step hb_); replace HZ := am (Kd.R_below HZ.out hb_); clear hb_)
    | ((with_reducible refine zst 30 (.tmp 18) (.tmp 73) rfl ?_); refine zs 0 0 30 (.tmp 18) (.tmp 73) [.int .i64 ins, .slice A1 l1.length c1] HL ?_; intro w5_ HLn hfar; replace HG := am (HG.out.far HL.out 0 rfl hfar); replace HZ := am (Rfar HZ.out HL.out 0 rfl hfar); replace HL := HLn; clear HLn hfar))
  have k0 : w5_.cell? ⟨g18, 0, none⟩ = some (.int .i64 ins) := blk_cell (HL.out.get 0 rfl) 0
  have k1 : w5_.cell? ⟨g18, 1, none⟩ = some (.slice A1 l1.length c1) := blk_cell (HL.out.get 0 rfl) 1
  have KS : Aside0 (∀ W, Below w5_.heap.size w5_ W → (W.cell? ⟨g18, 0, none⟩ = some (.int .i64 ins) ∧ W.cell? ⟨g18, 1, none⟩ = some (.slice A1 l1.length c1)) ∧ Aside0 (Below w5_.heap.size w5_ W)) := ⟨fun W hb => ⟨⟨pw_cell_below hb k0, pw_cell_below hb k1⟩, ⟨hb⟩⟩⟩
  go_cut [20, 21] (fun sh sx wx => ∃ g20 v2 l2 x2, sh = .pointer (some ⟨g20, 0, none⟩) ∧ sx = .int .i64 x2 ∧ Aside0 (Led [(g20, [.int .i64 ins, v2], 30), (g18, [.int .i64 ins, .slice A1 l1.length c1], 30), (g8, [.int .i64 0, .slice none 0 0], 30), (g5, [.int .i64 o, .int .i64 x.f1, .int .i64 x.f2, .int .i64 x.f3, .int .i64 x.f4, .int .i64 x.f5, .int .i64 x.f6], 77), (g4, [.int .i64 ins, .slice A0 l.length c0], 30)] w wx) ∧ Aside0 (GOk ins v2 l2 0 wx) ∧ Aside0 (Ext ins l l2 ((0 + 3 * xs.length) + xs.length)) ∧ Aside0 (Vld ins l2.length x2) ∧ Aside0 (l1.length ≤ l2.length) ∧ Aside0 (Ri wx 0 (.slice AZ zz.length cZ) zz))
  case first =>
    go_region_held3 (fun w' => (w'.cell? ⟨g18, 0, none⟩ = some (.int .i64 ins) ∧ w'.cell? ⟨g18, 1, none⟩ = some (.slice A1 l1.length c1)) ∧ Aside0 (Below w5_.heap.size w5_ w'))
      ((refine KS.out _ ?_; repeat (first | exact Aside0.out (And.right (by assumption)) | refine below_alloc ?_ _ | refine below_step ?_ (by assumption) | (refine below_set ?_ ?_; rotate_left; first | exact Nat.le_refl _ | exact (Aside0.out (p := Below w5_.heap.size w5_ _) (And.right (by assumption))).size | exact below_size (by repeat (first | (with_reducible exact Below.refl _ _) | refine below_alloc ?_ _ | refine below_drew ?_ | refine below_step ?_ (by assumption)))) | refine below_drew ?_ | exact Below.refl _ _)))
      (first | (go_at_call 108; refine (all_any ins _ l1 At ct ts _ ((HG.out.step (by repeat (first | (with_reducible exact Below.refl _ _) | refine below_alloc ?_ _ | refine below_drew ?_ | refine below_step ?_ (by assumption)))).more (by have := HM.out; have := HE.out.len; have := hti.len; have := HZL.out; omega)) (Kd.C_below (Kd.R_reads' ht).2.2 (by repeat (first | (with_reducible exact Below.refl _ _) | refine below_alloc ?_ _ | refine below_drew ?_ | refine below_step ?_ (by assumption)))) (hti.vlds HZS.out HG.out.bnd)).mono ?_; rintro e we ⟨v2, l2, x2, rfl, hg, he, hv, hb⟩; obtain ⟨A2, c2, rfl, _⟩ := hg.slice; obtain ⟨hc, hf⟩ := bcell hb) | (go_at_call 94; refine (turned_any AZ cZ zz _ (Kd.C_below (Kd.R_reads' HZ.out).2.2 (by repeat (first | (with_reducible exact Below.refl _ _) | refine below_alloc ?_ _ | refine below_drew ?_ | refine below_step ?_ (by assumption)))) (by have := HZL.out; omega)).mono ?_; rintro e wt ⟨vt, ts, rfl, ht, hti, hbt⟩; obtain ⟨At, ct, rfl⟩ := Kd.R_slice ht; obtain ⟨hct, hft⟩ := bcell hbt; (try have hlt2 : w5_.heap.size < wt.heap.size := by have h_ := hbt.size; simp at h_; omega)))
    all_goals
      go_wp2_with (fail)
      go_meet
      first
        | exact ⟨_, _, l2, x2, rfl, rfl, ⟨(finA (HL.out.step (by repeat (first | (with_reducible exact Below.refl _ _) | refine below_alloc ?_ _ | refine below_drew ?_ | refine below_step ?_ (by assumption)))) hg).1⟩, ⟨(finA (HL.out.step (by repeat (first | (with_reducible exact Below.refl _ _) | refine below_alloc ?_ _ | refine below_drew ?_ | refine below_step ?_ (by assumption)))) hg).2.less (Nat.zero_le _)⟩, ⟨HE.out.trans (he.mono (by have := hti.len; have := HZL.out; omega))⟩, ⟨hv⟩, ⟨he.le⟩, ⟨Kd.R_below HZ.out (below_alloc (by repeat (first | (with_reducible exact Below.refl _ _) | refine below_alloc ?_ _ | refine below_drew ?_ | refine below_step ?_ (by assumption))) _)⟩⟩
        | exact ⟨_, _, l2, x2, rfl, rfl, ⟨(finC (HL.out.step (by repeat (first | (with_reducible exact Below.refl _ _) | refine below_alloc ?_ _ | refine below_drew ?_ | refine below_step ?_ (by assumption)))) (by repeat (first | (with_reducible exact Below.refl _ _) | refine below_alloc ?_ _ | refine below_drew ?_ | refine below_step ?_ (by assumption))) hg).1⟩, ⟨(finC (HL.out.step (by repeat (first | (with_reducible exact Below.refl _ _) | refine below_alloc ?_ _ | refine below_drew ?_ | refine below_step ?_ (by assumption)))) (by repeat (first | (with_reducible exact Below.refl _ _) | refine below_alloc ?_ _ | refine below_drew ?_ | refine below_step ?_ (by assumption))) hg).2.less (Nat.zero_le _)⟩, ⟨HE.out.trans (he.mono (by have := hti.len; have := HZL.out; omega))⟩, ⟨hv⟩, ⟨he.le⟩, ⟨finCR (HL.out.step (by repeat (first | (with_reducible exact Below.refl _ _) | refine below_alloc ?_ _ | refine below_drew ?_ | refine below_step ?_ (by assumption)))) (by repeat (first | (with_reducible exact Below.refl _ _) | refine below_alloc ?_ _ | refine below_drew ?_ | refine below_step ?_ (by assumption))) (Kd.R_below HZ.out (by repeat (first | (with_reducible exact Below.refl _ _) | refine below_alloc ?_ _ | refine below_drew ?_ | refine below_step ?_ (by assumption)))) (by decide)⟩⟩
  case rest =>
    clear k0 k1 KS HL HG HE HZ 
    obtain ⟨g20, v2, l2, x2, rfl, rfl, HL, HG, HE, HV2, HLE2, HZ⟩ := hcut
    obtain ⟨A2, c2, rfl, _⟩ := HG.out.slice
    have hk5 : wc.cell? ⟨g5, 0, none⟩ = some (.int .i64 o) := blk_cell (HL.out.get 3 rfl) 0
    by_cases h13 : o = 13
    · subst h13
      go_wp2_with (first
          | ((with_reducible refine zg 85 rfl ?_); refine zl 0 30 (.tmp 20) HL hu30 ?_)
          | ((with_reducible refine zst 30 (.tmp 8) (.tmp 85) rfl ?_); refine zs 2 0 30 (.tmp 8) (.tmp 85) [.int .i64 ins, .slice A2 l2.length c2] HL ?_; intro w6_ HLn hfar; replace HG := am (HG.out.far HL.out 2 rfl hfar); replace HL := HLn; clear HLn hfar))
      refine zret 2 8 9 30 HL hu30 ?_
      exact ⟨_, l2, turnI x2, rfl, HG.out, HE.out.mono (by omega), HV2.out.turn HG.out.bnd, HL.out.below⟩
    · have e13 : (o == 13) = false := by simp; exact h13
      go_wp2_with (first
          | ((with_reducible refine zg 88 rfl ?_); refine zl 0 30 (.tmp 20) HL hu30 ?_)
          | ((with_reducible refine zst 30 (.tmp 8) (.tmp 88) rfl ?_); refine zs 2 0 30 (.tmp 8) (.tmp 88) [.int .i64 ins, .slice A2 l2.length c2] HL ?_; intro w6_ HLn hfar; replace HG := am (HG.out.far HL.out 2 rfl hfar); replace HL := HLn; clear HLn hfar))
      refine zret 2 8 9 30 HL hu30 ?_
      exact ⟨_, l2, x2, rfl, HG.out, HE.out.mono (by omega), HV2.out, HL.out.below⟩
theorem asked_any (ins : Int) (v : Value) (l : List S117) (x : S77) (A : Option Addr) (c : Nat) (xs : List Int) (B : Option Addr) (d : Nat) (ys : List Int) (w : World) (h : GOk ins v l (6 * xs.length) w) (hA : (Kd.int .i64).C w A xs.length xs) (hB : (Kd.int .i64).C w B ys.length ys) (hs : xs.length ≤ 1000000) (hx : Vlds ins l.length xs) (hy : Vlds ins l.length ys) (hle : x.f0 ≠ 4 → x.f0 ≠ 5 → xs.length ≤ ys.length) :
    Calls Try.prog 99 #[.agg #[.int .i64 ins, v], .agg #[.int .i64 x.f0, .int .i64 x.f1, .int .i64 x.f2, .int .i64 x.f3, .int .i64 x.f4, .int .i64 x.f5, .int .i64 x.f6], .slice A xs.length c, .slice B ys.length d] w (RetG ins l (6 * xs.length) w) := by
  by_cases h5 : x.f0 = 5
  · exact asked_redand ins v l x A c xs B d ys w h hA hB hs hx hy h5
  by_cases h4 : x.f0 = 4
  · exact asked_redor ins v l x A c xs B d ys w h hA hB hs hx hy h4
  by_cases h14 : x.f0 = 14
  · exact asked_lt ins v l x A c xs B d ys w h hA hB hs hx hy (hle h4 h5) h14
  by_cases h15 : x.f0 = 15
  · exact asked_le ins v l x A c xs B d ys w h hA hB hs hx hy (hle h4 h5) h15
  exact asked_eq ins v l x A c xs B d ys w h hA hB hs hx hy (hle h4 h5) h4 h5 h14 h15
section
variable {α : Type} {P : Program} {ops : Array Oper} {rest : List Oper} {o : Oper} {a : Act} {Q : Exit → Act → World → Prop} {Kc : Act → World → Prop}
/-- append(s, y...), a step of a region that draws. -/
theorem zaps_step (d : Kd α) {w0 W : World} (s x : Operand) (t e : TypeId) {z : Value} {bytes : Nat} {v : Value} {xs ys : List α} {A : Option Addr} {c k : Nat}
    (HO : d.R e W w0.heap.size Any v xs) (HB : Below w0.heap.size w0 W) (HC : d.C W A k ys) (ht : P.underlying t = some (.slice e)) (hinfo : (P.info? e).map (fun i => (i.zero, i.size, i.bytes)) = some (some z, d.sz, bytes))
    (hKM : ∀ x cs, d.K W x cs → d.M W w0.heap.size (fun _ => False) x cs) (hl : (xs.length + k) * bytes ≤ 140737488355328)
    (h : ∀ v1 w1, d.R e w1 w0.heap.size Any v1 (xs ++ ys) → Below w0.heap.size w0 w1 → Kc (a.put o.dst v1) w1)
    (ho : o.op = .call { callee := .builtin .append, args := #[s, x], argTypes := #[t, t] } := by rfl) (hw : Region.wanted o (yielded ops a.tmps) = true := by rfl)
    (hz : z.cells.size = d.sz := by rfl) (hs0 : 0 < d.sz := by decide) (hb0 : 0 < bytes := by decide) (hs : a.eval s = v := by rfl) (hx : a.eval x = .slice A k c := by rfl) :
    if Region.wanted o (yielded ops a.tmps) = true then Oper.wp P o a W Kc Q else Kc (a.put o.dst undef) W :=
  Kd.R_append_rows_step d (w0 := w0) w0.heap.size hw s x t e z bytes ho ht hinfo hz hs0 hb0 v xs ys A k c Any (fun _ => False) hs hx HO HC hKM (fun _ h => h.elim) (fun _ _ => trivial) HB HB.size hl
    (fun v1 w1 h1 hb _ _ => h v1 w1 h1 hb)
/-- A literal of one number. -/
theorem zl1 {w0 W : World} {L : List Bx} (N : Tmp) (n : Int) (HL : Aside0 (Led L w0 W))
    (h : ∀ v1 w1, Aside0 (Ri w1 w0.heap.size v1 [n]) → Aside0 (Led L w0 w1) → Below W.heap.size W w1 → wpList P ops Q rest (a.put o.dst v1) w1)
    (_hd : o.dst = some N := by rfl) (hgd : o.guard = none := by rfl)
    (hrun : (execOp a.eval o).run P W = .ok (.value (.slice (some ⟨W.heap.size, 0, none⟩) 1 1)) (W.alloc (.cells #[.int .i64 n] 3)) := by first | (go_simp; done) | (go_simp; rfl)) : wpList P ops Q (o :: rest) a W :=
  Kd.R_lit (Kd.int .i64) (w0 := w0) w0.heap.size 3 hgd (N := N) _hd (xs := [n]) (inner := [.int .i64 n]) (ok := Any) (okp := fun _ => False) hrun ⟨rfl, fun j p hp => by
    cases j with
    | zero => have : n = p := by simpa using hp
              subst this; rfl
    | succ j => simp at hp⟩ (fun _ h => h.elim) trivial HL.out.below HL.out.below.size (by simp) (fun v1 w1 h1 _ hg _ => h v1 w1 ⟨h1⟩ ⟨HL.out.step (below_none hg)⟩ (below_none hg))
end
theorem KB.of_below {g : Nat} {w w1 : World} (h : Below w.heap.size w w1) : KB g w w1 := fun k hk _ => h.block k hk
theorem KB.alloc {g : Nat} {w w1 : World} (h : KB g w w1) (o : Obj) : KB g w (w1.alloc o) := h.step (below_alloc (Below.refl _ _) o)
theorem C_part {w : World} {ad : Addr} {n : Nat} {xs : List Int} (h : (Kd.int .i64).C w (some ad) n xs) (lo m : Nat) (hm : lo + m ≤ n) : (Kd.int .i64).C w (some (ad.add lo)) m ((xs.drop lo).take m) := by
  have hl := h.1
  refine ⟨by simp; omega, by have := h.2.1; omega, fun h0 => ⟨_, rfl, fun j p hp => ?_⟩⟩
  obtain ⟨ad', e, hc⟩ := h.2.2 (by omega)
  cases e
  rw [List.getElem?_take] at hp
  split at hp
  · rw [List.getElem?_drop] at hp
    obtain ⟨c, h1, h2, h3⟩ := hc (lo + j) p hp
    refine ⟨c, h1, h2, fun i u hu => ?_⟩
    have := h3 i u hu
    rw [Addr.add_add]
    rw [show lo + (j * (Kd.int .i64).sz + i) = (lo + j) * (Kd.int .i64).sz + i by show lo + (j * 1 + i) = (lo + j) * 1 + i; omega]
    exact this
  · cases hp
set_option maxHeartbeats 32000000 in
set_option maxRecDepth 100000 in
theorem do_each6 (ins : Int) (v : Value) (l : List S117) (x : S77) (A : Option Addr) (c : Nat) (xs : List Int) (B : Option Addr) (d : Nat) (ys : List Int) (C : Option Addr) (e : Nat) (zz : List Int) (w : World) (h : GOk ins v l 2560 w) (hA : (Kd.int .i64).C w A xs.length xs) (hB : (Kd.int .i64).C w B ys.length ys) (hC : (Kd.int .i64).C w C zz.length zz) (hx : Vlds ins l.length xs) (hy : Vlds ins l.length ys) (hz : Vlds ins l.length zz) (hs : xs.length ≤ 16) (hle : xs.length ≤ ys.length) (h0 : x.f0 = 6) :
    Calls Try.prog 77 #[.agg #[.int .i64 ins, v], .agg #[.int .i64 x.f0, .int .i64 x.f1, .int .i64 x.f2, .int .i64 x.f3, .int .i64 x.f4, .int .i64 x.f5, .int .i64 x.f6], .slice A xs.length c, .slice B ys.length d, .slice C zz.length e] w (RetL ins l 2560 xs.length w) := by
  obtain ⟨A0, c0, rfl, hlc, _⟩ := h.slice
  have HG := am (h.less (Nat.zero_le _))
  have HM : Aside0 (l.length + 2560 ≤ 1000000000) := ⟨h.len⟩
  have HE := am (Ext.refl (k := 0) h.ok)
  have HA := am hA
  have HB := am hB
  have HC := am hC
  have HX := am hx
  have HY := am hy
  have HZ := am hz
  have hi0 := h.i0
  have HL : Aside0 (Led [] w w) := ⟨Led.nil w⟩
  have hu30 := Try.underlying30
  have hu77 := Try.underlying77
  clear h hA hB hC hx hy hz hlc
  obtain ⟨o, ho⟩ : ∃ o, x.f0 = o := ⟨_, rfl⟩
  obtain rfl : o = 6 := ho.symm.trans h0
  rw [ho]
  go_enter Try.func77, Try.ntmps77
  go_wp2_with (first
    | ((with_reducible refine zg 5 rfl ?_); refine zx 5 [.int .i64 ins, .slice A0 l.length c0] 30 HL ?_; clear HL; intro g5 w1_ HL hb_; replace HG := am (HG.out.step hb_); clear hb_)
    | ((with_reducible refine zg 6 rfl ?_); refine zx 6 [.int .i64 6, .int .i64 x.f1, .int .i64 x.f2, .int .i64 x.f3, .int .i64 x.f4, .int .i64 x.f5, .int .i64 x.f6] 77 HL ?_; clear HL; intro g6 w2_ HL hb_; replace HG := am (HG.out.step hb_); clear hb_)
    | ((with_reducible refine zg 10 rfl ?_); refine zx 10 [.int .i64 0, .slice none 0 0] 30 HL ?_; clear HL; intro g10 w3_ HL hb_; replace HG := am (HG.out.step hb_); have hk6 : w3_.cell? ⟨g6, 0, none⟩ = some (.int .i64 6) := blk_cell (HL.out.get 1 rfl) 0; clear hb_)
    | ((with_reducible refine zg 46 rfl ?_); refine zl 2 30 (.tmp 5) HL hu30 ?_)
    | (go_at_call 95; refine (each_any ins _ l A c xs B d ys 6 _ (HG.out.more (by have := HM.out; have := HE.out.len; omega)) (Kd.C_below HA.out HL.out.below) (Kd.C_below HB.out HL.out.below) (by omega) (by omega) HX.out HY.out).mono ?_; rintro e_ we1 ⟨v1, l1, vr, rr, rfl, hg, he, hr, HRL, hrs, hb⟩; obtain ⟨A1, c1, rfl, _⟩ := hg.slice; obtain ⟨AR, cR, rfl⟩ := Kd.R_slice hr; replace HL := am (HL.out.step hb); replace HG := am hg; replace HE := am (HE.out.trans he); have HR := am hr; have HRS := am hrs; replace HRL := am HRL; clear hg he hb hr hrs)
    | ((with_reducible refine zg 12 rfl ?_); refine zx 12 [.int .i64 0, .slice none 0 0] 30 HL ?_; clear HL; intro g12 w4_ HL hb_; replace HG := am (HG.out.step hb_); replace HR := am (Kd.R_below HR.out hb_); clear hb_)
    | ((with_reducible refine zst 30 (.tmp 12) (.tmp 52) rfl ?_); refine zs 0 0 30 (.tmp 12) (.tmp 52) [.int .i64 ins, .slice A1 l1.length c1] HL ?_; intro w5_ HLn hfar; replace HG := am (HG.out.far HL.out 0 rfl hfar); replace HR := am (Rfar HR.out HL.out 0 rfl hfar); replace HL := HLn; clear HLn hfar)
    | ((with_reducible refine zg 54 rfl ?_); refine zl 0 30 (.tmp 12) HL hu30 ?_)
    | ((with_reducible refine zst 30 (.tmp 10) (.tmp 54) rfl ?_); refine zs 1 0 30 (.tmp 10) (.tmp 54) [.int .i64 ins, .slice A1 l1.length c1] HL ?_; intro w6_ HLn hfar; replace HG := am (HG.out.far HL.out 1 rfl hfar); replace HR := am (Rfar HR.out HL.out 1 rfl hfar); replace HL := HLn; clear HLn hfar))
  refine zret 1 10 11 30 HL hu30 ?_
  exact ⟨_, l1, _, rr, rfl, HG.out, HE.out.mono (by omega), Kd.R_lower HR.out (Nat.zero_le _), HRL.out, HRS.out, HL.out.below⟩
set_option maxHeartbeats 32000000 in
set_option maxRecDepth 100000 in
theorem do_each7 (ins : Int) (v : Value) (l : List S117) (x : S77) (A : Option Addr) (c : Nat) (xs : List Int) (B : Option Addr) (d : Nat) (ys : List Int) (C : Option Addr) (e : Nat) (zz : List Int) (w : World) (h : GOk ins v l 2560 w) (hA : (Kd.int .i64).C w A xs.length xs) (hB : (Kd.int .i64).C w B ys.length ys) (hC : (Kd.int .i64).C w C zz.length zz) (hx : Vlds ins l.length xs) (hy : Vlds ins l.length ys) (hz : Vlds ins l.length zz) (hs : xs.length ≤ 16) (hle : xs.length ≤ ys.length) (h0 : x.f0 = 7) :
    Calls Try.prog 77 #[.agg #[.int .i64 ins, v], .agg #[.int .i64 x.f0, .int .i64 x.f1, .int .i64 x.f2, .int .i64 x.f3, .int .i64 x.f4, .int .i64 x.f5, .int .i64 x.f6], .slice A xs.length c, .slice B ys.length d, .slice C zz.length e] w (RetL ins l 2560 xs.length w) := by
  obtain ⟨A0, c0, rfl, hlc, _⟩ := h.slice
  have HG := am (h.less (Nat.zero_le _))
  have HM : Aside0 (l.length + 2560 ≤ 1000000000) := ⟨h.len⟩
  have HE := am (Ext.refl (k := 0) h.ok)
  have HA := am hA
  have HB := am hB
  have HC := am hC
  have HX := am hx
  have HY := am hy
  have HZ := am hz
  have hi0 := h.i0
  have HL : Aside0 (Led [] w w) := ⟨Led.nil w⟩
  have hu30 := Try.underlying30
  have hu77 := Try.underlying77
  clear h hA hB hC hx hy hz hlc
  obtain ⟨o, ho⟩ : ∃ o, x.f0 = o := ⟨_, rfl⟩
  obtain rfl : o = 7 := ho.symm.trans h0
  rw [ho]
  go_enter Try.func77, Try.ntmps77
  go_wp2_with (first
    | ((with_reducible refine zg 5 rfl ?_); refine zx 5 [.int .i64 ins, .slice A0 l.length c0] 30 HL ?_; clear HL; intro g5 w1_ HL hb_; replace HG := am (HG.out.step hb_); clear hb_)
    | ((with_reducible refine zg 6 rfl ?_); refine zx 6 [.int .i64 7, .int .i64 x.f1, .int .i64 x.f2, .int .i64 x.f3, .int .i64 x.f4, .int .i64 x.f5, .int .i64 x.f6] 77 HL ?_; clear HL; intro g6 w2_ HL hb_; replace HG := am (HG.out.step hb_); clear hb_)
    | ((with_reducible refine zg 10 rfl ?_); refine zx 10 [.int .i64 0, .slice none 0 0] 30 HL ?_; clear HL; intro g10 w3_ HL hb_; replace HG := am (HG.out.step hb_); have hk6 : w3_.cell? ⟨g6, 0, none⟩ = some (.int .i64 7) := blk_cell (HL.out.get 1 rfl) 0; clear hb_)
    | ((with_reducible refine zg 46 rfl ?_); refine zl 2 30 (.tmp 5) HL hu30 ?_)
    | (go_at_call 95; refine (each_any ins _ l A c xs B d ys 7 _ (HG.out.more (by have := HM.out; have := HE.out.len; omega)) (Kd.C_below HA.out HL.out.below) (Kd.C_below HB.out HL.out.below) (by omega) (by omega) HX.out HY.out).mono ?_; rintro e_ we1 ⟨v1, l1, vr, rr, rfl, hg, he, hr, HRL, hrs, hb⟩; obtain ⟨A1, c1, rfl, _⟩ := hg.slice; obtain ⟨AR, cR, rfl⟩ := Kd.R_slice hr; replace HL := am (HL.out.step hb); replace HG := am hg; replace HE := am (HE.out.trans he); have HR := am hr; have HRS := am hrs; replace HRL := am HRL; clear hg he hb hr hrs)
    | ((with_reducible refine zg 12 rfl ?_); refine zx 12 [.int .i64 0, .slice none 0 0] 30 HL ?_; clear HL; intro g12 w4_ HL hb_; replace HG := am (HG.out.step hb_); replace HR := am (Kd.R_below HR.out hb_); clear hb_)
    | ((with_reducible refine zst 30 (.tmp 12) (.tmp 52) rfl ?_); refine zs 0 0 30 (.tmp 12) (.tmp 52) [.int .i64 ins, .slice A1 l1.length c1] HL ?_; intro w5_ HLn hfar; replace HG := am (HG.out.far HL.out 0 rfl hfar); replace HR := am (Rfar HR.out HL.out 0 rfl hfar); replace HL := HLn; clear HLn hfar)
    | ((with_reducible refine zg 54 rfl ?_); refine zl 0 30 (.tmp 12) HL hu30 ?_)
    | ((with_reducible refine zst 30 (.tmp 10) (.tmp 54) rfl ?_); refine zs 1 0 30 (.tmp 10) (.tmp 54) [.int .i64 ins, .slice A1 l1.length c1] HL ?_; intro w6_ HLn hfar; replace HG := am (HG.out.far HL.out 1 rfl hfar); replace HR := am (Rfar HR.out HL.out 1 rfl hfar); replace HL := HLn; clear HLn hfar))
  refine zret 1 10 11 30 HL hu30 ?_
  exact ⟨_, l1, _, rr, rfl, HG.out, HE.out.mono (by omega), Kd.R_lower HR.out (Nat.zero_le _), HRL.out, HRS.out, HL.out.below⟩
set_option maxHeartbeats 32000000 in
set_option maxRecDepth 100000 in
theorem do_each8 (ins : Int) (v : Value) (l : List S117) (x : S77) (A : Option Addr) (c : Nat) (xs : List Int) (B : Option Addr) (d : Nat) (ys : List Int) (C : Option Addr) (e : Nat) (zz : List Int) (w : World) (h : GOk ins v l 2560 w) (hA : (Kd.int .i64).C w A xs.length xs) (hB : (Kd.int .i64).C w B ys.length ys) (hC : (Kd.int .i64).C w C zz.length zz) (hx : Vlds ins l.length xs) (hy : Vlds ins l.length ys) (hz : Vlds ins l.length zz) (hs : xs.length ≤ 16) (hle : xs.length ≤ ys.length) (h0 : x.f0 = 8) :
    Calls Try.prog 77 #[.agg #[.int .i64 ins, v], .agg #[.int .i64 x.f0, .int .i64 x.f1, .int .i64 x.f2, .int .i64 x.f3, .int .i64 x.f4, .int .i64 x.f5, .int .i64 x.f6], .slice A xs.length c, .slice B ys.length d, .slice C zz.length e] w (RetL ins l 2560 xs.length w) := by
  obtain ⟨A0, c0, rfl, hlc, _⟩ := h.slice
  have HG := am (h.less (Nat.zero_le _))
  have HM : Aside0 (l.length + 2560 ≤ 1000000000) := ⟨h.len⟩
  have HE := am (Ext.refl (k := 0) h.ok)
  have HA := am hA
  have HB := am hB
  have HC := am hC
  have HX := am hx
  have HY := am hy
  have HZ := am hz
  have hi0 := h.i0
  have HL : Aside0 (Led [] w w) := ⟨Led.nil w⟩
  have hu30 := Try.underlying30
  have hu77 := Try.underlying77
  clear h hA hB hC hx hy hz hlc
  obtain ⟨o, ho⟩ : ∃ o, x.f0 = o := ⟨_, rfl⟩
  obtain rfl : o = 8 := ho.symm.trans h0
  rw [ho]
  go_enter Try.func77, Try.ntmps77
  go_wp2_with (first
    | ((with_reducible refine zg 5 rfl ?_); refine zx 5 [.int .i64 ins, .slice A0 l.length c0] 30 HL ?_; clear HL; intro g5 w1_ HL hb_; replace HG := am (HG.out.step hb_); clear hb_)
    | ((with_reducible refine zg 6 rfl ?_); refine zx 6 [.int .i64 8, .int .i64 x.f1, .int .i64 x.f2, .int .i64 x.f3, .int .i64 x.f4, .int .i64 x.f5, .int .i64 x.f6] 77 HL ?_; clear HL; intro g6 w2_ HL hb_; replace HG := am (HG.out.step hb_); clear hb_)
    | ((with_reducible refine zg 10 rfl ?_); refine zx 10 [.int .i64 0, .slice none 0 0] 30 HL ?_; clear HL; intro g10 w3_ HL hb_; replace HG := am (HG.out.step hb_); have hk6 : w3_.cell? ⟨g6, 0, none⟩ = some (.int .i64 8) := blk_cell (HL.out.get 1 rfl) 0; clear hb_)
    | ((with_reducible refine zg 46 rfl ?_); refine zl 2 30 (.tmp 5) HL hu30 ?_)
    | (go_at_call 95; refine (each_any ins _ l A c xs B d ys 8 _ (HG.out.more (by have := HM.out; have := HE.out.len; omega)) (Kd.C_below HA.out HL.out.below) (Kd.C_below HB.out HL.out.below) (by omega) (by omega) HX.out HY.out).mono ?_; rintro e_ we1 ⟨v1, l1, vr, rr, rfl, hg, he, hr, HRL, hrs, hb⟩; obtain ⟨A1, c1, rfl, _⟩ := hg.slice; obtain ⟨AR, cR, rfl⟩ := Kd.R_slice hr; replace HL := am (HL.out.step hb); replace HG := am hg; replace HE := am (HE.out.trans he); have HR := am hr; have HRS := am hrs; replace HRL := am HRL; clear hg he hb hr hrs)
    | ((with_reducible refine zg 12 rfl ?_); refine zx 12 [.int .i64 0, .slice none 0 0] 30 HL ?_; clear HL; intro g12 w4_ HL hb_; replace HG := am (HG.out.step hb_); replace HR := am (Kd.R_below HR.out hb_); clear hb_)
    | ((with_reducible refine zst 30 (.tmp 12) (.tmp 52) rfl ?_); refine zs 0 0 30 (.tmp 12) (.tmp 52) [.int .i64 ins, .slice A1 l1.length c1] HL ?_; intro w5_ HLn hfar; replace HG := am (HG.out.far HL.out 0 rfl hfar); replace HR := am (Rfar HR.out HL.out 0 rfl hfar); replace HL := HLn; clear HLn hfar)
    | ((with_reducible refine zg 54 rfl ?_); refine zl 0 30 (.tmp 12) HL hu30 ?_)
    | ((with_reducible refine zst 30 (.tmp 10) (.tmp 54) rfl ?_); refine zs 1 0 30 (.tmp 10) (.tmp 54) [.int .i64 ins, .slice A1 l1.length c1] HL ?_; intro w6_ HLn hfar; replace HG := am (HG.out.far HL.out 1 rfl hfar); replace HR := am (Rfar HR.out HL.out 1 rfl hfar); replace HL := HLn; clear HLn hfar))
  refine zret 1 10 11 30 HL hu30 ?_
  exact ⟨_, l1, _, rr, rfl, HG.out, HE.out.mono (by omega), Kd.R_lower HR.out (Nat.zero_le _), HRL.out, HRS.out, HL.out.below⟩
set_option maxHeartbeats 32000000 in
set_option maxRecDepth 100000 in
theorem do_add (ins : Int) (v : Value) (l : List S117) (x : S77) (A : Option Addr) (c : Nat) (xs : List Int) (B : Option Addr) (d : Nat) (ys : List Int) (C : Option Addr) (e : Nat) (zz : List Int) (w : World) (h : GOk ins v l 2560 w) (hA : (Kd.int .i64).C w A xs.length xs) (hB : (Kd.int .i64).C w B ys.length ys) (hC : (Kd.int .i64).C w C zz.length zz) (hx : Vlds ins l.length xs) (hy : Vlds ins l.length ys) (hz : Vlds ins l.length zz) (hs : xs.length ≤ 16) (hle : xs.length ≤ ys.length) (h0 : x.f0 = 9) :
    Calls Try.prog 77 #[.agg #[.int .i64 ins, v], .agg #[.int .i64 x.f0, .int .i64 x.f1, .int .i64 x.f2, .int .i64 x.f3, .int .i64 x.f4, .int .i64 x.f5, .int .i64 x.f6], .slice A xs.length c, .slice B ys.length d, .slice C zz.length e] w (RetL ins l 2560 xs.length w) := by
  obtain ⟨A0, c0, rfl, hlc, _⟩ := h.slice
  have HG := am (h.less (Nat.zero_le _))
  have HM : Aside0 (l.length + 2560 ≤ 1000000000) := ⟨h.len⟩
  have HE := am (Ext.refl (k := 0) h.ok)
  have HA := am hA
  have HB := am hB
  have HC := am hC
  have HX := am hx
  have HY := am hy
  have HZ := am hz
  have hi0 := h.i0
  have HL : Aside0 (Led [] w w) := ⟨Led.nil w⟩
  have hu30 := Try.underlying30
  have hu77 := Try.underlying77
  clear h hA hB hC hx hy hz hlc
  obtain ⟨o, ho⟩ : ∃ o, x.f0 = o := ⟨_, rfl⟩
  obtain rfl : o = 9 := ho.symm.trans h0
  rw [ho]
  go_enter Try.func77, Try.ntmps77
  go_wp2_with (first
    | ((with_reducible refine zg 5 rfl ?_); refine zx 5 [.int .i64 ins, .slice A0 l.length c0] 30 HL ?_; clear HL; intro g5 w1_ HL hb_; replace HG := am (HG.out.step hb_); clear hb_)
    | ((with_reducible refine zg 6 rfl ?_); refine zx 6 [.int .i64 9, .int .i64 x.f1, .int .i64 x.f2, .int .i64 x.f3, .int .i64 x.f4, .int .i64 x.f5, .int .i64 x.f6] 77 HL ?_; clear HL; intro g6 w2_ HL hb_; replace HG := am (HG.out.step hb_); clear hb_)
    | ((with_reducible refine zg 10 rfl ?_); refine zx 10 [.int .i64 0, .slice none 0 0] 30 HL ?_; clear HL; intro g10 w3_ HL hb_; replace HG := am (HG.out.step hb_); have hk6 : w3_.cell? ⟨g6, 0, none⟩ = some (.int .i64 9) := blk_cell (HL.out.get 1 rfl) 0; clear hb_)
    | ((with_reducible refine zg 59 rfl ?_); refine zl 2 30 (.tmp 5) HL hu30 ?_)
    | (go_at_call 96; refine (sum_any ins _ l A c xs B d ys 0 _ (HG.out.more (by have := HM.out; have := HE.out.len; omega)) (Kd.C_below HA.out HL.out.below) (Kd.C_below HB.out HL.out.below) (by omega) (by omega) HX.out HY.out ⟨by omega, by omega⟩).mono ?_; rintro e_ we1 ⟨v1, l1, vr, rr, rfl, hg, he, hr, HRL, hrs, hb⟩; obtain ⟨A1, c1, rfl, _⟩ := hg.slice; obtain ⟨AR, cR, rfl⟩ := Kd.R_slice hr; replace HL := am (HL.out.step hb); replace HG := am hg; replace HE := am (HE.out.trans he); have HR := am hr; have HRS := am hrs; replace HRL := am HRL; clear hg he hb hr hrs)
    | ((with_reducible refine zg 14 rfl ?_); refine zx 14 [.int .i64 0, .slice none 0 0] 30 HL ?_; clear HL; intro g14 w4_ HL hb_; replace HG := am (HG.out.step hb_); replace HR := am (Kd.R_below HR.out hb_); clear hb_)
    | ((with_reducible refine zst 30 (.tmp 14) (.tmp 63) rfl ?_); refine zs 0 0 30 (.tmp 14) (.tmp 63) [.int .i64 ins, .slice A1 l1.length c1] HL ?_; intro w5_ HLn hfar; replace HG := am (HG.out.far HL.out 0 rfl hfar); replace HR := am (Rfar HR.out HL.out 0 rfl hfar); replace HL := HLn; clear HLn hfar)
    | ((with_reducible refine zg 65 rfl ?_); refine zl 0 30 (.tmp 14) HL hu30 ?_)
    | ((with_reducible refine zst 30 (.tmp 10) (.tmp 65) rfl ?_); refine zs 1 0 30 (.tmp 10) (.tmp 65) [.int .i64 ins, .slice A1 l1.length c1] HL ?_; intro w6_ HLn hfar; replace HG := am (HG.out.far HL.out 1 rfl hfar); replace HR := am (Rfar HR.out HL.out 1 rfl hfar); replace HL := HLn; clear HLn hfar))
  refine zret 1 10 11 30 HL hu30 ?_
  exact ⟨_, l1, _, rr, rfl, HG.out, HE.out.mono (by omega), Kd.R_lower HR.out (Nat.zero_le _), HRL.out, HRS.out, HL.out.below⟩
set_option maxHeartbeats 32000000 in
set_option maxRecDepth 100000 in
theorem do_mul (ins : Int) (v : Value) (l : List S117) (x : S77) (A : Option Addr) (c : Nat) (xs : List Int) (B : Option Addr) (d : Nat) (ys : List Int) (C : Option Addr) (e : Nat) (zz : List Int) (w : World) (h : GOk ins v l 2560 w) (hA : (Kd.int .i64).C w A xs.length xs) (hB : (Kd.int .i64).C w B ys.length ys) (hC : (Kd.int .i64).C w C zz.length zz) (hx : Vlds ins l.length xs) (hy : Vlds ins l.length ys) (hz : Vlds ins l.length zz) (hs : xs.length ≤ 16) (hle : ys.length ≤ 16) (h0 : x.f0 = 11) :
    Calls Try.prog 77 #[.agg #[.int .i64 ins, v], .agg #[.int .i64 x.f0, .int .i64 x.f1, .int .i64 x.f2, .int .i64 x.f3, .int .i64 x.f4, .int .i64 x.f5, .int .i64 x.f6], .slice A xs.length c, .slice B ys.length d, .slice C zz.length e] w (RetL ins l 2560 xs.length w) := by
  obtain ⟨A0, c0, rfl, hlc, _⟩ := h.slice
  have HG := am (h.less (Nat.zero_le _))
  have HM : Aside0 (l.length + 2560 ≤ 1000000000) := ⟨h.len⟩
  have HE := am (Ext.refl (k := 0) h.ok)
  have HA := am hA
  have HB := am hB
  have HC := am hC
  have HX := am hx
  have HY := am hy
  have HZ := am hz
  have hi0 := h.i0
  have HL : Aside0 (Led [] w w) := ⟨Led.nil w⟩
  have hu30 := Try.underlying30
  have hu77 := Try.underlying77
  clear h hA hB hC hx hy hz hlc
  obtain ⟨o, ho⟩ : ∃ o, x.f0 = o := ⟨_, rfl⟩
  obtain rfl : o = 11 := ho.symm.trans h0
  rw [ho]
  go_enter Try.func77, Try.ntmps77
  go_wp2_with (first
    | ((with_reducible refine zg 5 rfl ?_); refine zx 5 [.int .i64 ins, .slice A0 l.length c0] 30 HL ?_; clear HL; intro g5 w1_ HL hb_; replace HG := am (HG.out.step hb_); clear hb_)
    | ((with_reducible refine zg 6 rfl ?_); refine zx 6 [.int .i64 11, .int .i64 x.f1, .int .i64 x.f2, .int .i64 x.f3, .int .i64 x.f4, .int .i64 x.f5, .int .i64 x.f6] 77 HL ?_; clear HL; intro g6 w2_ HL hb_; replace HG := am (HG.out.step hb_); clear hb_)
    | ((with_reducible refine zg 10 rfl ?_); refine zx 10 [.int .i64 0, .slice none 0 0] 30 HL ?_; clear HL; intro g10 w3_ HL hb_; replace HG := am (HG.out.step hb_); have hk6 : w3_.cell? ⟨g6, 0, none⟩ = some (.int .i64 11) := blk_cell (HL.out.get 1 rfl) 0; clear hb_)
    | ((with_reducible refine zg 82 rfl ?_); refine zl 2 30 (.tmp 5) HL hu30 ?_)
    | (go_at_call 97; refine (times_any ins _ l A c xs B d ys _ (HG.out.more (by have := HM.out; have := HE.out.len; omega)) (Kd.C_below HA.out HL.out.below) (Kd.C_below HB.out HL.out.below) (by omega) HX.out HY.out).mono ?_; rintro e_ we1 ⟨v1, l1, vr, rr, rfl, hg, he, hr, HRL, hrs, hb⟩; obtain ⟨A1, c1, rfl, _⟩ := hg.slice; obtain ⟨AR, cR, rfl⟩ := Kd.R_slice hr; replace HL := am (HL.out.step hb); replace HG := am hg; replace HE := am (HE.out.trans he); have HR := am hr; have HRS := am hrs; replace HRL := am HRL; clear hg he hb hr hrs)
    | ((with_reducible refine zg 18 rfl ?_); refine zx 18 [.int .i64 0, .slice none 0 0] 30 HL ?_; clear HL; intro g18 w4_ HL hb_; replace HG := am (HG.out.step hb_); replace HR := am (Kd.R_below HR.out hb_); clear hb_)
    | ((with_reducible refine zst 30 (.tmp 18) (.tmp 86) rfl ?_); refine zs 0 0 30 (.tmp 18) (.tmp 86) [.int .i64 ins, .slice A1 l1.length c1] HL ?_; intro w5_ HLn hfar; replace HG := am (HG.out.far HL.out 0 rfl hfar); replace HR := am (Rfar HR.out HL.out 0 rfl hfar); replace HL := HLn; clear HLn hfar)
    | ((with_reducible refine zg 88 rfl ?_); refine zl 0 30 (.tmp 18) HL hu30 ?_)
    | ((with_reducible refine zst 30 (.tmp 10) (.tmp 88) rfl ?_); refine zs 1 0 30 (.tmp 10) (.tmp 88) [.int .i64 ins, .slice A1 l1.length c1] HL ?_; intro w6_ HLn hfar; replace HG := am (HG.out.far HL.out 1 rfl hfar); replace HR := am (Rfar HR.out HL.out 1 rfl hfar); replace HL := HLn; clear HLn hfar))
  refine zret 1 10 11 30 HL hu30 ?_
  exact ⟨_, l1, _, rr, rfl, HG.out, HE.out.mono (by omega), Kd.R_lower HR.out (Nat.zero_le _), HRL.out, HRS.out, HL.out.below⟩
set_option maxHeartbeats 32000000 in
set_option maxRecDepth 100000 in
theorem do_lit (ins : Int) (v : Value) (l : List S117) (x : S77) (A : Option Addr) (c : Nat) (xs : List Int) (B : Option Addr) (d : Nat) (ys : List Int) (C : Option Addr) (e : Nat) (zz : List Int) (w : World) (h : GOk ins v l 2560 w) (hA : (Kd.int .i64).C w A xs.length xs) (hB : (Kd.int .i64).C w B ys.length ys) (hC : (Kd.int .i64).C w C zz.length zz) (hx : Vlds ins l.length xs) (hy : Vlds ins l.length ys) (hz : Vlds ins l.length zz) (m : Nat) (hm : m ≤ 16) (h1 : x.f1 = (m : Int)) (h0 : x.f0 = 1) :
    Calls Try.prog 77 #[.agg #[.int .i64 ins, v], .agg #[.int .i64 x.f0, .int .i64 x.f1, .int .i64 x.f2, .int .i64 x.f3, .int .i64 x.f4, .int .i64 x.f5, .int .i64 x.f6], .slice A xs.length c, .slice B ys.length d, .slice C zz.length e] w (RetL ins l 2560 m w) := by
  obtain ⟨A0, c0, rfl, hlc, _⟩ := h.slice
  have HG := am (h.less (Nat.zero_le _))
  have HM : Aside0 (l.length + 2560 ≤ 1000000000) := ⟨h.len⟩
  have HE := am (Ext.refl (k := 0) h.ok)
  have HA := am hA
  have HB := am hB
  have HC := am hC
  have HX := am hx
  have HY := am hy
  have HZ := am hz
  have hi0 := h.i0
  have HL : Aside0 (Led [] w w) := ⟨Led.nil w⟩
  have hu30 := Try.underlying30
  have hu77 := Try.underlying77
  clear h hA hB hC hx hy hz hlc
  obtain ⟨o, ho⟩ : ∃ o, x.f0 = o := ⟨_, rfl⟩
  obtain rfl : o = 1 := ho.symm.trans h0
  rw [ho]
  rw [h1]
  go_enter Try.func77, Try.ntmps77
  go_wp2_with (first
    | ((with_reducible refine zg 5 rfl ?_); refine zx 5 [.int .i64 ins, .slice A0 l.length c0] 30 HL ?_; clear HL; intro g5 w1_ HL hb_; replace HG := am (HG.out.step hb_); clear hb_)
    | ((with_reducible refine zg 6 rfl ?_); refine zx 6 [.int .i64 1, .int .i64 (m : Int), .int .i64 x.f2, .int .i64 x.f3, .int .i64 x.f4, .int .i64 x.f5, .int .i64 x.f6] 77 HL ?_; clear HL; intro g6 w2_ HL hb_; replace HG := am (HG.out.step hb_); clear hb_)
    | ((with_reducible refine zg 10 rfl ?_); refine zx 10 [.int .i64 0, .slice none 0 0] 30 HL ?_; clear HL; intro g10 w3_ HL hb_; replace HG := am (HG.out.step hb_); have hk6 : w3_.cell? ⟨g6, 0, none⟩ = some (.int .i64 1) := blk_cell (HL.out.get 1 rfl) 0; have hk6_5 : w3_.cell? ⟨g6, 5, none⟩ = some (.int .i64 x.f5) := blk_cell (HL.out.get 1 rfl) 5; have hk6_1 : w3_.cell? ⟨g6, 1, none⟩ = some (.int .i64 (m : Int)) := blk_cell (HL.out.get 1 rfl) 1; clear hb_))
  obtain ⟨nn1, nn2⟩ : g10 ≠ g6 ∧ g6 ≠ g10 := HL.out.ne 0 1 rfl rfl (by decide)
  obtain ⟨n1, n2⟩ : g5 ≠ g10 ∧ g10 ≠ g5 := (HL.out.ne 0 2 rfl rfl (by decide)).symm
  have k0 : w3_.cell? ⟨g5, 0, none⟩ = some (.int .i64 ins) := blk_cell (HL.out.get 2 rfl) 0
  have k1 : w3_.cell? ⟨g5, 1, none⟩ = some (.slice A0 l.length c0) := blk_cell (HL.out.get 2 rfl) 1
  have q0 : w3_.cell? ⟨g10, 0, none⟩ = some (.int .i64 0) := blk_cell (HL.out.get 0 rfl) 0
  have f0 : w3_.frozen? ⟨g10, 0, none⟩ = false := blk_frozen (HL.out.get 0 rfl) 0
  have q1 : w3_.cell? ⟨g10, 1, none⟩ = some (.slice none 0 0) := blk_cell (HL.out.get 0 rfl) 1
  have f1 : w3_.frozen? ⟨g10, 1, none⟩ = false := blk_frozen (HL.out.get 0 rfl) 1
  have hlt_ : g10 < w3_.heap.size := blk_lt (HL.out.get 0 rfl)
  have KS : Aside0 (∀ W, KB g10 w3_ W → (W.cell? ⟨g5, 0, none⟩ = some (.int .i64 ins) ∧ W.cell? ⟨g5, 1, none⟩ = some (.slice A0 l.length c0) ∧ W.cell? ⟨g6, 5, none⟩ = some (.int .i64 x.f5) ∧ W.cell? ⟨g6, 1, none⟩ = some (.int .i64 (m : Int))) ∧ Aside0 (KB g10 w3_ W)) := ⟨fun W hb => ⟨⟨hb.cell k0 n1, hb.cell k1 n1, hb.cell hk6_5 nn2, hb.cell hk6_1 nn2⟩, ⟨hb⟩⟩⟩
  go_region_held3 (fun w' => (w'.cell? ⟨g5, 0, none⟩ = some (.int .i64 ins) ∧ w'.cell? ⟨g5, 1, none⟩ = some (.slice A0 l.length c0) ∧ w'.cell? ⟨g6, 5, none⟩ = some (.int .i64 x.f5) ∧ w'.cell? ⟨g6, 1, none⟩ = some (.int .i64 (m : Int))) ∧ Aside0 (KB g10 w3_ w'))
    ((refine KS.out _ ?_; repeat (first | (with_reducible exact Aside0.out (And.right (by assumption))) | (with_reducible refine KB.set ?_ _ _) | (with_reducible refine KB.step ?_ (by assumption)) | (with_reducible refine KB.drew ?_) | (with_reducible exact KB.refl _ _))))
    (first | (go_at_call 93; refine (lit_any _ m _ hm).mono ?_; rintro e_ we ⟨vr, rr, rfl, hr, hb2, hb⟩; obtain ⟨AR, cR, rfl⟩ := Kd.R_slice hr; have hB_ := below_step (below_drew (Below.refl _ _)) hb; have z0 := pw_cell_below hB_ q0; have z1 := pw_cell_below hB_ q1; have y0 := (hB_.frozen (p := ⟨g10, 0, none⟩) hlt_).trans f0; have y1 := (hB_.frozen (p := ⟨g10, 1, none⟩) hlt_).trans f1))
  clear k0 k1 q0 q1 f0 f1 n1 n2 hlt_ KS
  have HLe := HL.out.drew.step hb
  obtain ⟨HF, hfar⟩ := HLe.putC 0 rfl [.int .i64 ins, .slice A0 l.length c0] rfl
  go_wp2_with (fail)
  replace HG := am ((HG.out.drew.step hb).far HLe 0 rfl hfar)
  have HR := am (Rfar hr HLe 0 rfl hfar)
  replace HL := am HF
  refine zret 0 10 11 30 HL hu30 ?_
  exact ⟨_, l, _, rr, rfl, HG.out, HE.out.mono (by omega), Kd.R_lower HR.out (Nat.zero_le _), hb2.1, hb2.vlds hi0, HL.out.below⟩
set_option maxHeartbeats 32000000 in
set_option maxRecDepth 100000 in
theorem do_inv (ins : Int) (v : Value) (l : List S117) (x : S77) (A : Option Addr) (c : Nat) (xs : List Int) (B : Option Addr) (d : Nat) (ys : List Int) (C : Option Addr) (e : Nat) (zz : List Int) (w : World) (h : GOk ins v l 2560 w) (hA : (Kd.int .i64).C w A xs.length xs) (hB : (Kd.int .i64).C w B ys.length ys) (hC : (Kd.int .i64).C w C zz.length zz) (hx : Vlds ins l.length xs) (hy : Vlds ins l.length ys) (hz : Vlds ins l.length zz) (hs : xs.length ≤ 16) (h0 : x.f0 = 3) :
    Calls Try.prog 77 #[.agg #[.int .i64 ins, v], .agg #[.int .i64 x.f0, .int .i64 x.f1, .int .i64 x.f2, .int .i64 x.f3, .int .i64 x.f4, .int .i64 x.f5, .int .i64 x.f6], .slice A xs.length c, .slice B ys.length d, .slice C zz.length e] w (RetL ins l 2560 xs.length w) := by
  obtain ⟨A0, c0, rfl, hlc, _⟩ := h.slice
  have HG := am (h.less (Nat.zero_le _))
  have HM : Aside0 (l.length + 2560 ≤ 1000000000) := ⟨h.len⟩
  have HE := am (Ext.refl (k := 0) h.ok)
  have HA := am hA
  have HB := am hB
  have HC := am hC
  have HX := am hx
  have HY := am hy
  have HZ := am hz
  have hi0 := h.i0
  have HL : Aside0 (Led [] w w) := ⟨Led.nil w⟩
  have hu30 := Try.underlying30
  have hu77 := Try.underlying77
  clear h hA hB hC hx hy hz hlc
  obtain ⟨o, ho⟩ : ∃ o, x.f0 = o := ⟨_, rfl⟩
  obtain rfl : o = 3 := ho.symm.trans h0
  rw [ho]
  go_enter Try.func77, Try.ntmps77
  go_wp2_with (first
    | ((with_reducible refine zg 5 rfl ?_); refine zx 5 [.int .i64 ins, .slice A0 l.length c0] 30 HL ?_; clear HL; intro g5 w1_ HL hb_; replace HG := am (HG.out.step hb_); clear hb_)
    | ((with_reducible refine zg 6 rfl ?_); refine zx 6 [.int .i64 3, .int .i64 x.f1, .int .i64 x.f2, .int .i64 x.f3, .int .i64 x.f4, .int .i64 x.f5, .int .i64 x.f6] 77 HL ?_; clear HL; intro g6 w2_ HL hb_; replace HG := am (HG.out.step hb_); clear hb_)
    | ((with_reducible refine zg 10 rfl ?_); refine zx 10 [.int .i64 0, .slice none 0 0] 30 HL ?_; clear HL; intro g10 w3_ HL hb_; replace HG := am (HG.out.step hb_); have hk6 : w3_.cell? ⟨g6, 0, none⟩ = some (.int .i64 3) := blk_cell (HL.out.get 1 rfl) 0; clear hb_))
  obtain ⟨n1, n2⟩ : g5 ≠ g10 ∧ g10 ≠ g5 := (HL.out.ne 0 2 rfl rfl (by decide)).symm
  have k0 : w3_.cell? ⟨g5, 0, none⟩ = some (.int .i64 ins) := blk_cell (HL.out.get 2 rfl) 0
  have k1 : w3_.cell? ⟨g5, 1, none⟩ = some (.slice A0 l.length c0) := blk_cell (HL.out.get 2 rfl) 1
  have q0 : w3_.cell? ⟨g10, 0, none⟩ = some (.int .i64 0) := blk_cell (HL.out.get 0 rfl) 0
  have f0 : w3_.frozen? ⟨g10, 0, none⟩ = false := blk_frozen (HL.out.get 0 rfl) 0
  have q1 : w3_.cell? ⟨g10, 1, none⟩ = some (.slice none 0 0) := blk_cell (HL.out.get 0 rfl) 1
  have f1 : w3_.frozen? ⟨g10, 1, none⟩ = false := blk_frozen (HL.out.get 0 rfl) 1
  have hlt_ : g10 < w3_.heap.size := blk_lt (HL.out.get 0 rfl)
  have KS : Aside0 (∀ W, KB g10 w3_ W → (W.cell? ⟨g5, 0, none⟩ = some (.int .i64 ins) ∧ W.cell? ⟨g5, 1, none⟩ = some (.slice A0 l.length c0)) ∧ Aside0 (KB g10 w3_ W)) := ⟨fun W hb => ⟨⟨hb.cell k0 n1, hb.cell k1 n1⟩, ⟨hb⟩⟩⟩
  go_region_held3 (fun w' => (w'.cell? ⟨g5, 0, none⟩ = some (.int .i64 ins) ∧ w'.cell? ⟨g5, 1, none⟩ = some (.slice A0 l.length c0)) ∧ Aside0 (KB g10 w3_ w'))
    ((refine KS.out _ ?_; repeat (first | (with_reducible exact Aside0.out (And.right (by assumption))) | (with_reducible refine KB.set ?_ _ _) | (with_reducible refine KB.step ?_ (by assumption)) | (with_reducible refine KB.drew ?_) | (with_reducible exact KB.refl _ _))))
    (first | (go_at_call 94; refine (turned_any A c xs _ (Kd.C_below HA.out (below_step HL.out.below (by repeat (first | (with_reducible exact Below.refl _ _) | refine below_alloc ?_ _ | refine below_drew ?_ | refine below_step ?_ (by assumption))))) (by omega)).mono ?_; rintro e_ we ⟨vr, rr, rfl, hr, hb2, hb⟩; obtain ⟨AR, cR, rfl⟩ := Kd.R_slice hr; have hB_ := below_step (below_drew (Below.refl _ _)) hb; have z0 := pw_cell_below hB_ q0; have z1 := pw_cell_below hB_ q1; have y0 := (hB_.frozen (p := ⟨g10, 0, none⟩) hlt_).trans f0; have y1 := (hB_.frozen (p := ⟨g10, 1, none⟩) hlt_).trans f1))
  clear k0 k1 q0 q1 f0 f1 n1 n2 hlt_ KS
  have HLe := HL.out.drew.step hb
  obtain ⟨HF, hfar⟩ := HLe.putC 0 rfl [.int .i64 ins, .slice A0 l.length c0] rfl
  go_wp2_with (fail)
  replace HG := am ((HG.out.drew.step hb).far HLe 0 rfl hfar)
  have HR := am (Rfar hr HLe 0 rfl hfar)
  replace HL := am HF
  refine zret 0 10 11 30 HL hu30 ?_
  exact ⟨_, l, _, rr, rfl, HG.out, HE.out.mono (by omega), Kd.R_lower HR.out (Nat.zero_le _), hb2.len, (hb2.vlds HX.out HG.out.bnd), HL.out.below⟩
set_option maxHeartbeats 32000000 in
set_option maxRecDepth 100000 in
theorem do_sub (ins : Int) (v : Value) (l : List S117) (x : S77) (A : Option Addr) (c : Nat) (xs : List Int) (B : Option Addr) (d : Nat) (ys : List Int) (C : Option Addr) (e : Nat) (zz : List Int) (w : World) (h : GOk ins v l 2560 w) (hA : (Kd.int .i64).C w A xs.length xs) (hB : (Kd.int .i64).C w B ys.length ys) (hC : (Kd.int .i64).C w C zz.length zz) (hx : Vlds ins l.length xs) (hy : Vlds ins l.length ys) (hz : Vlds ins l.length zz) (hs : xs.length ≤ 16) (hle : xs.length ≤ ys.length) (hle2 : ys.length ≤ 16) (h0 : x.f0 = 10) :
    Calls Try.prog 77 #[.agg #[.int .i64 ins, v], .agg #[.int .i64 x.f0, .int .i64 x.f1, .int .i64 x.f2, .int .i64 x.f3, .int .i64 x.f4, .int .i64 x.f5, .int .i64 x.f6], .slice A xs.length c, .slice B ys.length d, .slice C zz.length e] w (RetL ins l 2560 xs.length w) := by
  obtain ⟨A0, c0, rfl, hlc, _⟩ := h.slice
  have HG := am (h.less (Nat.zero_le _))
  have HM : Aside0 (l.length + 2560 ≤ 1000000000) := ⟨h.len⟩
  have HE := am (Ext.refl (k := 0) h.ok)
  have HA := am hA
  have HB := am hB
  have HC := am hC
  have HX := am hx
  have HY := am hy
  have HZ := am hz
  have hi0 := h.i0
  have HL : Aside0 (Led [] w w) := ⟨Led.nil w⟩
  have hu30 := Try.underlying30
  have hu77 := Try.underlying77
  clear h hA hB hC hx hy hz hlc
  obtain ⟨o, ho⟩ : ∃ o, x.f0 = o := ⟨_, rfl⟩
  obtain rfl : o = 10 := ho.symm.trans h0
  rw [ho]
  go_enter Try.func77, Try.ntmps77
  go_upto_region 15 with (first
    | ((with_reducible refine zg 5 rfl ?_); refine zx 5 [.int .i64 ins, .slice A0 l.length c0] 30 HL ?_; clear HL; intro g5 w1_ HL hb_; replace HG := am (HG.out.step hb_); clear hb_)
    | ((with_reducible refine zg 6 rfl ?_); refine zx 6 [.int .i64 10, .int .i64 x.f1, .int .i64 x.f2, .int .i64 x.f3, .int .i64 x.f4, .int .i64 x.f5, .int .i64 x.f6] 77 HL ?_; clear HL; intro g6 w2_ HL hb_; replace HG := am (HG.out.step hb_); clear hb_)
    | ((with_reducible refine zg 10 rfl ?_); refine zx 10 [.int .i64 0, .slice none 0 0] 30 HL ?_; clear HL; intro g10 w3_ HL hb_; replace HG := am (HG.out.step hb_); have hk6 : w3_.cell? ⟨g6, 0, none⟩ = some (.int .i64 10) := blk_cell (HL.out.get 1 rfl) 0; clear hb_))
  have k0 : w3_.cell? ⟨g5, 0, none⟩ = some (.int .i64 ins) := blk_cell (HL.out.get 2 rfl) 0
  have k1 : w3_.cell? ⟨g5, 1, none⟩ = some (.slice A0 l.length c0) := blk_cell (HL.out.get 2 rfl) 1
  have KS : Aside0 (∀ W, Below w3_.heap.size w3_ W → (W.cell? ⟨g5, 0, none⟩ = some (.int .i64 ins) ∧ W.cell? ⟨g5, 1, none⟩ = some (.slice A0 l.length c0)) ∧ Aside0 (Below w3_.heap.size w3_ W)) := ⟨fun W hb => ⟨⟨pw_cell_below hb k0, pw_cell_below hb k1⟩, ⟨hb⟩⟩⟩
  go_cut [16, 17] (fun sh sx wx => ∃ g16 v2 l2 AR cR rr, sh = .pointer (some ⟨g16, 0, none⟩) ∧ sx = .slice AR rr.length cR ∧ Aside0 (Led [(g16, [.int .i64 ins, v2], 30), (g10, [.int .i64 0, .slice none 0 0], 30), (g6, [.int .i64 10, .int .i64 x.f1, .int .i64 x.f2, .int .i64 x.f3, .int .i64 x.f4, .int .i64 x.f5, .int .i64 x.f6], 77), (g5, [.int .i64 ins, .slice A0 l.length c0], 30)] w wx) ∧ Aside0 (GOk ins v2 l2 0 wx) ∧ Aside0 (Ext ins l l2 (9 * xs.length)) ∧ Aside0 (Ri wx 0 (.slice AR rr.length cR) rr) ∧ Aside0 (rr.length = xs.length) ∧ Aside0 (Vlds ins l2.length rr))
  case first =>
    go_region_held3 (fun w' => (w'.cell? ⟨g5, 0, none⟩ = some (.int .i64 ins) ∧ w'.cell? ⟨g5, 1, none⟩ = some (.slice A0 l.length c0)) ∧ Aside0 (Below w3_.heap.size w3_ w'))
      ((refine KS.out _ ?_; repeat (first | exact Aside0.out (And.right (by assumption)) | refine below_alloc ?_ _ | refine below_step ?_ (by assumption) | (refine below_set ?_ ?_; rotate_left; first | exact Nat.le_refl _ | exact (Aside0.out (p := Below w3_.heap.size w3_ _) (And.right (by assumption))).size | exact below_size (by repeat (first | (with_reducible exact Below.refl _ _) | refine below_alloc ?_ _ | refine below_drew ?_ | refine below_step ?_ (by assumption)))) | refine below_drew ?_ | exact Below.refl _ _)))
      (first | (go_at_call 94; refine (turned_any B d ys _ (Kd.C_below HB.out (below_step HL.out.below (by repeat (first | (with_reducible exact Below.refl _ _) | refine below_alloc ?_ _ | refine below_drew ?_ | refine below_step ?_ (by assumption))))) (by omega)).mono ?_; rintro e_ wt ⟨vt, ts, rfl, ht, hti, hbt⟩; obtain ⟨At, ct, rfl⟩ := Kd.R_slice ht; obtain ⟨hct, hft⟩ := bcell hbt; (try have hlt2 : w3_.heap.size < wt.heap.size := by have h_ := hbt.size; simp at h_; omega)) | (go_at_call 96; refine (sum_any ins _ l A c xs At ct ts 1 _ ((HG.out.step (by repeat (first | (with_reducible exact Below.refl _ _) | refine below_alloc ?_ _ | refine below_drew ?_ | refine below_step ?_ (by assumption)))).more (by have := HM.out; have := HE.out.len; omega)) (Kd.C_below HA.out (below_step HL.out.below (by repeat (first | (with_reducible exact Below.refl _ _) | refine below_alloc ?_ _ | refine below_drew ?_ | refine below_step ?_ (by assumption))))) (Kd.C_below (Kd.R_reads' ht).2.2 (by repeat (first | (with_reducible exact Below.refl _ _) | refine below_alloc ?_ _ | refine below_drew ?_ | refine below_step ?_ (by assumption)))) (by have := hti.len; omega) (by omega) HX.out (hti.vlds HY.out HG.out.bnd) ⟨by omega, by omega⟩).mono ?_; rintro e_ we ⟨v2, l2, vr, rr, rfl, hg, he, hr, hrl, hrs, hb⟩; obtain ⟨A2, c2, rfl, _⟩ := hg.slice; obtain ⟨AR, cR, rfl⟩ := Kd.R_slice hr; replace hrl := am hrl; obtain ⟨hc, hf⟩ := bcell hb))
    all_goals
      go_wp2_with (fail)
      go_meet
      first
        | exact ⟨_, _, l2, _, _, rr, rfl, rfl, ⟨(finA (HL.out.step (by repeat (first | (with_reducible exact Below.refl _ _) | refine below_alloc ?_ _ | refine below_drew ?_ | refine below_step ?_ (by assumption)))) hg).1⟩, ⟨(finA (HL.out.step (by repeat (first | (with_reducible exact Below.refl _ _) | refine below_alloc ?_ _ | refine below_drew ?_ | refine below_step ?_ (by assumption)))) hg).2⟩, ⟨(HE.out.trans he).mono (by omega)⟩, ⟨Kd.R_below hr (below_alloc (Below.refl _ _) _)⟩, hrl, ⟨hrs⟩⟩
        | exact ⟨_, _, l2, _, _, rr, rfl, rfl, ⟨(finC (HL.out.step (by repeat (first | (with_reducible exact Below.refl _ _) | refine below_alloc ?_ _ | refine below_drew ?_ | refine below_step ?_ (by assumption)))) (by repeat (first | (with_reducible exact Below.refl _ _) | refine below_alloc ?_ _ | refine below_drew ?_ | refine below_step ?_ (by assumption))) hg).1⟩, ⟨(finC (HL.out.step (by repeat (first | (with_reducible exact Below.refl _ _) | refine below_alloc ?_ _ | refine below_drew ?_ | refine below_step ?_ (by assumption)))) (by repeat (first | (with_reducible exact Below.refl _ _) | refine below_alloc ?_ _ | refine below_drew ?_ | refine below_step ?_ (by assumption))) hg).2⟩, ⟨(HE.out.trans he).mono (by omega)⟩, ⟨finCR (HL.out.step (by repeat (first | (with_reducible exact Below.refl _ _) | refine below_alloc ?_ _ | refine below_drew ?_ | refine below_step ?_ (by assumption)))) (by repeat (first | (with_reducible exact Below.refl _ _) | refine below_alloc ?_ _ | refine below_drew ?_ | refine below_step ?_ (by assumption))) hr (by decide)⟩, hrl, ⟨hrs⟩⟩
  case rest =>
    clear k0 k1 KS HL HG HE
    obtain ⟨g16, v2, l2, AR, cR, rr, rfl, rfl, HL, HG, HE, HR, HRL, HRS⟩ := hcut
    obtain ⟨A2, c2, rfl, _⟩ := HG.out.slice
    go_wp2_with (first
        | ((with_reducible refine zg 77 rfl ?_); refine zl 0 30 (.tmp 16) HL hu30 ?_)
        | ((with_reducible refine zst 30 (.tmp 10) (.tmp 77) rfl ?_); refine zs 1 0 30 (.tmp 10) (.tmp 77) [.int .i64 ins, .slice A2 l2.length c2] HL ?_; intro w4_ HLn hfar; replace HG := am (HG.out.far HL.out 1 rfl hfar); replace HR := am (Rfar HR.out HL.out 1 rfl hfar); replace HL := HLn; clear HLn hfar))
    refine zret 1 10 11 30 HL hu30 ?_
    exact ⟨_, l2, _, rr, rfl, HG.out, HE.out.mono (by omega), Kd.R_lower HR.out (Nat.zero_le _), HRL.out, HRS.out, HL.out.below⟩
set_option maxHeartbeats 32000000 in
set_option maxRecDepth 100000 in
theorem do_cat (ins : Int) (v : Value) (l : List S117) (x : S77) (A : Option Addr) (c : Nat) (xs : List Int) (B : Option Addr) (d : Nat) (ys : List Int) (C : Option Addr) (e : Nat) (zz : List Int) (w : World) (h : GOk ins v l 2560 w) (hA : (Kd.int .i64).C w A xs.length xs) (hB : (Kd.int .i64).C w B ys.length ys) (hC : (Kd.int .i64).C w C zz.length zz) (hx : Vlds ins l.length xs) (hy : Vlds ins l.length ys) (hz : Vlds ins l.length zz) (hs : xs.length ≤ 16) (hs2 : ys.length ≤ 16) (h0 : x.f0 = 17) :
    Calls Try.prog 77 #[.agg #[.int .i64 ins, v], .agg #[.int .i64 x.f0, .int .i64 x.f1, .int .i64 x.f2, .int .i64 x.f3, .int .i64 x.f4, .int .i64 x.f5, .int .i64 x.f6], .slice A xs.length c, .slice B ys.length d, .slice C zz.length e] w (RetL ins l 2560 (xs.length + ys.length) w) := by
  obtain ⟨A0, c0, rfl, hlc, _⟩ := h.slice
  have HG := am (h.less (Nat.zero_le _))
  have HM : Aside0 (l.length + 2560 ≤ 1000000000) := ⟨h.len⟩
  have HE := am (Ext.refl (k := 0) h.ok)
  have HA := am hA
  have HB := am hB
  have HC := am hC
  have HX := am hx
  have HY := am hy
  have HZ := am hz
  have hi0 := h.i0
  have HL : Aside0 (Led [] w w) := ⟨Led.nil w⟩
  have hu30 := Try.underlying30
  have hu77 := Try.underlying77
  clear h hA hB hC hx hy hz hlc
  obtain ⟨o, ho⟩ : ∃ o, x.f0 = o := ⟨_, rfl⟩
  obtain rfl : o = 17 := ho.symm.trans h0
  rw [ho]
  go_enter Try.func77, Try.ntmps77
  go_wp2_with (first
    | ((with_reducible refine zg 5 rfl ?_); refine zx 5 [.int .i64 ins, .slice A0 l.length c0] 30 HL ?_; clear HL; intro g5 w1_ HL hb_; replace HG := am (HG.out.step hb_); clear hb_)
    | ((with_reducible refine zg 6 rfl ?_); refine zx 6 [.int .i64 17, .int .i64 x.f1, .int .i64 x.f2, .int .i64 x.f3, .int .i64 x.f4, .int .i64 x.f5, .int .i64 x.f6] 77 HL ?_; clear HL; intro g6 w2_ HL hb_; replace HG := am (HG.out.step hb_); clear hb_)
    | ((with_reducible refine zg 10 rfl ?_); refine zx 10 [.int .i64 0, .slice none 0 0] 30 HL ?_; clear HL; intro g10 w3_ HL hb_; replace HG := am (HG.out.step hb_); have hk6 : w3_.cell? ⟨g6, 0, none⟩ = some (.int .i64 17) := blk_cell (HL.out.get 1 rfl) 0; clear hb_))
  obtain ⟨n1, n2⟩ : g5 ≠ g10 ∧ g10 ≠ g5 := (HL.out.ne 0 2 rfl rfl (by decide)).symm
  have k0 : w3_.cell? ⟨g5, 0, none⟩ = some (.int .i64 ins) := blk_cell (HL.out.get 2 rfl) 0
  have k1 : w3_.cell? ⟨g5, 1, none⟩ = some (.slice A0 l.length c0) := blk_cell (HL.out.get 2 rfl) 1
  have q0 : w3_.cell? ⟨g10, 0, none⟩ = some (.int .i64 0) := blk_cell (HL.out.get 0 rfl) 0
  have f0 : w3_.frozen? ⟨g10, 0, none⟩ = false := blk_frozen (HL.out.get 0 rfl) 0
  have q1 : w3_.cell? ⟨g10, 1, none⟩ = some (.slice none 0 0) := blk_cell (HL.out.get 0 rfl) 1
  have f1 : w3_.frozen? ⟨g10, 1, none⟩ = false := blk_frozen (HL.out.get 0 rfl) 1
  have hlt_ : g10 < w3_.heap.size := blk_lt (HL.out.get 0 rfl)
  have KS : Aside0 (∀ W, KB g10 w3_ W → (W.cell? ⟨g5, 0, none⟩ = some (.int .i64 ins) ∧ W.cell? ⟨g5, 1, none⟩ = some (.slice A0 l.length c0)) ∧ Aside0 (KB g10 w3_ W)) := ⟨fun W hb => ⟨⟨hb.cell k0 n1, hb.cell k1 n1⟩, ⟨hb⟩⟩⟩
  go_region_held3 (fun w' => (w'.cell? ⟨g5, 0, none⟩ = some (.int .i64 ins) ∧ w'.cell? ⟨g5, 1, none⟩ = some (.slice A0 l.length c0)) ∧ Aside0 (KB g10 w3_ w'))
    ((refine KS.out _ ?_; repeat (first | (with_reducible exact Aside0.out (And.right (by assumption))) | (exact KB.of_below (by assumption)) | (with_reducible refine KB.set ?_ _ _) | (with_reducible refine KB.alloc ?_ _) | (with_reducible refine KB.step ?_ (by assumption)) | (with_reducible refine KB.drew ?_) | (with_reducible exact KB.refl _ _))))
    (first | (refine zaps_step (w0 := w3_) (Kd.int .i64) (.tmp 93) (.tmp 94) 66 3 (Kd.R_drew (l0_ (Kd.int .i64) w3_ 3)) (below_drew (below_alloc (Below.refl _ _) _)) (Kd.C_below HB.out (below_step HL.out.below (below_drew (below_alloc (Below.refl _ _) _)))) Try.underlying66 info3 (fun _ _ h => h) (by simp only [List.length_nil]; omega) ?_; intro vr1 we1 hr1 hb1; rw [List.nil_append] at hr1; obtain ⟨A1, c1, rfl⟩ := Kd.R_slice hr1) | (refine zaps_step (w0 := w3_) (Kd.int .i64) (.tmp 95) (.tmp 96) 66 3 hr1 hb1 (Kd.C_below HA.out (below_step HL.out.below hb1)) Try.underlying66 info3 (fun _ _ h => h) (by omega) ?_; intro vr we hr hb; obtain ⟨rr, hrr⟩ : ∃ z, ys ++ xs = z := ⟨_, rfl⟩; rw [hrr] at hr; have HRR := am hrr; clear hrr; obtain ⟨AR, cR, rfl⟩ := Kd.R_slice hr; have z0 := pw_cell_below hb q0; have z1 := pw_cell_below hb q1; have y0 := (hb.frozen (p := ⟨g10, 0, none⟩) hlt_).trans f0; have y1 := (hb.frozen (p := ⟨g10, 1, none⟩) hlt_).trans f1))
  clear k0 k1 q0 q1 f0 f1 n1 n2 hlt_ KS
  have HLe := HL.out.step hb
  obtain ⟨HF, hfar⟩ := HLe.putC 0 rfl [.int .i64 ins, .slice A0 l.length c0] rfl
  go_wp2_with (fail)
  replace HG := am ((HG.out.step hb).far HLe 0 rfl hfar)
  have HR := am (Kd.R_lower (Rfar hr HLe 0 rfl hfar) (Nat.zero_le _))
  replace HL := am HF
  refine zret 0 10 11 30 HL hu30 ?_
  exact ⟨_, l, _, rr, rfl, HG.out, HE.out.mono (by omega), Kd.R_lower HR.out (Nat.zero_le _), by rw [← HRR.out, List.length_append]; omega, (by rw [← HRR.out]; exact fun y hy => (List.mem_append.1 hy).elim (HY.out y) (HX.out y)), HL.out.below⟩
set_option maxHeartbeats 32000000 in
set_option maxRecDepth 100000 in
theorem do_slice (ins : Int) (v : Value) (l : List S117) (x : S77) (A : Option Addr) (c : Nat) (xs : List Int) (B : Option Addr) (d : Nat) (ys : List Int) (C : Option Addr) (e : Nat) (zz : List Int) (w : World) (h : GOk ins v l 2560 w) (hA : (Kd.int .i64).C w A xs.length xs) (hB : (Kd.int .i64).C w B ys.length ys) (hC : (Kd.int .i64).C w C zz.length zz) (hx : Vlds ins l.length xs) (hy : Vlds ins l.length ys) (hz : Vlds ins l.length zz) (lo n m : Nat) (hca : xs.length ≤ c) (hs : xs.length ≤ 16) (h5 : x.f5 = (n : Int)) (h6 : x.f6 = (lo : Int)) (hln : lo ≤ n) (hn : n < xs.length) (hm1 : m ≤ n + 1 - lo) (hm2 : n + 1 - lo ≤ m) (h0 : x.f0 = 18) :
    Calls Try.prog 77 #[.agg #[.int .i64 ins, v], .agg #[.int .i64 x.f0, .int .i64 x.f1, .int .i64 x.f2, .int .i64 x.f3, .int .i64 x.f4, .int .i64 x.f5, .int .i64 x.f6], .slice A xs.length c, .slice B ys.length d, .slice C zz.length e] w (RetL ins l 2560 m w) := by
  obtain ⟨A0, c0, rfl, hlc, _⟩ := h.slice
  have HG := am (h.less (Nat.zero_le _))
  have HM : Aside0 (l.length + 2560 ≤ 1000000000) := ⟨h.len⟩
  have HE := am (Ext.refl (k := 0) h.ok)
  have HA := am hA
  have HB := am hB
  have HC := am hC
  have HX := am hx
  have HY := am hy
  have HZ := am hz
  have hi0 := h.i0
  have HL : Aside0 (Led [] w w) := ⟨Led.nil w⟩
  have hu30 := Try.underlying30
  have hu77 := Try.underlying77
  clear h hA hB hC hx hy hz hlc
  obtain ⟨o, ho⟩ : ∃ o, x.f0 = o := ⟨_, rfl⟩
  obtain rfl : o = 18 := ho.symm.trans h0
  rw [ho]
  rw [h5, h6]
  clear h5 h6
  go_enter Try.func77, Try.ntmps77
  go_wp2_with (first
    | ((with_reducible refine zg 5 rfl ?_); refine zx 5 [.int .i64 ins, .slice A0 l.length c0] 30 HL ?_; clear HL; intro g5 w1_ HL hb_; replace HG := am (HG.out.step hb_); clear hb_)
    | ((with_reducible refine zg 6 rfl ?_); refine zx 6 [.int .i64 18, .int .i64 x.f1, .int .i64 x.f2, .int .i64 x.f3, .int .i64 x.f4, .int .i64 (n : Int), .int .i64 (lo : Int)] 77 HL ?_; clear HL; intro g6 w2_ HL hb_; replace HG := am (HG.out.step hb_); clear hb_)
    | ((with_reducible refine zg 10 rfl ?_); refine zx 10 [.int .i64 0, .slice none 0 0] 30 HL ?_; clear HL; intro g10 w3_ HL hb_; replace HG := am (HG.out.step hb_); have hk6 : w3_.cell? ⟨g6, 0, none⟩ = some (.int .i64 18) := blk_cell (HL.out.get 1 rfl) 0; have hk6_6 : w3_.cell? ⟨g6, 6, none⟩ = some (.int .i64 (lo : Int)) := blk_cell (HL.out.get 1 rfl) 6; have hk6_5 : w3_.cell? ⟨g6, 5, none⟩ = some (.int .i64 (n : Int)) := blk_cell (HL.out.get 1 rfl) 5; clear hb_))
  obtain ⟨nn1, nn2⟩ : g10 ≠ g6 ∧ g6 ≠ g10 := HL.out.ne 0 1 rfl rfl (by decide)
  have hl0 : (0 : Int) ≤ (lo : Int) := by omega
  have hl1 : (lo : Int) ≤ (n : Int) + 1 := by omega
  have hl2 : (n : Int) + 1 ≤ (c : Int) := by omega
  have hw : IntKind.i64.wrap ((n : Int) + 1) = (n : Int) + 1 := IntWalk.i64_in _ (by omega)
  have hne_ : ¬ c = lo := by omega
  obtain ⟨ad, rfl, _⟩ := atI HA.out 0 (by omega)
  obtain ⟨n1, n2⟩ : g5 ≠ g10 ∧ g10 ≠ g5 := (HL.out.ne 0 2 rfl rfl (by decide)).symm
  have k0 : w3_.cell? ⟨g5, 0, none⟩ = some (.int .i64 ins) := blk_cell (HL.out.get 2 rfl) 0
  have k1 : w3_.cell? ⟨g5, 1, none⟩ = some (.slice A0 l.length c0) := blk_cell (HL.out.get 2 rfl) 1
  have q0 : w3_.cell? ⟨g10, 0, none⟩ = some (.int .i64 0) := blk_cell (HL.out.get 0 rfl) 0
  have f0 : w3_.frozen? ⟨g10, 0, none⟩ = false := blk_frozen (HL.out.get 0 rfl) 0
  have q1 : w3_.cell? ⟨g10, 1, none⟩ = some (.slice none 0 0) := blk_cell (HL.out.get 0 rfl) 1
  have f1 : w3_.frozen? ⟨g10, 1, none⟩ = false := blk_frozen (HL.out.get 0 rfl) 1
  have hlt_ : g10 < w3_.heap.size := blk_lt (HL.out.get 0 rfl)
  have KS : Aside0 (∀ W, KB g10 w3_ W → (W.cell? ⟨g5, 0, none⟩ = some (.int .i64 ins) ∧ W.cell? ⟨g5, 1, none⟩ = some (.slice A0 l.length c0) ∧ W.cell? ⟨g6, 6, none⟩ = some (.int .i64 (lo : Int)) ∧ W.cell? ⟨g6, 5, none⟩ = some (.int .i64 (n : Int))) ∧ Aside0 (KB g10 w3_ W)) := ⟨fun W hb => ⟨⟨hb.cell k0 n1, hb.cell k1 n1, hb.cell hk6_6 nn2, hb.cell hk6_5 nn2⟩, ⟨hb⟩⟩⟩
  go_region_held3 (fun w' => (w'.cell? ⟨g5, 0, none⟩ = some (.int .i64 ins) ∧ w'.cell? ⟨g5, 1, none⟩ = some (.slice A0 l.length c0) ∧ w'.cell? ⟨g6, 6, none⟩ = some (.int .i64 (lo : Int)) ∧ w'.cell? ⟨g6, 5, none⟩ = some (.int .i64 (n : Int))) ∧ Aside0 (KB g10 w3_ w'))
    ((refine KS.out _ ?_; repeat (first | (with_reducible exact Aside0.out (And.right (by assumption))) | (exact KB.of_below (by assumption)) | (with_reducible refine KB.set ?_ _ _) | (with_reducible refine KB.alloc ?_ _) | (with_reducible refine KB.step ?_ (by assumption)) | (with_reducible refine KB.drew ?_) | (with_reducible exact KB.refl _ _))))
    (first | (refine zaps_step (w0 := w3_) (Kd.int .i64) (.tmp 101) (.tmp 108) 66 3 (Kd.R_drew (l0_ (Kd.int .i64) w3_ 3)) (below_drew (below_alloc (Below.refl _ _) _)) (Kd.C_below (C_part HA.out lo (n + 1 - lo) (by omega)) (below_step HL.out.below (below_drew (below_alloc (Below.refl _ _) _)))) Try.underlying66 info3 (fun _ _ h => h) (by simp only [List.length_nil]; omega) ?_; intro vr we hr hb; rw [List.nil_append] at hr; obtain ⟨rr, hrr⟩ : ∃ z, (xs.drop lo).take (n + 1 - lo) = z := ⟨_, rfl⟩; rw [hrr] at hr; have HRR := am hrr; clear hrr; obtain ⟨AR, cR, rfl⟩ := Kd.R_slice hr; have z0 := pw_cell_below hb q0; have z1 := pw_cell_below hb q1; have y0 := (hb.frozen (p := ⟨g10, 0, none⟩) hlt_).trans f0; have y1 := (hb.frozen (p := ⟨g10, 1, none⟩) hlt_).trans f1))
  clear k0 k1 q0 q1 f0 f1 n1 n2 hlt_ KS
  have HLe := HL.out.step hb
  obtain ⟨HF, hfar⟩ := HLe.putC 0 rfl [.int .i64 ins, .slice A0 l.length c0] rfl
  go_wp2_with (fail)
  replace HG := am ((HG.out.step hb).far HLe 0 rfl hfar)
  have HR := am (Kd.R_lower (Rfar hr HLe 0 rfl hfar) (Nat.zero_le _))
  replace HL := am HF
  refine zret 0 10 11 30 HL hu30 ?_
  exact ⟨_, l, _, rr, rfl, HG.out, HE.out.mono (by omega), Kd.R_lower HR.out (Nat.zero_le _), by rw [← HRR.out]; simp; omega, (by rw [← HRR.out]; exact fun y hy => HX.out y (List.mem_of_mem_drop (List.mem_of_mem_take hy))), HL.out.below⟩
end Go.Proofs.Yteilkojmefipcaa.U
