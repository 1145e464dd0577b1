/- Unroll: walks and plain laws of this seat's functions, merged out of smaller texts of this session (Ug, Uh, Ui, Uj). -/
import Derived.Test.YteilkojmefipcaaM01
namespace Go.Proofs.Yteilkojmefipcaa.U
open Go.RowKit Go.Proofs.YteilkojmefipcaaW.PrintWords Go.Proofs.YteilkojmefipcaaW.PrintLast
set_option linter.unusedVariables false
set_option linter.unusedSimpArgs false
theorem GOk.other {α : Type} {d : Kd α} {ins : Int} {v v' : Value} {l : List S117} {k e b : Nat} {ok : Nat → Prop} {ys : List α} {w w1 : World} (h : GOk ins v l k w) (h' : d.R e w b ok v' ys) (hg : w.grownBy w1 v'.ownBlock) (ht : 117 ≠ e := by decide) : GOk ins v l k w1 :=
  ⟨R_other h.row h' hg (by intro q hq; rw [List.mem_singleton.1 (show q ∈ [117] from hq)]; exact ht), h.ok, h.i0, h.i1, h.len⟩
abbrev Ri (w : World) (b : Nat) (v : Value) (xs : List Int) : Prop := (Kd.int .i64).R 3 w b Any v xs
/-- A graph and a row of literals are handed back. -/
def RetL (ins : Int) (l : List S117) (k n : Nat) (w : World) (e : Ending) (w' : World) : Prop := ∃ v' l' v2 ys, e = .returned (.tuple #[.agg #[.int .i64 ins, v'], v2]) ∧ GOk ins v' l' 0 w' ∧ Ext ins l l' k ∧ Ri w' 0 v2 ys ∧ ys.length = n ∧ Vlds ins l'.length ys ∧ Below w.heap.size w w'
theorem Vlds.snoc {ins : Int} {n : Nat} {xs : List Int} {x : Int} (h : Vlds ins n xs) (hx : Vld ins n x) : Vlds ins n (xs ++ [x]) := fun y hy => by
  rcases List.mem_append.1 hy with hy | hy
  · exact h y hy
  · rw [List.mem_singleton.1 hy]; exact hx
set_option maxHeartbeats 32000000 in
set_option maxRecDepth 100000 in
theorem less_any (ins : Int) (v : Value) (l : List S117) (A : Option Addr) (c : Nat) (xs : List Int) (B : Option Addr) (d : Nat) (ys : List Int) (x : Int) (w : World) (h : GOk ins v l (6 * xs.length) w) (hA : (Kd.int .i64).C w A xs.length xs) (hB : (Kd.int .i64).C w B ys.length ys) (hle : xs.length ≤ ys.length) (hx : Vlds ins l.length xs) (hy : Vlds ins l.length ys) (h0 : Vld ins l.length x) :
    Calls Try.prog 109 #[.agg #[.int .i64 ins, v], .slice A xs.length c, .slice B ys.length d, .int .i64 x] w (RetG ins l (6 * xs.length) w) := by
  obtain ⟨A0, c0, rfl, hlc, _⟩ := h.slice
  have HG := am (h.less (Nat.zero_le _))
  have HM : Aside0 (l.length + 6 * xs.length ≤ 1000000000) := ⟨h.len⟩
  have HE := am (Ext.refl (k := 0) h.ok)
  have HA := am hA
  have HB := am hB
  have HX := am hx
  have HY := am hy
  have HV0 := am h0
  have hm : xs.length ≤ 9223372036854775807 := hA.2.1
  have hm2 : ys.length ≤ 9223372036854775807 := hB.2.1
  have HL : Aside0 (Led [] w w) := ⟨Led.nil w⟩
  have hu30 := Try.underlying30
  clear h hA hB hx hy h0 hlc
  go_enter Try.func109, Try.ntmps109
  go_wp2_with (first
    | ((with_reducible refine zg 4 rfl ?_); refine zx 4 [.int .i64 ins, .slice A0 l.length c0] 30 HL ?_; clear HL; intro g4 w1_ HL hb_; replace HG := am (HG.out.step hb_); clear hb_)
    | ((with_reducible refine zg 8 rfl ?_); refine zx 8 [.int .i64 0, .slice none 0 0] 30 HL ?_; clear HL; intro g8 w2_ HL hb_; replace HG := am (HG.out.step hb_); clear hb_))
  go_loopw [3, 10] (fun v3 v10 wr => ∃ (i : Nat) (x : Int) (v' : Value) (l' : List S117), v3 = .int .i64 x ∧ v10 = .int .i64 (i : Int) ∧ i ≤ xs.length ∧ Aside0 (Led [(g8, [.int .i64 0, .slice none 0 0], 30), (g4, [.int .i64 ins, v'], 30)] w wr) ∧ Aside0 (GOk ins v' l' 0 wr) ∧ Aside0 (Ext ins l l' (6 * i)) ∧ Aside0 (Vld ins l'.length x)) (fun _ v _ => xs.length - (intOf v).toNat)
  case atStart => exact ⟨0, x, _, l, rfl, rfl, Nat.zero_le _, HL, HG, HE, HV0⟩
  case round =>
    clear HL HG HE HV0
    obtain ⟨i, x, v', l', rfl, rfl, hi, HL, HG, HE, HV⟩ := hrel
    obtain ⟨A', c', rfl, _⟩ := HG.out.slice
    by_cases hlt : i < xs.length
    · have hi0 : (0 : Int) ≤ (i : Int) := by omega
      have hi1 : (i : Int) < (xs.length : Int) := by omega
      have hi2 : (i : Int) < (ys.length : Int) := by omega
      obtain ⟨ad, rfl, ha0⟩ := atI HA.out i hlt
      obtain ⟨bd, rfl, hb0⟩ := atI HB.out i (by omega)
      obtain ⟨p, hp⟩ : ∃ p, xs[i] = p := ⟨_, rfl⟩
      obtain ⟨q, hq⟩ : ∃ q, ys[i] = q := ⟨_, rfl⟩
      have HVp : Aside0 (Vld ins l'.length p) := ⟨hp ▸ (HX.out _ (List.getElem_mem hlt)).up HE.out.le⟩
      have HVq : Aside0 (Vld ins l'.length q) := ⟨hq ▸ (HY.out _ (List.getElem_mem (by omega))).up HE.out.le⟩
      rw [hp] at ha0
      rw [hq] at hb0
      have HA0 := am ha0
      have HB0 := am hb0
      clear ha0 hb0 hp hq
      have ha1 : wr.cell? (ad.add i) = some (.int .i64 p) := pw_cell_below HL.out.below HA0.out
      have hb1 : wr.cell? (bd.add i) = some (.int .i64 q) := pw_cell_below HL.out.below HB0.out
      have k0 : wr.cell? ⟨g4, 0, none⟩ = some (.int .i64 ins) := blk_cell (HL.out.get 1 rfl) 0
      have k1 : wr.cell? ⟨g4, 1, none⟩ = some (.slice A' l'.length c') := blk_cell (HL.out.get 1 rfl) 1
      have KS : Aside0 (∀ W, Below wr.heap.size wr W → (W.cell? ⟨g4, 0, none⟩ = some (.int .i64 ins) ∧ W.cell? ⟨g4, 1, none⟩ = some (.slice A' l'.length c') ∧ W.cell? (ad.add i) = some (.int .i64 p) ∧ W.cell? (bd.add i) = some (.int .i64 q)) ∧ Aside0 (Below wr.heap.size wr W)) := ⟨fun W hb => ⟨⟨pw_cell_below hb k0, pw_cell_below hb k1, pw_cell_below hb ha1, pw_cell_below hb hb1⟩, ⟨hb⟩⟩⟩
      go_upto_region 4 with (fail)
      go_cut [11, 12] (fun sh sx wx => ∃ g11 v2 l2 x2, sh = .pointer (some ⟨g11, 0, none⟩) ∧ sx = .int .i64 x2 ∧ Aside0 (Led [(g11, [.int .i64 ins, v2], 30), (g8, [.int .i64 0, .slice none 0 0], 30), (g4, [.int .i64 ins, .slice A' l'.length c'], 30)] w wx) ∧ Aside0 (GOk ins v2 l2 0 wx) ∧ Aside0 (Ext ins l l2 (6 * i + 3)) ∧ Aside0 (Vld ins l2.length x2) ∧ Aside0 (l'.length ≤ l2.length))
      case first =>
        go_region_held3 (fun w' => (w'.cell? ⟨g4, 0, none⟩ = some (.int .i64 ins) ∧ w'.cell? ⟨g4, 1, none⟩ = some (.slice A' l'.length c') ∧ w'.cell? (ad.add i) = some (.int .i64 p) ∧ w'.cell? (bd.add i) = some (.int .i64 q)) ∧ Aside0 (Below wr.heap.size wr w'))
          ((refine KS.out _ ?_; repeat (first | exact Aside0.out (And.right (by assumption)) | refine below_alloc ?_ _ | refine below_step ?_ (by assumption) | (refine below_set ?_ ?_; rotate_left; first | exact Nat.le_refl _ | exact (Aside0.out (p := Below wr.heap.size wr _) (And.right (by assumption))).size) | refine below_drew ?_ | exact Below.refl _ _)))
          (first | (go_at_call 106; refine (xor_any ins _ l' p q _ ((HG.out.step (by repeat (first | (with_reducible exact Below.refl _ _) | refine below_alloc ?_ _ | refine below_drew ?_ | refine below_step ?_ (by assumption)))).more (m := 3) (by have := HM.out; have := HE.out.len; omega)) HVp.out HVq.out).mono ?_; rintro e we ⟨v2, l2, x2, rfl, hg, he, hv, hb⟩; obtain ⟨A2, c2, rfl, _⟩ := hg.slice; obtain ⟨hc, hf⟩ := bcell hb))
        all_goals
          go_wp2_with (fail)
          go_meet
          first
            | exact ⟨_, _, l2, x2, rfl, rfl, ⟨(finA (HL.out.step (by repeat (first | (with_reducible exact Below.refl _ _) | refine below_alloc ?_ _ | refine below_drew ?_ | refine below_step ?_ (by assumption)))) hg).1⟩, ⟨(finA (HL.out.step (by repeat (first | (with_reducible exact Below.refl _ _) | refine below_alloc ?_ _ | refine below_drew ?_ | refine below_step ?_ (by assumption)))) hg).2.less (Nat.zero_le _)⟩, ⟨HE.out.trans he⟩, ⟨hv⟩, ⟨he.le⟩⟩
            | exact ⟨_, _, l2, x2, rfl, rfl, ⟨(finC (HL.out.step (by repeat (first | (with_reducible exact Below.refl _ _) | refine below_alloc ?_ _ | refine below_drew ?_ | refine below_step ?_ (by assumption)))) (by repeat (first | (with_reducible exact Below.refl _ _) | refine below_alloc ?_ _ | refine below_drew ?_ | refine below_step ?_ (by assumption))) hg).1⟩, ⟨(finC (HL.out.step (by repeat (first | (with_reducible exact Below.refl _ _) | refine below_alloc ?_ _ | refine below_drew ?_ | refine below_step ?_ (by assumption)))) (by repeat (first | (with_reducible exact Below.refl _ _) | refine below_alloc ?_ _ | refine below_drew ?_ | refine below_step ?_ (by assumption))) hg).2.less (Nat.zero_le _)⟩, ⟨HE.out.trans he⟩, ⟨hv⟩, ⟨he.le⟩⟩
      case rest =>
        clear k0 k1 KS HL HG HE  ha1 hb1
        obtain ⟨g11, v2, l2, x2, rfl, rfl, HL, HG, HE, HV2, HLE2⟩ := hcut
        obtain ⟨A2, c2, rfl, _⟩ := HG.out.slice
        replace HV := am (HV.out.up HLE2.out)
        replace HVp := am (HVp.out.up HLE2.out)
        replace HVq := am (HVq.out.up HLE2.out)
        have hb1 : wc.cell? (bd.add i) = some (.int .i64 q) := pw_cell_below HL.out.below HB0.out
        have k0 : wc.cell? ⟨g11, 0, none⟩ = some (.int .i64 ins) := blk_cell (HL.out.get 0 rfl) 0
        have k1 : wc.cell? ⟨g11, 1, none⟩ = some (.slice A2 l2.length c2) := blk_cell (HL.out.get 0 rfl) 1
        have KS : Aside0 (∀ W, Below wc.heap.size wc W → (W.cell? ⟨g11, 0, none⟩ = some (.int .i64 ins) ∧ W.cell? ⟨g11, 1, none⟩ = some (.slice A2 l2.length c2) ∧ W.cell? (bd.add i) = some (.int .i64 q)) ∧ Aside0 (Below wc.heap.size wc W)) := ⟨fun W hb => ⟨⟨pw_cell_below hb k0, pw_cell_below hb k1, pw_cell_below hb hb1⟩, ⟨hb⟩⟩⟩
        go_upto_region 5 with (fail)
        go_cut [13, 14] (fun sh sx wx => ∃ g13 v3 l3 x3, sh = .pointer (some ⟨g13, 0, none⟩) ∧ sx = .int .i64 x3 ∧ Aside0 (Led [(g13, [.int .i64 ins, v3], 30), (g11, [.int .i64 ins, .slice A2 l2.length c2], 30), (g8, [.int .i64 0, .slice none 0 0], 30), (g4, [.int .i64 ins, .slice A' l'.length c'], 30)] w wx) ∧ Aside0 (GOk ins v3 l3 0 wx) ∧ Aside0 (Ext ins l l3 ((6 * i + 3) + 3)) ∧ Aside0 (Vld ins l3.length x3) ∧ Aside0 (l2.length ≤ l3.length))
        case first =>
          go_region_held3 (fun w' => (w'.cell? ⟨g11, 0, none⟩ = some (.int .i64 ins) ∧ w'.cell? ⟨g11, 1, none⟩ = some (.slice A2 l2.length c2) ∧ w'.cell? (bd.add i) = some (.int .i64 q)) ∧ Aside0 (Below wc.heap.size wc w'))
            ((refine KS.out _ ?_; repeat (first | exact Aside0.out (And.right (by assumption)) | refine below_alloc ?_ _ | refine below_step ?_ (by assumption) | (refine below_set ?_ ?_; rotate_left; first | exact Nat.le_refl _ | exact (Aside0.out (p := Below wc.heap.size wc _) (And.right (by assumption))).size) | refine below_drew ?_ | exact Below.refl _ _)))
            (first | (go_at_call 98; refine (mux_any ins _ l2 x2 q x _ ((HG.out.step (by repeat (first | (with_reducible exact Below.refl _ _) | refine below_alloc ?_ _ | refine below_drew ?_ | refine below_step ?_ (by assumption)))).more (m := 3) (by have := HM.out; have := HE.out.len; omega)) HV2.out HVq.out HV.out).mono ?_; rintro e we ⟨v2, l2, x2, rfl, hg, he, hv, hb⟩; obtain ⟨A2, c2, rfl, _⟩ := hg.slice; obtain ⟨hc, hf⟩ := bcell hb))
          all_goals
            go_wp2_with (fail)
            go_meet
            first
              | exact ⟨_, _, l2, x2, rfl, rfl, ⟨(finA (HL.out.step (by repeat (first | (with_reducible exact Below.refl _ _) | refine below_alloc ?_ _ | refine below_drew ?_ | refine below_step ?_ (by assumption)))) hg).1⟩, ⟨(finA (HL.out.step (by repeat (first | (with_reducible exact Below.refl _ _) | refine below_alloc ?_ _ | refine below_drew ?_ | refine below_step ?_ (by assumption)))) hg).2.less (Nat.zero_le _)⟩, ⟨HE.out.trans he⟩, ⟨hv⟩, ⟨he.le⟩⟩
              | exact ⟨_, _, l2, x2, rfl, rfl, ⟨(finC (HL.out.step (by repeat (first | (with_reducible exact Below.refl _ _) | refine below_alloc ?_ _ | refine below_drew ?_ | refine below_step ?_ (by assumption)))) (by repeat (first | (with_reducible exact Below.refl _ _) | refine below_alloc ?_ _ | refine below_drew ?_ | refine below_step ?_ (by assumption))) hg).1⟩, ⟨(finC (HL.out.step (by repeat (first | (with_reducible exact Below.refl _ _) | refine below_alloc ?_ _ | refine below_drew ?_ | refine below_step ?_ (by assumption)))) (by repeat (first | (with_reducible exact Below.refl _ _) | refine below_alloc ?_ _ | refine below_drew ?_ | refine below_step ?_ (by assumption))) hg).2.less (Nat.zero_le _)⟩, ⟨HE.out.trans he⟩, ⟨hv⟩, ⟨he.le⟩⟩
        case rest =>
          clear k0 k1 KS HL HG HE  hb1
          obtain ⟨g13, v3, l3, x3, rfl, rfl, HL, HG, HE, HV3, HLE3⟩ := hcut
          obtain ⟨A3, c3, rfl, _⟩ := HG.out.slice
          replace HV := am (HV.out.up HLE3.out)
          replace HVp := am (HVp.out.up HLE3.out)
          replace HVq := am (HVq.out.up HLE3.out)
          replace HV2 := am (HV2.out.up HLE3.out)
          go_wp2_with (first
              | ((with_reducible refine zg 45 rfl ?_); refine zl 0 30 (.tmp 13) HL hu30 ?_)
              | ((with_reducible refine zst 30 (.tmp 4) (.tmp 45) rfl ?_); refine zs 3 0 30 (.tmp 4) (.tmp 45) [.int .i64 ins, .slice A3 l3.length c3] HL ?_; intro w1_ HLn hfar; replace HG := am (HG.out.far HL.out 3 rfl hfar); replace HL := HLn; clear HLn hfar))
          go_roundw
          case rel => exact ⟨i + 1, x3, _, l3, rfl, by go_num, by omega, ⟨HL.out.drop.drop⟩, HG, ⟨HE.out.mono (by omega)⟩, HV3⟩
          case measure => simp [intOf]; omega
    · obtain rfl : i = xs.length := by omega
      go_wp2_with (first
          | ((with_reducible refine zg 47 rfl ?_); refine zl 1 30 (.tmp 4) HL hu30 ?_)
          | ((with_reducible refine zst 30 (.tmp 8) (.tmp 47) rfl ?_); refine zs 0 0 30 (.tmp 8) (.tmp 47) [.int .i64 ins, .slice A' l'.length c'] HL ?_; intro w1_ HLn hfar; replace HG := am (HG.out.far HL.out 0 rfl hfar); replace HL := HLn; clear HLn hfar))
      refine zret 0 8 9 30 HL hu30 ?_
      exact ⟨_, l', x, rfl, HG.out, HE.out, HV.out, HL.out.below⟩
set_option maxHeartbeats 32000000 in
set_option maxRecDepth 100000 in
theorem sum_any (ins : Int) (v : Value) (l : List S117) (A : Option Addr) (c : Nat) (xs : List Int) (B : Option Addr) (d : Nat) (ys : List Int) (x : Int) (w : World) (h : GOk ins v l (9 * xs.length) w) (hA : (Kd.int .i64).C w A xs.length xs) (hB : (Kd.int .i64).C w B ys.length ys) (hle : xs.length ≤ ys.length) (hs : xs.length ≤ 1000000) (hx : Vlds ins l.length xs) (hy : Vlds ins l.length ys) (h0 : Vld ins l.length x) :
    Calls Try.prog 96 #[.agg #[.int .i64 ins, v], .slice A xs.length c, .slice B ys.length d, .int .i64 x] w (RetL ins l (9 * xs.length) xs.length w) := by
  obtain ⟨A0, c0, rfl, hlc, _⟩ := h.slice
  have HG := am (h.less (Nat.zero_le _))
  have HM : Aside0 (l.length + 9 * xs.length ≤ 1000000000) := ⟨h.len⟩
  have HE := am (Ext.refl (k := 0) h.ok)
  have HA := am hA
  have HB := am hB
  have HX := am hx
  have HY := am hy
  have HV0 := am h0
  have hm : xs.length ≤ 9223372036854775807 := hA.2.1
  have hm2 : ys.length ≤ 9223372036854775807 := hB.2.1
  have HL : Aside0 (Led [] w w) := ⟨Led.nil w⟩
  have hu30 := Try.underlying30
  clear h hA hB hx hy h0 hlc
  go_enter Try.func96, Try.ntmps96
  go_wp2_with (first
    | ((with_reducible refine zg 4 rfl ?_); refine zx 4 [.int .i64 ins, .slice A0 l.length c0] 30 HL ?_; clear HL; intro g4 w1_ HL hb_; replace HG := am (HG.out.step hb_); clear hb_)
    | ((with_reducible refine zg 8 rfl ?_); refine zx 8 [.int .i64 0, .slice none 0 0] 30 HL ?_; clear HL; intro g8 w2_ HL hb_; replace HG := am (HG.out.step hb_); clear hb_))
  have HO : Aside0 (Ri w2_ w.heap.size (.slice none 0 0) []) := ⟨Kd.R_nil _ _ _ _ _⟩
  go_loopw [3, 10, 11] (fun v3 v10 v11 wr => ∃ (i : Nat) (x : Int) (v' : Value) (l' : List S117) (os : List Int), v3 = .int .i64 x ∧ v11 = .int .i64 (i : Int) ∧ i ≤ xs.length ∧ os.length = i ∧ Aside0 (Led [(g8, [.int .i64 0, .slice none 0 0], 30), (g4, [.int .i64 ins, v'], 30)] w wr) ∧ Aside0 (GOk ins v' l' 0 wr) ∧ Aside0 (Ext ins l l' (9 * i)) ∧ Aside0 (Vld ins l'.length x) ∧ Aside0 (Ri wr w.heap.size v10 os) ∧ Aside0 (Vlds ins l'.length os)) (fun _ _ v _ => xs.length - (intOf v).toNat)
  case atStart => exact ⟨0, x, _, l, [], rfl, rfl, Nat.zero_le _, rfl, HL, HG, HE, HV0, HO, ⟨fun _ h => by cases h⟩⟩
  case round =>
    clear HL HG HE HV0 HO
    obtain ⟨i, x, v', l', os, rfl, rfl, hi, hos, HL, HG, HE, HV, HO, HOS⟩ := hrel
    obtain ⟨A', c', rfl, _⟩ := HG.out.slice
    obtain ⟨AO, cO, rfl⟩ := Kd.R_slice HO.out
    have HOL := am hos
    clear hos
    by_cases hlt : i < xs.length
    · have hi0 : (0 : Int) ≤ (i : Int) := by omega
      have hi1 : (i : Int) < (xs.length : Int) := by omega
      have hi2 : (i : Int) < (ys.length : Int) := by omega
      obtain ⟨ad, rfl, ha0⟩ := atI HA.out i hlt
      obtain ⟨bd, rfl, hb0⟩ := atI HB.out i (by omega)
      obtain ⟨p, hp⟩ : ∃ p, xs[i] = p := ⟨_, rfl⟩
      obtain ⟨q, hq⟩ : ∃ q, ys[i] = q := ⟨_, rfl⟩
      have HVp : Aside0 (Vld ins l'.length p) := ⟨hp ▸ (HX.out _ (List.getElem_mem hlt)).up HE.out.le⟩
      have HVq : Aside0 (Vld ins l'.length q) := ⟨hq ▸ (HY.out _ (List.getElem_mem (by omega))).up HE.out.le⟩
      rw [hp] at ha0
      rw [hq] at hb0
      have HA0 := am ha0
      have HB0 := am hb0
      clear ha0 hb0 hp hq
      have ha1 : wr.cell? (ad.add i) = some (.int .i64 p) := pw_cell_below HL.out.below HA0.out
      have hb1 : wr.cell? (bd.add i) = some (.int .i64 q) := pw_cell_below HL.out.below HB0.out
      have k0 : wr.cell? ⟨g4, 0, none⟩ = some (.int .i64 ins) := blk_cell (HL.out.get 1 rfl) 0
      have k1 : wr.cell? ⟨g4, 1, none⟩ = some (.slice A' l'.length c') := blk_cell (HL.out.get 1 rfl) 1
      have KS : Aside0 (∀ W, Below wr.heap.size wr W → (W.cell? ⟨g4, 0, none⟩ = some (.int .i64 ins) ∧ W.cell? ⟨g4, 1, none⟩ = some (.slice A' l'.length c') ∧ W.cell? (ad.add i) = some (.int .i64 p) ∧ W.cell? (bd.add i) = some (.int .i64 q)) ∧ Aside0 (Below wr.heap.size wr W)) := ⟨fun W hb => ⟨⟨pw_cell_below hb k0, pw_cell_below hb k1, pw_cell_below hb ha1, pw_cell_below hb hb1⟩, ⟨hb⟩⟩⟩
      go_upto_region 5 with (fail)
      go_cut [12, 13] (fun sh sx wx => ∃ g12 v1 l1 x1, sh = .pointer (some ⟨g12, 0, none⟩) ∧ sx = .int .i64 x1 ∧ Aside0 (Led [(g12, [.int .i64 ins, v1], 30), (g8, [.int .i64 0, .slice none 0 0], 30), (g4, [.int .i64 ins, .slice A' l'.length c'], 30)] w wx) ∧ Aside0 (GOk ins v1 l1 0 wx) ∧ Aside0 (Ext ins l l1 (9 * i + 3)) ∧ Aside0 (Vld ins l1.length x1) ∧ Aside0 (l'.length ≤ l1.length) ∧ Aside0 (Ri wx w.heap.size (.slice AO os.length cO) os))
      case first =>
        go_region_held3 (fun w' => (w'.cell? ⟨g4, 0, none⟩ = some (.int .i64 ins) ∧ w'.cell? ⟨g4, 1, none⟩ = some (.slice A' l'.length c') ∧ w'.cell? (ad.add i) = some (.int .i64 p) ∧ w'.cell? (bd.add i) = some (.int .i64 q)) ∧ Aside0 (Below wr.heap.size wr w'))
          ((refine KS.out _ ?_; repeat (first | exact Aside0.out (And.right (by assumption)) | refine below_alloc ?_ _ | refine below_step ?_ (by assumption) | (refine below_set ?_ ?_; rotate_left; first | exact Nat.le_refl _ | exact (Aside0.out (p := Below wr.heap.size wr _) (And.right (by assumption))).size) | refine below_drew ?_ | exact Below.refl _ _)))
          (first | (go_at_call 106; refine (xor_any ins _ l' p q _ ((HG.out.step (by repeat (first | (with_reducible exact Below.refl _ _) | refine below_alloc ?_ _ | refine below_drew ?_ | refine below_step ?_ (by assumption)))).more (m := 3) (by have := HM.out; have := HE.out.len; omega)) HVp.out HVq.out).mono ?_; rintro e we ⟨v2, l2, x2, rfl, hg, he, hv, hb⟩; obtain ⟨A2, c2, rfl, _⟩ := hg.slice; obtain ⟨hc, hf⟩ := bcell hb))
        all_goals
          go_wp2_with (fail)
          go_meet
          first
            | exact ⟨_, _, l2, x2, rfl, rfl, ⟨(finA (HL.out.step (by repeat (first | (with_reducible exact Below.refl _ _) | refine below_alloc ?_ _ | refine below_drew ?_ | refine below_step ?_ (by assumption)))) hg).1⟩, ⟨(finA (HL.out.step (by repeat (first | (with_reducible exact Below.refl _ _) | refine below_alloc ?_ _ | refine below_drew ?_ | refine below_step ?_ (by assumption)))) hg).2.less (Nat.zero_le _)⟩, ⟨HE.out.trans he⟩, ⟨hv⟩, ⟨he.le⟩, ⟨Kd.R_below HO.out (below_alloc (by repeat (first | (with_reducible exact Below.refl _ _) | refine below_alloc ?_ _ | refine below_drew ?_ | refine below_step ?_ (by assumption))) _)⟩⟩
            | exact ⟨_, _, l2, x2, rfl, rfl, ⟨(finC (HL.out.step (by repeat (first | (with_reducible exact Below.refl _ _) | refine below_alloc ?_ _ | refine below_drew ?_ | refine below_step ?_ (by assumption)))) (by repeat (first | (with_reducible exact Below.refl _ _) | refine below_alloc ?_ _ | refine below_drew ?_ | refine below_step ?_ (by assumption))) hg).1⟩, ⟨(finC (HL.out.step (by repeat (first | (with_reducible exact Below.refl _ _) | refine below_alloc ?_ _ | refine below_drew ?_ | refine below_step ?_ (by assumption)))) (by repeat (first | (with_reducible exact Below.refl _ _) | refine below_alloc ?_ _ | refine below_drew ?_ | refine below_step ?_ (by assumption))) hg).2.less (Nat.zero_le _)⟩, ⟨HE.out.trans he⟩, ⟨hv⟩, ⟨he.le⟩, ⟨finCR (HL.out.step (by repeat (first | (with_reducible exact Below.refl _ _) | refine below_alloc ?_ _ | refine below_drew ?_ | refine below_step ?_ (by assumption)))) (by repeat (first | (with_reducible exact Below.refl _ _) | refine below_alloc ?_ _ | refine below_drew ?_ | refine below_step ?_ (by assumption))) (Kd.R_below HO.out (by repeat (first | (with_reducible exact Below.refl _ _) | refine below_alloc ?_ _ | refine below_drew ?_ | refine below_step ?_ (by assumption)))) (by decide)⟩⟩
      case rest =>
        clear k0 k1 KS HL HG HE HO ha1 hb1
        obtain ⟨g12, v1, l1, x1, rfl, rfl, HL, HG, HE, HV1, HLE1, HO⟩ := hcut
        obtain ⟨A1, c1, rfl, _⟩ := HG.out.slice
        replace HV := am (HV.out.up HLE1.out)
        replace HVp := am (HVp.out.up HLE1.out)
        replace HVq := am (HVq.out.up HLE1.out)
        replace HOS := am (HOS.out.up HLE1.out)
        go_upto_region 7 with (first
            | ((with_reducible refine zg 42 rfl ?_); refine zl 0 30 (.tmp 12) HL hu30 ?_)
            | (go_at_call 106; refine (xor_any ins _ l1 x1 x _ (HG.out.more (m := 3) (by have := HM.out; have := HE.out.len; omega)) HV1.out HV.out).mono ?_; rintro e we2 ⟨v2, l2, x2, rfl, hg, he, HV2, hb⟩; obtain ⟨A2, c2, rfl, _⟩ := hg.slice; replace HL := am (HL.out.step hb); replace HO := am (Kd.R_below HO.out hb); replace HV := am (HV.out.up he.le); replace HVp := am (HVp.out.up he.le); replace HVq := am (HVq.out.up he.le); replace HV1 := am (HV1.out.up he.le); replace HOS := am (HOS.out.up he.le); replace HG := am hg; replace HE := am (HE.out.trans he); replace HV2 := am HV2; clear hg he hb)
            | ((with_reducible refine zg 14 rfl ?_); refine zx 14 [.int .i64 0, .slice none 0 0] 30 HL ?_; clear HL; intro g14 w1_ HL hb_; replace HG := am (HG.out.step hb_); replace HO := am (Kd.R_below HO.out hb_); clear hb_)
            | ((with_reducible refine zst 30 (.tmp 14) (.tmp 46) rfl ?_); refine zs 0 0 30 (.tmp 14) (.tmp 46) [.int .i64 ins, .slice A2 l2.length c2] HL ?_; intro w2_ HLn hfar; replace HG := am (HG.out.far HL.out 0 rfl hfar); replace HO := am (Rfar HO.out HL.out 0 rfl hfar); replace HL := HLn; clear HLn hfar))
        have ha1 : w2_.cell? (ad.add i) = some (.int .i64 p) := pw_cell_below HL.out.below HA0.out
        have hb1 : w2_.cell? (bd.add i) = some (.int .i64 q) := pw_cell_below HL.out.below HB0.out
        have k0 : w2_.cell? ⟨g14, 0, none⟩ = some (.int .i64 ins) := blk_cell (HL.out.get 0 rfl) 0
        have k1 : w2_.cell? ⟨g14, 1, none⟩ = some (.slice A2 l2.length c2) := blk_cell (HL.out.get 0 rfl) 1
        have KS : Aside0 (∀ W, Below w2_.heap.size w2_ W → (W.cell? ⟨g14, 0, none⟩ = some (.int .i64 ins) ∧ W.cell? ⟨g14, 1, none⟩ = some (.slice A2 l2.length c2) ∧ W.cell? (ad.add i) = some (.int .i64 p) ∧ W.cell? (bd.add i) = some (.int .i64 q)) ∧ Aside0 (Below w2_.heap.size w2_ W)) := ⟨fun W hb => ⟨⟨pw_cell_below hb k0, pw_cell_below hb k1, pw_cell_below hb ha1, pw_cell_below hb hb1⟩, ⟨hb⟩⟩⟩
        go_cut [16, 17] (fun sh sx wx => ∃ g16 v3 l3 x3, sh = .pointer (some ⟨g16, 0, none⟩) ∧ sx = .int .i64 x3 ∧ Aside0 (Led [(g16, [.int .i64 ins, v3], 30), (g14, [.int .i64 ins, .slice A2 l2.length c2], 30), (g12, [.int .i64 ins, .slice A1 l1.length c1], 30), (g8, [.int .i64 0, .slice none 0 0], 30), (g4, [.int .i64 ins, .slice A' l'.length c'], 30)] w wx) ∧ Aside0 (GOk ins v3 l3 0 wx) ∧ Aside0 (Ext ins l l3 (((9 * i + 3) + 3) + 1)) ∧ Aside0 (Vld ins l3.length x3) ∧ Aside0 (l2.length ≤ l3.length) ∧ Aside0 (Ri wx w.heap.size (.slice AO os.length cO) os))
        case first =>
          go_region_held3 (fun w' => (w'.cell? ⟨g14, 0, none⟩ = some (.int .i64 ins) ∧ w'.cell? ⟨g14, 1, none⟩ = some (.slice A2 l2.length c2) ∧ w'.cell? (ad.add i) = some (.int .i64 p) ∧ w'.cell? (bd.add i) = some (.int .i64 q)) ∧ Aside0 (Below w2_.heap.size w2_ w'))
            ((refine KS.out _ ?_; repeat (first | exact Aside0.out (And.right (by assumption)) | refine below_alloc ?_ _ | refine below_step ?_ (by assumption) | (refine below_set ?_ ?_; rotate_left; first | exact Nat.le_refl _ | exact (Aside0.out (p := Below w2_.heap.size w2_ _) (And.right (by assumption))).size) | refine below_drew ?_ | exact Below.refl _ _)))
            (first | (go_at_call 104; refine (and_any ins p q _ l2 _ ((HG.out.step (by repeat (first | (with_reducible exact Below.refl _ _) | refine below_alloc ?_ _ | refine below_drew ?_ | refine below_step ?_ (by assumption)))).more (m := 1) (by have := HM.out; have := HE.out.len; omega)) HVp.out HVq.out).mono ?_; rintro e we ⟨v2, l2, x2, rfl, hg, he, hv, hb⟩; obtain ⟨A2, c2, rfl, _⟩ := hg.slice; obtain ⟨hc, hf⟩ := bcell hb))
          all_goals
            go_wp2_with (fail)
            go_meet
            first
              | exact ⟨_, _, l2, x2, rfl, rfl, ⟨(finA (HL.out.step (by repeat (first | (with_reducible exact Below.refl _ _) | refine below_alloc ?_ _ | refine below_drew ?_ | refine below_step ?_ (by assumption)))) hg).1⟩, ⟨(finA (HL.out.step (by repeat (first | (with_reducible exact Below.refl _ _) | refine below_alloc ?_ _ | refine below_drew ?_ | refine below_step ?_ (by assumption)))) hg).2.less (Nat.zero_le _)⟩, ⟨HE.out.trans he⟩, ⟨hv⟩, ⟨he.le⟩, ⟨Kd.R_below HO.out (below_alloc (by repeat (first | (with_reducible exact Below.refl _ _) | refine below_alloc ?_ _ | refine below_drew ?_ | refine below_step ?_ (by assumption))) _)⟩⟩
              | exact ⟨_, _, l2, x2, rfl, rfl, ⟨(finC (HL.out.step (by repeat (first | (with_reducible exact Below.refl _ _) | refine below_alloc ?_ _ | refine below_drew ?_ | refine below_step ?_ (by assumption)))) (by repeat (first | (with_reducible exact Below.refl _ _) | refine below_alloc ?_ _ | refine below_drew ?_ | refine below_step ?_ (by assumption))) hg).1⟩, ⟨(finC (HL.out.step (by repeat (first | (with_reducible exact Below.refl _ _) | refine below_alloc ?_ _ | refine below_drew ?_ | refine below_step ?_ (by assumption)))) (by repeat (first | (with_reducible exact Below.refl _ _) | refine below_alloc ?_ _ | refine below_drew ?_ | refine below_step ?_ (by assumption))) hg).2.less (Nat.zero_le _)⟩, ⟨HE.out.trans he⟩, ⟨hv⟩, ⟨he.le⟩, ⟨finCR (HL.out.step (by repeat (first | (with_reducible exact Below.refl _ _) | refine below_alloc ?_ _ | refine below_drew ?_ | refine below_step ?_ (by assumption)))) (by repeat (first | (with_reducible exact Below.refl _ _) | refine below_alloc ?_ _ | refine below_drew ?_ | refine below_step ?_ (by assumption))) (Kd.R_below HO.out (by repeat (first | (with_reducible exact Below.refl _ _) | refine below_alloc ?_ _ | refine below_drew ?_ | refine below_step ?_ (by assumption)))) (by decide)⟩⟩
        case rest =>
          clear k0 k1 KS HL HG HE HO ha1 hb1
          obtain ⟨g16, v3, l3, x3, rfl, rfl, HL, HG, HE, HV3, HLE3, HO⟩ := hcut
          obtain ⟨A3, c3, rfl, _⟩ := HG.out.slice
          replace HV := am (HV.out.up HLE3.out)
          replace HVp := am (HVp.out.up HLE3.out)
          replace HVq := am (HVq.out.up HLE3.out)
          replace HV1 := am (HV1.out.up HLE3.out)
          replace HV2 := am (HV2.out.up HLE3.out)
          replace HOS := am (HOS.out.up HLE3.out)
          go_wp2_with (first
              | ((with_reducible refine zg 62 rfl ?_); refine zl 0 30 (.tmp 16) HL hu30 ?_)
              | (go_at_call 104; refine (and_any ins x1 x _ l3 _ (HG.out.more (m := 1) (by have := HM.out; have := HE.out.len; omega)) HV1.out HV.out).mono ?_; rintro e we4 ⟨v4, l4, x4, rfl, hg, he, HV4, hb⟩; obtain ⟨A4, c4, rfl, _⟩ := hg.slice; replace HL := am (HL.out.step hb); replace HO := am (Kd.R_below HO.out hb); replace HV := am (HV.out.up he.le); replace HVp := am (HVp.out.up he.le); replace HVq := am (HVq.out.up he.le); replace HV1 := am (HV1.out.up he.le); replace HV2 := am (HV2.out.up he.le); replace HV3 := am (HV3.out.up he.le); replace HOS := am (HOS.out.up he.le); replace HG := am hg; replace HE := am (HE.out.trans he); replace HV4 := am HV4; clear hg he hb)
              | ((with_reducible refine zg 18 rfl ?_); refine zx 18 [.int .i64 0, .slice none 0 0] 30 HL ?_; clear HL; intro g18 w3_ HL hb_; replace HG := am (HG.out.step hb_); replace HO := am (Kd.R_below HO.out hb_); clear hb_)
              | ((with_reducible refine zst 30 (.tmp 18) (.tmp 66) rfl ?_); refine zs 0 0 30 (.tmp 18) (.tmp 66) [.int .i64 ins, .slice A4 l4.length c4] HL ?_; intro w4_ HLn hfar; replace HG := am (HG.out.far HL.out 0 rfl hfar); replace HO := am (Rfar HO.out HL.out 0 rfl hfar); replace HL := HLn; clear HLn hfar)
              | ((with_reducible refine zg 69 rfl ?_); refine zl 0 30 (.tmp 18) HL hu30 ?_)
              | (go_at_call 105; refine (or_any ins _ l4 x3 x4 _ (HG.out.more (m := 1) (by have := HM.out; have := HE.out.len; omega)) HV3.out HV4.out).mono ?_; rintro e we5 ⟨v5, l5, x5, rfl, hg, he, HV5, hb⟩; obtain ⟨A5, c5, rfl, _⟩ := hg.slice; replace HL := am (HL.out.step hb); replace HO := am (Kd.R_below HO.out hb); replace HV := am (HV.out.up he.le); replace HVp := am (HVp.out.up he.le); replace HVq := am (HVq.out.up he.le); replace HV1 := am (HV1.out.up he.le); replace HV2 := am (HV2.out.up he.le); replace HV3 := am (HV3.out.up he.le); replace HV4 := am (HV4.out.up he.le); replace HOS := am (HOS.out.up he.le); replace HG := am hg; replace HE := am (HE.out.trans he); replace HV5 := am HV5; clear hg he hb)
              | ((with_reducible refine zg 20 rfl ?_); refine zx 20 [.int .i64 0, .slice none 0 0] 30 HL ?_; clear HL; intro g20 w5_ HL hb_; replace HG := am (HG.out.step hb_); replace HO := am (Kd.R_below HO.out hb_); clear hb_)
              | ((with_reducible refine zst 30 (.tmp 20) (.tmp 73) rfl ?_); refine zs 0 0 30 (.tmp 20) (.tmp 73) [.int .i64 ins, .slice A5 l5.length c5] HL ?_; intro w6_ HLn hfar; replace HG := am (HG.out.far HL.out 0 rfl hfar); replace HO := am (Rfar HO.out HL.out 0 rfl hfar); replace HL := HLn; clear HLn hfar)
              | ((with_reducible refine zg 78 rfl ?_); refine zap (Kd.int .i64) (.tmp 75) (.tmp 77) 66 3 x2 [.int .i64 x2] HL HO Try.underlying66 info3 rfl (by have := HOL.out; omega) ?_; intro v9_ w9_ HO9 HL9 hg_; obtain ⟨os2, ho2⟩ : ∃ z, os ++ [x2] = z := ⟨_, rfl⟩; rw [ho2] at HO9; have HOE := am ho2; clear ho2; obtain ⟨A9, c9, rfl⟩ := Kd.R_slice HO9.out; replace HG := am (HG.out.other HO.out hg_); replace HL := HL9; replace HO := HO9; clear HO9 HL9 hg_)
              | ((with_reducible refine zg 79 rfl ?_); refine zl 0 30 (.tmp 20) HL hu30 ?_)
              | ((with_reducible refine zst 30 (.tmp 4) (.tmp 79) rfl ?_); refine zs 6 0 30 (.tmp 4) (.tmp 79) [.int .i64 ins, .slice A5 l5.length c5] HL ?_; intro w7_ HLn hfar; replace HG := am (HG.out.far HL.out 6 rfl hfar); replace HO := am (Rfar HO.out HL.out 6 rfl hfar); replace HL := HLn; clear HLn hfar))
          go_roundw
          case rel => exact ⟨i + 1, x5, _, l5, os2, rfl, by go_num, by omega, by rw [← HOE.out, List.length_append, HOL.out]; rfl, ⟨HL.out.drop.drop.drop.drop.drop⟩, HG, ⟨HE.out.mono (by omega)⟩, HV5, HO, ⟨by rw [← HOE.out]; exact HOS.out.snoc HV2.out⟩⟩
          case measure => simp [intOf]; omega
    · obtain rfl : i = xs.length := by omega
      go_wp2_with (first
          | ((with_reducible refine zg 81 rfl ?_); refine zl 1 30 (.tmp 4) HL hu30 ?_)
          | ((with_reducible refine zst 30 (.tmp 8) (.tmp 81) rfl ?_); refine zs 0 0 30 (.tmp 8) (.tmp 81) [.int .i64 ins, .slice A' l'.length c'] HL ?_; intro w1_ HLn hfar; replace HG := am (HG.out.far HL.out 0 rfl hfar); replace HO := am (Rfar HO.out HL.out 0 rfl hfar); replace HL := HLn; clear HLn hfar))
      refine zret 0 8 9 30 HL hu30 ?_
      exact ⟨_, l', _, os, rfl, HG.out, HE.out, Kd.R_lower HO.out (Nat.zero_le _), HOL.out, HOS.out, HL.out.below⟩
/-- A row of numbers is handed back. -/
def RetR (p : List Int → Prop) (w : World) (e : Ending) (w' : World) : Prop := ∃ v ys, e = .returned v ∧ Ri w' 0 v ys ∧ p ys ∧ Below w.heap.size w w'
def IsTurned (xs ys : List Int) : Prop := ys = xs.map turnI
theorem IsTurned.vlds {ins : Int} {n : Nat} {xs ys : List Int} (h : IsTurned xs ys) (hx : Vlds ins n xs) (hb : 2 * (1 + ins + n) < 9223372036854775807) : Vlds ins n ys := by
  subst h
  intro y hy
  obtain ⟨x, hm, rfl⟩ := List.mem_map.1 hy
  exact (hx x hm).turn hb
theorem IsTurned.len {xs ys : List Int} (h : IsTurned xs ys) : ys.length = xs.length := by subst h; simp
set_option maxHeartbeats 8000000 in
theorem turned_any (A : Option Addr) (c : Nat) (xs : List Int) (w : World) (hA : (Kd.int .i64).C w A xs.length xs) (hs : xs.length ≤ 1000000) :
    Calls Try.prog 94 #[.slice A xs.length c] w (RetR (IsTurned xs) w) := by
  have HA := am hA
  have hm : xs.length ≤ 9223372036854775807 := hA.2.1
  have HL : Aside0 (Led [] w w) := ⟨Led.nil w⟩
  have HO : Aside0 (Ri w w.heap.size (.slice none 0 0) []) := ⟨Kd.R_nil _ _ _ _ _⟩
  clear hA
  go_enter Try.func94, Try.ntmps94
  go_wp2_with (fail)
  go_loopw [3, 4] (fun v3 v4 wr => ∃ (i : Nat), v4 = .int .i64 (i : Int) ∧ i ≤ xs.length ∧ Aside0 (Led [] w wr) ∧ Aside0 (Ri wr w.heap.size v3 ((xs.take i).map turnI))) (fun _ v _ => xs.length - (intOf v).toNat)
  case atStart => exact ⟨0, rfl, Nat.zero_le _, HL, HO⟩
  case round =>
    clear HL HO
    obtain ⟨i, rfl, hi, HL, HO⟩ := hrel
    by_cases hlt : i < xs.length
    · have hi0 : (0 : Int) ≤ (i : Int) := by omega
      have hi1 : (i : Int) < (xs.length : Int) := by omega
      obtain ⟨ad, rfl, ha0⟩ := atI (Kd.C_below HA.out HL.out.below) i hlt
      obtain ⟨os, hos⟩ : ∃ os, (xs.take i).map turnI = os := ⟨_, rfl⟩
      have HOL : Aside0 (os.length = i) := ⟨by rw [← hos]; simp; omega⟩
      have HON : Aside0 ((xs.take (i + 1)).map turnI = os ++ [turnI xs[i]]) := ⟨by rw [← hos, List.take_succ_eq_append_getElem hlt, List.map_append]; rfl⟩
      rw [hos] at HO
      obtain ⟨p, hp⟩ : ∃ p, xs[i] = p := ⟨_, rfl⟩
      rw [hp] at ha0 HON
      obtain ⟨AO, cO, rfl⟩ := Kd.R_slice HO.out
      clear hos hp
      go_wp2_with ((with_reducible refine zg 18 rfl ?_); refine zap (Kd.int .i64) (.tmp 11) (.tmp 17) 66 3 (turnI p) [.int .i64 (turnI p)] HL HO Try.underlying66 info3 rfl (by have := HOL.out; omega) ?_; intro v9_ w9_ HO9 HL9 hg_; clear HO HL hg_)
      go_roundw
      case rel => exact ⟨i + 1, by go_num, by omega, HL9, ⟨by rw [HON.out]; exact HO9.out⟩⟩
      case measure => simp [intOf]; omega
    · obtain rfl : i = xs.length := by omega
      obtain ⟨AO, cO, hv⟩ := Kd.R_slice HO.out
      subst hv
      go_wp2_with (fail)
      go_ret
      exact ⟨_, _, rfl, Kd.R_lower HO.out (Nat.zero_le _), by rw [List.take_length]; rfl, HL.out.below⟩
theorem i64_and1 (n : Int) : bits .and .i64 n 1 = n % 2 := by
  have h1 : (BitVec.ofInt 64 1).toNat = 2 ^ 1 - 1 := by decide
  have key : (BitVec.ofInt 64 n &&& BitVec.ofInt 64 1).toNat = (n % ((2 ^ 64 : Nat) : Int)).toNat % 2 ^ 1 := by
    rw [BitVec.toNat_and, BitVec.toNat_ofInt, h1, Nat.and_two_pow_sub_one_eq_mod]
  show IntKind.i64.wrap ((BitVec.ofInt 64 n &&& BitVec.ofInt 64 1).toNat : Nat) = n % 2
  rw [key, IntKind.wrap_i64]
  omega
def IsBits (n : Nat) (ys : List Int) : Prop := ys.length = n ∧ ∀ y ∈ ys, 0 ≤ y ∧ y < 2
theorem IsBits.vlds {ins : Int} {m n : Nat} {ys : List Int} (h : IsBits n ys) (hi : 0 ≤ ins) : Vlds ins m ys := fun y hy => ⟨(h.2 y hy).1, by have := (h.2 y hy).2; omega⟩
set_option maxHeartbeats 8000000 in
theorem lit_any (n : Int) (m : Nat) (w : World) (hs : m ≤ 16) : Calls Try.prog 93 #[.int .i64 n, .int .i64 (m : Int)] w (RetR (IsBits m) w) := by
  have HL : Aside0 (Led [] w w) := ⟨Led.nil w⟩
  have HO : Aside0 (Ri w w.heap.size (.slice none 0 0) []) := ⟨Kd.R_nil _ _ _ _ _⟩
  go_enter Try.func93, Try.ntmps93
  go_wp2_with (fail)
  go_loopw [5, 6] (fun v3 v4 wr => ∃ (i : Nat) (os : List Int), v4 = .int .i64 (i : Int) ∧ i ≤ m ∧ Aside0 (Led [] w wr) ∧ Aside0 (Ri wr w.heap.size v3 os) ∧ Aside0 (IsBits i os)) (fun _ v _ => m - (intOf v).toNat)
  case atStart => exact ⟨0, [], rfl, Nat.zero_le _, HL, HO, ⟨rfl, fun _ h => by cases h⟩⟩
  case round =>
    clear HL HO
    obtain ⟨i, os, rfl, hi, HL, HO, HS⟩ := hrel
    obtain ⟨AO, cO, rfl⟩ := Kd.R_slice HO.out
    by_cases hlt : i < m
    · have hi0 : (0 : Int) ≤ (i : Int) := by omega
      have hi1 : (i : Int) < (m : Int) := by omega
      have hi2 : (i : Int) ≤ 64 := by omega
      go_wp2_with ((with_reducible refine zg 18 rfl ?_); refine zap (Kd.int .i64) (.tmp 12) (.tmp 17) 66 3 (bits .and .i64 (n / 2 ^ i) 1) [.int .i64 (bits .and .i64 (n / 2 ^ i) 1)] HL HO Try.underlying66 info3 rfl (by have := HS.out.1; omega) ?_; intro v9_ w9_ HO9 HL9 hg_; clear HO HL hg_)
      go_roundw
      case rel => exact ⟨i + 1, _, by go_num, by omega, HL9, HO9, ⟨by rw [List.length_append, HS.out.1]; rfl, fun y hy => by
        rcases List.mem_append.1 hy with hy | hy
        · exact HS.out.2 y hy
        · rw [List.mem_singleton.1 hy, i64_and1]; omega⟩⟩
      case measure => simp [intOf]; omega
    · obtain rfl : i = m := by omega
      go_wp2_with (fail)
      go_ret
      exact ⟨_, _, rfl, Kd.R_lower HO.out (Nat.zero_le _), HS.out, HL.out.below⟩
set_option maxHeartbeats 32000000 in
set_option maxRecDepth 100000 in
theorem each_any (ins : Int) (v : Value) (l : List S117) (A : Option Addr) (c : Nat) (xs : List Int) (B : Option Addr) (d : Nat) (ys : List Int) (op : Int) (w : World) (h : GOk ins v l (3 * xs.length) w) (hA : (Kd.int .i64).C w A xs.length xs) (hB : (Kd.int .i64).C w B ys.length ys) (hle : xs.length ≤ ys.length) (hs : xs.length ≤ 1000000) (hx : Vlds ins l.length xs) (hy : Vlds ins l.length ys) :
    Calls Try.prog 95 #[.agg #[.int .i64 ins, v], .int .i64 op, .slice A xs.length c, .slice B ys.length d] w (RetL ins l (3 * xs.length) xs.length w) := by
  obtain ⟨A0, c0, rfl, hlc, _⟩ := h.slice
  have HG := am (h.less (Nat.zero_le _))
  have HM : Aside0 (l.length + 3 * xs.length ≤ 1000000000) := ⟨h.len⟩
  have HE := am (Ext.refl (k := 0) h.ok)
  have HA := am hA
  have HB := am hB
  have HX := am hx
  have HY := am hy
  have hm : xs.length ≤ 9223372036854775807 := hA.2.1
  have hm2 : ys.length ≤ 9223372036854775807 := hB.2.1
  have HL : Aside0 (Led [] w w) := ⟨Led.nil w⟩
  have hu30 := Try.underlying30
  clear h hA hB hx hy hlc
  go_enter Try.func95, Try.ntmps95
  go_wp2_with (first
    | ((with_reducible refine zg 4 rfl ?_); refine zx 4 [.int .i64 ins, .slice A0 l.length c0] 30 HL ?_; clear HL; intro g4 w1_ HL hb_; replace HG := am (HG.out.step hb_); clear hb_)
    | ((with_reducible refine zg 8 rfl ?_); refine zx 8 [.int .i64 0, .slice none 0 0] 30 HL ?_; clear HL; intro g8 w2_ HL hb_; replace HG := am (HG.out.step hb_); clear hb_))
  have HO : Aside0 (Ri w2_ w.heap.size (.slice none 0 0) []) := ⟨Kd.R_nil _ _ _ _ _⟩
  go_loopw [10, 11] (fun v10 v11 wr => ∃ (i : Nat) (v' : Value) (l' : List S117) (os : List Int), v11 = .int .i64 (i : Int) ∧ i ≤ xs.length ∧ os.length = i ∧ Aside0 (Led [(g8, [.int .i64 0, .slice none 0 0], 30), (g4, [.int .i64 ins, v'], 30)] w wr) ∧ Aside0 (GOk ins v' l' 0 wr) ∧ Aside0 (Ext ins l l' (3 * i)) ∧ Aside0 (Ri wr w.heap.size v10 os) ∧ Aside0 (Vlds ins l'.length os)) (fun _ v _ => xs.length - (intOf v).toNat)
  case atStart => exact ⟨0, _, l, [], rfl, Nat.zero_le _, rfl, HL, HG, HE, HO, ⟨fun _ h => by cases h⟩⟩
  case round =>
    clear HL HG HE HO
    obtain ⟨i, v', l', os, rfl, hi, hos, HL, HG, HE, HO, HOS⟩ := hrel
    obtain ⟨A', c', rfl, _⟩ := HG.out.slice
    obtain ⟨AO, cO, rfl⟩ := Kd.R_slice HO.out
    have HOL := am hos
    clear hos
    by_cases hlt : i < xs.length
    · have hi0 : (0 : Int) ≤ (i : Int) := by omega
      have hi1 : (i : Int) < (xs.length : Int) := by omega
      have hi2 : (i : Int) < (ys.length : Int) := by omega
      obtain ⟨ad, rfl, ha0⟩ := atI HA.out i hlt
      obtain ⟨bd, rfl, hb0⟩ := atI HB.out i (by omega)
      obtain ⟨p, hp⟩ : ∃ p, xs[i] = p := ⟨_, rfl⟩
      obtain ⟨q, hq⟩ : ∃ q, ys[i] = q := ⟨_, rfl⟩
      have HVp : Aside0 (Vld ins l'.length p) := ⟨hp ▸ (HX.out _ (List.getElem_mem hlt)).up HE.out.le⟩
      have HVq : Aside0 (Vld ins l'.length q) := ⟨hq ▸ (HY.out _ (List.getElem_mem (by omega))).up HE.out.le⟩
      rw [hp] at ha0
      rw [hq] at hb0
      have HA0 := am ha0
      have HB0 := am hb0
      clear ha0 hb0 hp hq
      go_upto_block 2 with (first
          | ((with_reducible refine zg 20 rfl ?_); refine zl 1 30 (.tmp 4) HL hu30 ?_)
          | ((with_reducible refine zg 13 rfl ?_); refine zx 13 [.int .i64 0, .slice none 0 0] 30 HL ?_; clear HL; intro g13 w1_ HL hb_; replace HG := am (HG.out.step hb_); replace HO := am (Kd.R_below HO.out hb_); clear hb_)
          | ((with_reducible refine zst 30 (.tmp 13) (.tmp 20) rfl ?_); refine zs 0 0 30 (.tmp 13) (.tmp 20) [.int .i64 ins, .slice A' l'.length c'] HL ?_; intro w2_ HLn hfar; replace HG := am (HG.out.far HL.out 0 rfl hfar); replace HO := am (Rfar HO.out HL.out 0 rfl hfar); replace HL := HLn; clear HLn hfar))
      go_cut [12] (fun s12 wx => ∃ v2 l2 x2, s12 = .int .i64 x2 ∧ Aside0 (Led [(g13, [.int .i64 ins, v2], 30), (g8, [.int .i64 0, .slice none 0 0], 30), (g4, [.int .i64 ins, .slice A' l'.length c'], 30)] w wx) ∧ Aside0 (GOk ins v2 l2 0 wx) ∧ Aside0 (Ext ins l l2 (3 * i + 3)) ∧ Aside0 (Vld ins l2.length x2) ∧ Aside0 (l'.length ≤ l2.length) ∧ Aside0 (Ri wx w.heap.size (.slice AO os.length cO) os))
      case first =>
        have ha1 : w2_.cell? (ad.add i) = some (.int .i64 p) := pw_cell_below HL.out.below HA0.out
        have hb1 : w2_.cell? (bd.add i) = some (.int .i64 q) := pw_cell_below HL.out.below HB0.out
        by_cases h6 : op = 6
        · subst h6
          go_wp2_with (fail)
          obtain ⟨n1, n2⟩ : g4 ≠ g13 ∧ g13 ≠ g4 := (HL.out.ne 0 2 rfl rfl (by decide)).symm
          have k0 : w2_.cell? ⟨g4, 0, none⟩ = some (.int .i64 ins) := blk_cell (HL.out.get 2 rfl) 0
          have k1 : w2_.cell? ⟨g4, 1, none⟩ = some (.slice A' l'.length c') := blk_cell (HL.out.get 2 rfl) 1
          have q0 : w2_.cell? ⟨g13, 0, none⟩ = some (.int .i64 ins) := blk_cell (HL.out.get 0 rfl) 0
          have f0 : w2_.frozen? ⟨g13, 0, none⟩ = false := blk_frozen (HL.out.get 0 rfl) 0
          have q1 : w2_.cell? ⟨g13, 1, none⟩ = some (.slice A' l'.length c') := blk_cell (HL.out.get 0 rfl) 1
          have f1 : w2_.frozen? ⟨g13, 1, none⟩ = false := blk_frozen (HL.out.get 0 rfl) 1
          have hlt_ : g13 < w2_.heap.size := blk_lt (HL.out.get 0 rfl)
          have KS : Aside0 (∀ W, KB g13 w2_ W → (W.cell? ⟨g4, 0, none⟩ = some (.int .i64 ins) ∧ W.cell? ⟨g4, 1, none⟩ = some (.slice A' l'.length c') ∧ W.cell? (ad.add i) = some (.int .i64 p) ∧ W.cell? (bd.add i) = some (.int .i64 q)) ∧ Aside0 (KB g13 w2_ W)) := ⟨fun W hb => ⟨⟨hb.cell k0 n1, hb.cell k1 n1, hb.cell ha1 (fun e_ => by have := World.block_lt_of_cell? w _ HA0.out; have := HL.out.base 0 rfl; simp only [] at this; have e2 : _ = g13 := e_; omega), hb.cell hb1 (fun e_ => by have := World.block_lt_of_cell? w _ HB0.out; have := HL.out.base 0 rfl; simp only [] at this; have e2 : _ = g13 := e_; omega)⟩, ⟨hb⟩⟩⟩
          go_region_held3 (fun w' => (w'.cell? ⟨g4, 0, none⟩ = some (.int .i64 ins) ∧ w'.cell? ⟨g4, 1, none⟩ = some (.slice A' l'.length c') ∧ w'.cell? (ad.add i) = some (.int .i64 p) ∧ w'.cell? (bd.add i) = some (.int .i64 q)) ∧ Aside0 (KB g13 w2_ w'))
            ((refine KS.out _ ?_; repeat (first | (with_reducible exact Aside0.out (And.right (by assumption))) | (with_reducible refine KB.set ?_ _ _) | (with_reducible refine KB.step ?_ (by assumption)) | (with_reducible refine KB.drew ?_) | (with_reducible exact KB.refl _ _))))
            (first | (go_at_call 104; refine (and_any ins p q _ l' _ ((HG.out.step (by repeat (first | (with_reducible exact Below.refl _ _) | refine below_alloc ?_ _ | refine below_drew ?_ | refine below_step ?_ (by assumption)))).more (m := 1) (by have := HM.out; have := HE.out.len; omega)) HVp.out HVq.out).mono ?_; rintro e we ⟨v2, l2, x2, rfl, hg, he, hv, hb⟩; obtain ⟨A2, c2, rfl, _⟩ := hg.slice; have hB_ := below_step (below_drew (Below.refl _ _)) hb; have z0 := pw_cell_below hB_ q0; have z1 := pw_cell_below hB_ q1; have y0 := (hB_.frozen (p := ⟨g13, 0, none⟩) hlt_).trans f0; have y1 := (hB_.frozen (p := ⟨g13, 1, none⟩) hlt_).trans f1))
          clear k0 k1 q0 q1 f0 f1 n1 n2 hlt_ KS
          have HLe := HL.out.drew.step hb
          obtain ⟨HF, hfar⟩ := HLe.putC 0 rfl [.int .i64 ins, .slice A2 l2.length c2] rfl
          go_wp2_with (fail)
          go_meet
          exact ⟨_, l2, x2, rfl, ⟨HF⟩, ⟨hg.far HLe 0 rfl hfar⟩, ⟨(HE.out.trans he).mono (by omega)⟩, ⟨hv⟩, ⟨he.le⟩, ⟨Rfar (Kd.R_below HO.out (below_step (below_drew (Below.refl _ _)) hb)) HLe 0 rfl hfar⟩⟩
        · have e6 : (op == 6) = false := by simp; exact h6
          by_cases h7 : op = 7
          · subst h7
            go_wp2_with (fail)
            obtain ⟨n1, n2⟩ : g4 ≠ g13 ∧ g13 ≠ g4 := (HL.out.ne 0 2 rfl rfl (by decide)).symm
            have k0 : w2_.cell? ⟨g4, 0, none⟩ = some (.int .i64 ins) := blk_cell (HL.out.get 2 rfl) 0
            have k1 : w2_.cell? ⟨g4, 1, none⟩ = some (.slice A' l'.length c') := blk_cell (HL.out.get 2 rfl) 1
            have q0 : w2_.cell? ⟨g13, 0, none⟩ = some (.int .i64 ins) := blk_cell (HL.out.get 0 rfl) 0
            have f0 : w2_.frozen? ⟨g13, 0, none⟩ = false := blk_frozen (HL.out.get 0 rfl) 0
            have q1 : w2_.cell? ⟨g13, 1, none⟩ = some (.slice A' l'.length c') := blk_cell (HL.out.get 0 rfl) 1
            have f1 : w2_.frozen? ⟨g13, 1, none⟩ = false := blk_frozen (HL.out.get 0 rfl) 1
            have hlt_ : g13 < w2_.heap.size := blk_lt (HL.out.get 0 rfl)
            have KS : Aside0 (∀ W, KB g13 w2_ W → (W.cell? ⟨g4, 0, none⟩ = some (.int .i64 ins) ∧ W.cell? ⟨g4, 1, none⟩ = some (.slice A' l'.length c') ∧ W.cell? (ad.add i) = some (.int .i64 p) ∧ W.cell? (bd.add i) = some (.int .i64 q)) ∧ Aside0 (KB g13 w2_ W)) := ⟨fun W hb => ⟨⟨hb.cell k0 n1, hb.cell k1 n1, hb.cell ha1 (fun e_ => by have := World.block_lt_of_cell? w _ HA0.out; have := HL.out.base 0 rfl; simp only [] at this; have e2 : _ = g13 := e_; omega), hb.cell hb1 (fun e_ => by have := World.block_lt_of_cell? w _ HB0.out; have := HL.out.base 0 rfl; simp only [] at this; have e2 : _ = g13 := e_; omega)⟩, ⟨hb⟩⟩⟩
            go_region_held3 (fun w' => (w'.cell? ⟨g4, 0, none⟩ = some (.int .i64 ins) ∧ w'.cell? ⟨g4, 1, none⟩ = some (.slice A' l'.length c') ∧ w'.cell? (ad.add i) = some (.int .i64 p) ∧ w'.cell? (bd.add i) = some (.int .i64 q)) ∧ Aside0 (KB g13 w2_ w'))
              ((refine KS.out _ ?_; repeat (first | (with_reducible exact Aside0.out (And.right (by assumption))) | (with_reducible refine KB.set ?_ _ _) | (with_reducible refine KB.step ?_ (by assumption)) | (with_reducible refine KB.drew ?_) | (with_reducible exact KB.refl _ _))))
              (first | (go_at_call 105; refine (or_any ins _ l' p q _ ((HG.out.step (by repeat (first | (with_reducible exact Below.refl _ _) | refine below_alloc ?_ _ | refine below_drew ?_ | refine below_step ?_ (by assumption)))).more (m := 1) (by have := HM.out; have := HE.out.len; omega)) HVp.out HVq.out).mono ?_; rintro e we ⟨v2, l2, x2, rfl, hg, he, hv, hb⟩; obtain ⟨A2, c2, rfl, _⟩ := hg.slice; have hB_ := below_step (below_drew (Below.refl _ _)) hb; have z0 := pw_cell_below hB_ q0; have z1 := pw_cell_below hB_ q1; have y0 := (hB_.frozen (p := ⟨g13, 0, none⟩) hlt_).trans f0; have y1 := (hB_.frozen (p := ⟨g13, 1, none⟩) hlt_).trans f1))
            clear k0 k1 q0 q1 f0 f1 n1 n2 hlt_ KS
            have HLe := HL.out.drew.step hb
            obtain ⟨HF, hfar⟩ := HLe.putC 0 rfl [.int .i64 ins, .slice A2 l2.length c2] rfl
            go_wp2_with (fail)
            go_meet
            exact ⟨_, l2, x2, rfl, ⟨HF⟩, ⟨hg.far HLe 0 rfl hfar⟩, ⟨(HE.out.trans he).mono (by omega)⟩, ⟨hv⟩, ⟨he.le⟩, ⟨Rfar (Kd.R_below HO.out (below_step (below_drew (Below.refl _ _)) hb)) HLe 0 rfl hfar⟩⟩
          · have e7 : (op == 7) = false := by simp; exact h7
            clear h6 h7
            go_wp2_with (fail)
            obtain ⟨n1, n2⟩ : g4 ≠ g13 ∧ g13 ≠ g4 := (HL.out.ne 0 2 rfl rfl (by decide)).symm
            have k0 : w2_.cell? ⟨g4, 0, none⟩ = some (.int .i64 ins) := blk_cell (HL.out.get 2 rfl) 0
            have k1 : w2_.cell? ⟨g4, 1, none⟩ = some (.slice A' l'.length c') := blk_cell (HL.out.get 2 rfl) 1
            have q0 : w2_.cell? ⟨g13, 0, none⟩ = some (.int .i64 ins) := blk_cell (HL.out.get 0 rfl) 0
            have f0 : w2_.frozen? ⟨g13, 0, none⟩ = false := blk_frozen (HL.out.get 0 rfl) 0
            have q1 : w2_.cell? ⟨g13, 1, none⟩ = some (.slice A' l'.length c') := blk_cell (HL.out.get 0 rfl) 1
            have f1 : w2_.frozen? ⟨g13, 1, none⟩ = false := blk_frozen (HL.out.get 0 rfl) 1
            have hlt_ : g13 < w2_.heap.size := blk_lt (HL.out.get 0 rfl)
            have KS : Aside0 (∀ W, KB g13 w2_ W → (W.cell? ⟨g4, 0, none⟩ = some (.int .i64 ins) ∧ W.cell? ⟨g4, 1, none⟩ = some (.slice A' l'.length c') ∧ W.cell? (ad.add i) = some (.int .i64 p) ∧ W.cell? (bd.add i) = some (.int .i64 q)) ∧ Aside0 (KB g13 w2_ W)) := ⟨fun W hb => ⟨⟨hb.cell k0 n1, hb.cell k1 n1, hb.cell ha1 (fun e_ => by have := World.block_lt_of_cell? w _ HA0.out; have := HL.out.base 0 rfl; simp only [] at this; have e2 : _ = g13 := e_; omega), hb.cell hb1 (fun e_ => by have := World.block_lt_of_cell? w _ HB0.out; have := HL.out.base 0 rfl; simp only [] at this; have e2 : _ = g13 := e_; omega)⟩, ⟨hb⟩⟩⟩
            go_region_held3 (fun w' => (w'.cell? ⟨g4, 0, none⟩ = some (.int .i64 ins) ∧ w'.cell? ⟨g4, 1, none⟩ = some (.slice A' l'.length c') ∧ w'.cell? (ad.add i) = some (.int .i64 p) ∧ w'.cell? (bd.add i) = some (.int .i64 q)) ∧ Aside0 (KB g13 w2_ w'))
              ((refine KS.out _ ?_; repeat (first | (with_reducible exact Aside0.out (And.right (by assumption))) | (with_reducible refine KB.set ?_ _ _) | (with_reducible refine KB.step ?_ (by assumption)) | (with_reducible refine KB.drew ?_) | (with_reducible exact KB.refl _ _))))
              (first | (go_at_call 106; refine (xor_any ins _ l' p q _ ((HG.out.step (by repeat (first | (with_reducible exact Below.refl _ _) | refine below_alloc ?_ _ | refine below_drew ?_ | refine below_step ?_ (by assumption)))).more (m := 3) (by have := HM.out; have := HE.out.len; omega)) HVp.out HVq.out).mono ?_; rintro e we ⟨v2, l2, x2, rfl, hg, he, hv, hb⟩; obtain ⟨A2, c2, rfl, _⟩ := hg.slice; have hB_ := below_step (below_drew (Below.refl _ _)) hb; have z0 := pw_cell_below hB_ q0; have z1 := pw_cell_below hB_ q1; have y0 := (hB_.frozen (p := ⟨g13, 0, none⟩) hlt_).trans f0; have y1 := (hB_.frozen (p := ⟨g13, 1, none⟩) hlt_).trans f1))
            clear k0 k1 q0 q1 f0 f1 n1 n2 hlt_ KS
            have HLe := HL.out.drew.step hb
            obtain ⟨HF, hfar⟩ := HLe.putC 0 rfl [.int .i64 ins, .slice A2 l2.length c2] rfl
            go_wp2_with (fail)
            go_meet
            exact ⟨_, l2, x2, rfl, ⟨HF⟩, ⟨hg.far HLe 0 rfl hfar⟩, ⟨(HE.out.trans he).mono (by omega)⟩, ⟨hv⟩, ⟨he.le⟩, ⟨Rfar (Kd.R_below HO.out (below_step (below_drew (Below.refl _ _)) hb)) HLe 0 rfl hfar⟩⟩
      case rest =>
        clear HL HG HE HO
        obtain ⟨v2, l2, x2, rfl, HL, HG, HE, HV2, hle2, HO⟩ := hcut
        obtain ⟨A2, c2, rfl, _⟩ := HG.out.slice
        replace HOS := am (HOS.out.up hle2.out)
        clear hle2
        go_wp2_with (first
            | ((with_reducible refine zg 65 rfl ?_); refine zl 0 30 (.tmp 13) HL hu30 ?_)
            | ((with_reducible refine zst 30 (.tmp 4) (.tmp 65) rfl ?_); refine zs 2 0 30 (.tmp 4) (.tmp 65) [.int .i64 ins, .slice A2 l2.length c2] HL ?_; intro w1_ HLn hfar; replace HG := am (HG.out.far HL.out 2 rfl hfar); replace HO := am (Rfar HO.out HL.out 2 rfl hfar); replace HL := HLn; clear HLn hfar)
            | ((with_reducible refine zg 69 rfl ?_); refine zap (Kd.int .i64) (.tmp 66) (.tmp 68) 66 3 x2 [.int .i64 x2] HL HO Try.underlying66 info3 rfl (by have := HOL.out; omega) ?_; intro v9_ w9_ HO9 HL9 hg_; obtain ⟨os2, ho2⟩ : ∃ z, os ++ [x2] = z := ⟨_, rfl⟩; rw [ho2] at HO9; have HOE := am ho2; clear ho2; obtain ⟨A9, c9, rfl⟩ := Kd.R_slice HO9.out; replace HG := am (HG.out.other HO.out hg_); replace HL := HL9; replace HO := HO9; clear HO9 HL9 hg_))
        go_roundw
        case rel => exact ⟨i + 1, _, l2, os2, by go_num, by omega, by rw [← HOE.out, List.length_append, HOL.out]; rfl, ⟨HL.out.drop⟩, HG, ⟨HE.out.mono (by omega)⟩, HO, ⟨by rw [← HOE.out]; exact HOS.out.snoc HV2.out⟩⟩
        case measure => simp [intOf]; omega
    · obtain rfl : i = xs.length := by omega
      go_wp2_with (first
          | ((with_reducible refine zg 70 rfl ?_); refine zl 1 30 (.tmp 4) HL hu30 ?_)
          | ((with_reducible refine zst 30 (.tmp 8) (.tmp 70) rfl ?_); refine zs 0 0 30 (.tmp 8) (.tmp 70) [.int .i64 ins, .slice A' l'.length c'] HL ?_; intro w1_ HLn hfar; replace HG := am (HG.out.far HL.out 0 rfl hfar); replace HO := am (Rfar HO.out HL.out 0 rfl hfar); replace HL := HLn; clear HLn hfar))
      refine zret 0 8 9 30 HL hu30 ?_
      exact ⟨_, l', _, os, rfl, HG.out, HE.out, Kd.R_lower HO.out (Nat.zero_le _), HOL.out, HOS.out, HL.out.below⟩
theorem below_none {w w1 : World} (h : w.grownBy w1 none) : Below w.heap.size w w1 := ⟨h.os, h.tape, h.output, h.size, fun k hk => h.block k hk (by simp)⟩
/-- Another block than a row's. -/
def NotRow (v : Value) : Nat → Prop := fun k => some k ≠ v.ownBlock
/-- A row beside the one that grows. -/
theorem R_beside {α : Type} {d : Kd α} {e b : Nat} {w w1 : World} {v v1 u : Value} {ys : List α} (h : d.R e w b (NotRow v) u ys) (hg : w.grownBy w1 v.ownBlock) (hat : v1.ownBlock = v.ownBlock ∨ ∃ b, v1.ownBlock = some b ∧ w.heap.size ≤ b) : d.R e w1 b (NotRow v1) u ys :=
  Kd.R_mono (Kd.R_grown (Kd.R_bound h) hg (fun k hk => hk.1)) (fun k hk he => by
    rcases hat with h1 | ⟨b, h1, h2⟩
    · exact hk.1 (he.trans h1)
    · rw [h1] at he
      have := hk.2.2.1
      injection he with he
      omega)
section
variable {α : Type} {P : Program} {ops : Array Oper} {rest : List Oper} {o : Oper} {a : Act} {Q : Exit → Act → World → Prop}
theorem zap2 (d : Kd α) {w0 W : World} {L : List Bx} (s x : Operand) (t e : TypeId) {z : Value} {bytes : Nat} {v : Value} {xs : List α} (p : α) (cs : List Value)
    (HL : Aside0 (Led L w0 W)) (HO : Aside0 (d.R e W w0.heap.size Any v xs)) (ht : P.underlying t = some (.slice e)) (hinfo : (P.info? e).map (fun i => (i.zero, i.size, i.bytes)) = some (some z, d.sz, bytes))
    (hp : d.M W w0.heap.size (fun _ => False) p cs) (hl : (xs.length + 1) * bytes ≤ 140737488355328)
    (h : ∀ v1 w1, Aside0 (d.R e w1 w0.heap.size Any v1 (xs ++ [p])) → Aside0 (Led L w0 w1) → W.grownBy w1 v.ownBlock → (v1.ownBlock = v.ownBlock ∨ ∃ b, v1.ownBlock = some b ∧ W.heap.size ≤ b) → wpList P ops Q rest (a.put o.dst v1) w1)
    (hne : ∀ b, b ∈ L → e ≠ b.2.2 := by simp) (ho : o.op = .call { callee := .builtin .append, args := #[s, x], argTypes := #[t, t] } := by rfl) (hgd : o.guard = none := by rfl)
    (hz : z.cells.size = d.sz := by rfl) (hs0 : 0 < d.sz := by decide) (hb0 : 0 < bytes := by decide) (hs : a.eval s = v := by rfl) (hx : a.eval x = .slice (some ⟨W.heap.size, 0, none⟩) 1 1 := by rfl) :
    wpList P ops Q (o :: rest) a (W.alloc (.cells cs.toArray e)) :=
  Kd.R_append d (w0 := w0) w0.heap.size hgd s x t e z bytes ho ht hinfo hz hs0 hb0 v xs p cs Any (fun _ => False) hs hx hp (fun _ h => h.elim) (fun _ _ => trivial) HO.out HL.out.below HL.out.below.size hl
    (fun v1 w1 h1 hb hg hat => h v1 w1 ⟨h1⟩ ⟨HL.out.grown HO.out hg hb hne⟩ hg hat)
/-- make([]T, n). -/
theorem zmk (d : Kd α) {w0 W : World} {L : List Bx} (N : Tmp) (t e : TypeId) (x : Operand) {z : Value} {bytes : Nat} (z0 : α) (n : Nat) (HL : Aside0 (Led L w0 W)) (ht : P.underlying t = some (.slice e)) (hinfo : (P.info? e).map (fun i => (i.zero, i.size, i.bytes)) = some (some z, d.sz, bytes))
    (hzero : d.M W w0.heap.size (fun _ => False) z0 z.cells.toList) (hl : n * bytes ≤ 281474976710656)
    (h : ∀ v1 w1, Aside0 (d.R e w1 w0.heap.size Any v1 (List.replicate n z0)) → Aside0 (Led L w0 w1) → Below W.heap.size W w1 → wpList P ops Q rest (a.put o.dst v1) w1)
    (hd : o.dst = some N := by rfl) (ho : o.op = .makeSlice t x x := by rfl) (hgd : o.guard = none := by rfl)
    (hz : z.cells.size = d.sz := by rfl) (hs0 : 0 < d.sz := by decide) (hb0 : 0 < bytes := by decide) (hx : a.eval x = .int .i64 (n : Int) := by rfl) : wpList P ops Q (o :: rest) a W :=
  Kd.R_make d (w0 := w0) w0.heap.size e hgd hd t x x ho (n : Int) hx hx ht z bytes hinfo hz hs0 hb0 z0 (ok := Any) (okp := fun _ => False) hzero (fun _ h => h.elim) trivial (by omega) (by simpa using hl) HL.out.below HL.out.below.size
    (fun v1 w1 h1 _ hg _ => h v1 w1 ⟨by simpa using h1⟩ ⟨HL.out.step (below_none hg)⟩ (below_none hg))
end
theorem vlds_zero {ins : Int} {m n : Nat} (h : 0 ≤ ins) : Vlds ins m (List.replicate n 0) := fun y hy => by
  rw [List.eq_of_mem_replicate hy]; exact ⟨by omega, by omega⟩
set_option maxHeartbeats 64000000 in
set_option maxRecDepth 100000 in
theorem times_any (ins : Int) (v : Value) (l : List S117) (A : Option Addr) (c : Nat) (xs : List Int) (B : Option Addr) (d : Nat) (ys : List Int) (w : World) (h : GOk ins v l (160 * ys.length) w) (hA : (Kd.int .i64).C w A xs.length xs) (hB : (Kd.int .i64).C w B ys.length ys) (hs : xs.length ≤ 16) (hx : Vlds ins l.length xs) (hy : Vlds ins l.length ys) :
    Calls Try.prog 97 #[.agg #[.int .i64 ins, v], .slice A xs.length c, .slice B ys.length d] w (RetL ins l (160 * ys.length) xs.length w) := by
  obtain ⟨A0, c0, rfl, hlc, _⟩ := h.slice
  have HG := am (h.less (Nat.zero_le _))
  have HM : Aside0 (l.length + 160 * ys.length ≤ 1000000000) := ⟨h.len⟩
  have HE := am (Ext.refl (k := 0) h.ok)
  have HA := am hA
  have HB := am hB
  have HX := am hx
  have HY := am hy
  have hi0 := h.i0
  have hm : xs.length ≤ 9223372036854775807 := hA.2.1
  have hm2 : ys.length ≤ 9223372036854775807 := hB.2.1
  have HL : Aside0 (Led [] w w) := ⟨Led.nil w⟩
  have hu30 := Try.underlying30
  clear h hA hB hx hy hlc
  go_enter Try.func97, Try.ntmps97
  go_wp2_with (first
    | ((with_reducible refine zg 3 rfl ?_); refine zx 3 [.int .i64 ins, .slice A0 l.length c0] 30 HL ?_; clear HL; intro g3 w1_ HL hb_; replace HG := am (HG.out.step hb_); clear hb_)
    | ((with_reducible refine zg 6 rfl ?_); refine zx 6 [.int .i64 0, .slice none 0 0] 30 HL ?_; clear HL; intro g6 w2_ HL hb_; replace HG := am (HG.out.step hb_); clear hb_)
    | ((with_reducible refine zg 19 rfl ?_); refine zmk (Kd.int .i64) 19 66 3 (.tmp 18) 0 xs.length HL Try.underlying66 info3 rfl (by omega) ?_; intro vo wo HO HLn hb_; replace HG := am (HG.out.step hb_); obtain ⟨AO, cO, rfl⟩ := Kd.R_slice HO.out; have HOL : Aside0 ((List.replicate xs.length (0 : Int)).length = xs.length) := ⟨List.length_replicate ..⟩; have HOS : Aside0 (Vlds ins l.length (List.replicate xs.length 0)) := ⟨vlds_zero hi0⟩; generalize List.replicate xs.length (0 : Int) = os at HO HOL HOS ⊢; replace HL := HLn; clear HLn hb_))
  go_loopw [8, 9] (fun v8 v9 wr => ∃ (i : Nat) (v' : Value) (l' : List S117) (os : List Int), v9 = .int .i64 (i : Int) ∧ i ≤ ys.length ∧ Aside0 (os.length = xs.length) ∧ Aside0 (Led [(g6, [.int .i64 0, .slice none 0 0], 30), (g3, [.int .i64 ins, v'], 30)] w wr) ∧ Aside0 (GOk ins v' l' 0 wr) ∧ Aside0 (Ext ins l l' (160 * i)) ∧ Aside0 (Ri wr w.heap.size v8 os) ∧ Aside0 (Vlds ins l'.length os)) (fun _ v _ => ys.length - (intOf v).toNat)
  case atStart => exact ⟨0, _, l, os, rfl, Nat.zero_le _, HOL, HL, HG, HE, HO, HOS⟩
  case round =>
    clear HL HG HE HO HOL HOS
    obtain ⟨i, v', l', os, rfl, hi, HOL, HL, HG, HE, HO, HOS⟩ := hrel
    obtain ⟨A', c', rfl, _⟩ := HG.out.slice
    obtain ⟨AO, cO, rfl⟩ := Kd.R_slice HO.out
    by_cases hlt : i < ys.length
    · have hj0 : (0 : Int) ≤ (i : Int) := by omega
      have hj1 : (i : Int) < (ys.length : Int) := by omega
      have hHO : (Kd.int .i64).R 3 wr w.heap.size (NotRow (.slice none 0 0)) (.slice AO os.length cO) os := Kd.R_mono HO.out (fun k _ h => by cases h)
      replace HO := am hHO
      have HR : Aside0 (Ri wr w.heap.size (.slice none 0 0) []) := ⟨Kd.R_nil _ _ _ _ _⟩
      clear hHO
      go_wp2_with (fail)
      obtain ⟨w9, rfl⟩ : ∃ x : World, x = wr := ⟨_, rfl⟩
      go_loopw [10, 11] (fun v10 v11 wr => ∃ (k : Nat) (v2 : Value) (l2 : List S117) (rs : List Int), v11 = .int .i64 (k : Int) ∧ k ≤ xs.length ∧ Aside0 (rs.length = k) ∧ Aside0 (Led [(g6, [.int .i64 0, .slice none 0 0], 30), (g3, [.int .i64 ins, v2], 30)] w wr) ∧ Aside0 (GOk ins v2 l2 0 wr) ∧ Aside0 (Ext ins l l2 (160 * i + k)) ∧ Aside0 ((Kd.int .i64).R 3 wr w.heap.size (NotRow v10) (.slice AO os.length cO) os) ∧ Aside0 (Ri wr w.heap.size v10 rs) ∧ Aside0 (Vlds ins l2.length os) ∧ Aside0 (Vlds ins l2.length rs)) (fun _ v _ => xs.length - (intOf v).toNat)
      case atStart => exact ⟨0, _, l', [], rfl, Nat.zero_le _, ⟨rfl⟩, HL, HG, HE, HO, HR, HOS, ⟨fun _ h => by cases h⟩⟩
      case round =>
        clear HL HG HE HO HR HOS
        obtain ⟨k, v2, l2, rs, rfl, hk, HRL, HL, HG, HE, HO, HR, HOS, HRS⟩ := hrel
        obtain ⟨A2, c2, rfl, _⟩ := HG.out.slice
        obtain ⟨AR, cR, rfl⟩ := Kd.R_slice HR.out
        by_cases hk1 : k < xs.length
        · obtain ⟨tt, htt⟩ : ∃ tt, decide (i ≤ k) = tt := ⟨_, rfl⟩
          go_upto_if 34 with (fail)
          replace htt := am htt
          go_cut [12] (fun s12 wx => ∃ v3 l3 x3, s12 = .int .i64 x3 ∧ Aside0 (Led [(g6, [.int .i64 0, .slice none 0 0], 30), (g3, [.int .i64 ins, v3], 30)] w wx) ∧ Aside0 (GOk ins v3 l3 0 wx) ∧ Aside0 (Ext ins l l3 (160 * i + k + 1)) ∧ Aside0 (Vld ins l3.length x3) ∧ Aside0 (l2.length ≤ l3.length) ∧ Aside0 ((Kd.int .i64).R 3 wx w.heap.size (NotRow (.slice AR rs.length cR)) (.slice AO os.length cO) os) ∧ Aside0 (Ri wx w.heap.size (.slice AR rs.length cR) rs))
          case first =>
            cases tt with
            | true =>
              have hge : i ≤ k := of_decide_eq_true htt.out
              obtain ⟨j, hj⟩ : ∃ j, k - i = j := ⟨_, rfl⟩
              have hw : IntKind.i64.wrap ((k : Int) - (i : Int)) = (j : Int) := by rw [IntWalk.i64_in _ (by omega)]; omega
              have hk0 : (0 : Int) ≤ (j : Int) := by omega
              have hk2 : (j : Int) < (xs.length : Int) := by omega
              have hjl : j < xs.length := by omega
              obtain ⟨ad, rfl, ha0⟩ := atI HA.out j hjl
              obtain ⟨bd, rfl, hb0⟩ := atI HB.out i hlt
              obtain ⟨p, hp⟩ : ∃ p, xs[j] = p := ⟨_, rfl⟩
              obtain ⟨q, hq⟩ : ∃ q, ys[i] = q := ⟨_, rfl⟩
              have HVp : Aside0 (Vld ins l2.length p) := ⟨hp ▸ (HX.out _ (List.getElem_mem hjl)).up HE.out.le⟩
              have HVq : Aside0 (Vld ins l2.length q) := ⟨hq ▸ (HY.out _ (List.getElem_mem hlt)).up HE.out.le⟩
              rw [hp] at ha0
              rw [hq] at hb0
              have HA0 := am ha0
              have HB0 := am hb0
              clear ha0 hb0 hp hq hj hge hjl
              have ha1 : wr.cell? (ad.add j) = some (.int .i64 p) := pw_cell_below HL.out.below HA0.out
              have hb1 : wr.cell? (bd.add i) = some (.int .i64 q) := pw_cell_below HL.out.below HB0.out
              have k0 : wr.cell? ⟨g3, 0, none⟩ = some (.int .i64 ins) := blk_cell (HL.out.get 1 rfl) 0
              have k1 : wr.cell? ⟨g3, 1, none⟩ = some (.slice A2 l2.length c2) := blk_cell (HL.out.get 1 rfl) 1
              have KS : Aside0 (∀ W, Below wr.heap.size wr W → (W.cell? ⟨g3, 0, none⟩ = some (.int .i64 ins) ∧ W.cell? ⟨g3, 1, none⟩ = some (.slice A2 l2.length c2) ∧ W.cell? (ad.add j) = some (.int .i64 p) ∧ W.cell? (bd.add i) = some (.int .i64 q)) ∧ Aside0 (Below wr.heap.size wr W)) := ⟨fun W hb => ⟨⟨pw_cell_below hb k0, pw_cell_below hb k1, pw_cell_below hb ha1, pw_cell_below hb hb1⟩, ⟨hb⟩⟩⟩
              go_upto_region 11 with (fail)
              go_cut [13, 14] (fun sh sx wx => ∃ g13 v3 l3 x3, sh = .pointer (some ⟨g13, 0, none⟩) ∧ sx = .int .i64 x3 ∧ Aside0 (Led [(g13, [.int .i64 ins, v3], 30), (g6, [.int .i64 0, .slice none 0 0], 30), (g3, [.int .i64 ins, .slice A2 l2.length c2], 30)] w wx) ∧ Aside0 (GOk ins v3 l3 0 wx) ∧ Aside0 (Ext ins l l3 (160 * i + k + 1)) ∧ Aside0 (Vld ins l3.length x3) ∧ Aside0 (l2.length ≤ l3.length) ∧ Aside0 ((Kd.int .i64).R 3 wx w.heap.size (NotRow (.slice AR rs.length cR)) (.slice AO os.length cO) os) ∧ Aside0 (Ri wx w.heap.size (.slice AR rs.length cR) rs))
              case first =>
                go_region_held3 (fun w' => (w'.cell? ⟨g3, 0, none⟩ = some (.int .i64 ins) ∧ w'.cell? ⟨g3, 1, none⟩ = some (.slice A2 l2.length c2) ∧ w'.cell? (ad.add j) = some (.int .i64 p) ∧ w'.cell? (bd.add i) = some (.int .i64 q)) ∧ Aside0 (Below wr.heap.size wr w'))
                  ((refine KS.out _ ?_; repeat (first | exact Aside0.out (And.right (by assumption)) | refine below_alloc ?_ _ | refine below_step ?_ (by assumption) | (refine below_set ?_ ?_; rotate_left; first | exact Nat.le_refl _ | exact (Aside0.out (p := Below wr.heap.size wr _) (And.right (by assumption))).size) | refine below_drew ?_ | exact Below.refl _ _)))
                  (first | (go_at_call 104; refine (and_any ins p q _ l2 _ ((HG.out.step (by repeat (first | (with_reducible exact Below.refl _ _) | refine below_alloc ?_ _ | refine below_drew ?_ | refine below_step ?_ (by assumption)))).more (m := 1) (by have := HM.out; have := HE.out.len; omega)) HVp.out HVq.out).mono ?_; rintro e we ⟨v2, l2, x2, rfl, hg, he, hv, hb⟩; obtain ⟨A2, c2, rfl, _⟩ := hg.slice; obtain ⟨hc, hf⟩ := bcell hb))
                all_goals
                  go_wp2_with (fail)
                  go_meet
                  first
                    | exact ⟨_, _, l2, x2, rfl, rfl, ⟨(finA (HL.out.step (by repeat (first | (with_reducible exact Below.refl _ _) | refine below_alloc ?_ _ | refine below_drew ?_ | refine below_step ?_ (by assumption)))) hg).1⟩, ⟨(finA (HL.out.step (by repeat (first | (with_reducible exact Below.refl _ _) | refine below_alloc ?_ _ | refine below_drew ?_ | refine below_step ?_ (by assumption)))) hg).2.less (Nat.zero_le _)⟩, ⟨HE.out.trans he⟩, ⟨hv⟩, ⟨he.le⟩, ⟨Kd.R_below HO.out (below_alloc (by repeat (first | (with_reducible exact Below.refl _ _) | refine below_alloc ?_ _ | refine below_drew ?_ | refine below_step ?_ (by assumption))) _)⟩, ⟨Kd.R_below HR.out (below_alloc (by repeat (first | (with_reducible exact Below.refl _ _) | refine below_alloc ?_ _ | refine below_drew ?_ | refine below_step ?_ (by assumption))) _)⟩⟩
                    | exact ⟨_, _, l2, x2, rfl, rfl, ⟨(finC (HL.out.step (by repeat (first | (with_reducible exact Below.refl _ _) | refine below_alloc ?_ _ | refine below_drew ?_ | refine below_step ?_ (by assumption)))) (by repeat (first | (with_reducible exact Below.refl _ _) | refine below_alloc ?_ _ | refine below_drew ?_ | refine below_step ?_ (by assumption))) hg).1⟩, ⟨(finC (HL.out.step (by repeat (first | (with_reducible exact Below.refl _ _) | refine below_alloc ?_ _ | refine below_drew ?_ | refine below_step ?_ (by assumption)))) (by repeat (first | (with_reducible exact Below.refl _ _) | refine below_alloc ?_ _ | refine below_drew ?_ | refine below_step ?_ (by assumption))) hg).2.less (Nat.zero_le _)⟩, ⟨HE.out.trans he⟩, ⟨hv⟩, ⟨he.le⟩, ⟨finCR (HL.out.step (by repeat (first | (with_reducible exact Below.refl _ _) | refine below_alloc ?_ _ | refine below_drew ?_ | refine below_step ?_ (by assumption)))) (by repeat (first | (with_reducible exact Below.refl _ _) | refine below_alloc ?_ _ | refine below_drew ?_ | refine below_step ?_ (by assumption))) (Kd.R_below HO.out (by repeat (first | (with_reducible exact Below.refl _ _) | refine below_alloc ?_ _ | refine below_drew ?_ | refine below_step ?_ (by assumption)))) (by decide)⟩, ⟨finCR (HL.out.step (by repeat (first | (with_reducible exact Below.refl _ _) | refine below_alloc ?_ _ | refine below_drew ?_ | refine below_step ?_ (by assumption)))) (by repeat (first | (with_reducible exact Below.refl _ _) | refine below_alloc ?_ _ | refine below_drew ?_ | refine below_step ?_ (by assumption))) (Kd.R_below HR.out (by repeat (first | (with_reducible exact Below.refl _ _) | refine below_alloc ?_ _ | refine below_drew ?_ | refine below_step ?_ (by assumption)))) (by decide)⟩⟩
              case rest =>
                clear k0 k1 KS HL HG HE HO HR ha1 hb1 hw
                obtain ⟨g13, v3, l3, x3, rfl, rfl, HL, HG, HE, HV3, HLE3, HO, HR⟩ := hcut
                obtain ⟨A3, c3, rfl, _⟩ := HG.out.slice
                go_wp2_with (first
                    | ((with_reducible refine zg 50 rfl ?_); refine zl 0 30 (.tmp 13) HL hu30 ?_)
                    | ((with_reducible refine zst 30 (.tmp 3) (.tmp 50) rfl ?_); refine zs 2 0 30 (.tmp 3) (.tmp 50) [.int .i64 ins, .slice A3 l3.length c3] HL ?_; intro w1_ HLn hfar; replace HG := am (HG.out.far HL.out 2 rfl hfar); replace HO := am (Rfar HO.out HL.out 2 rfl hfar); replace HR := am (Rfar HR.out HL.out 2 rfl hfar); replace HL := HLn; clear HLn hfar))
                go_meet
                exact ⟨_, l3, x3, rfl, ⟨HL.out.drop⟩, HG, ⟨HE.out⟩, HV3, ⟨by have := HE.out; exact HLE3.out⟩, HO, HR⟩
            | false =>
              go_wp2_with (fail)
              go_meet
              exact ⟨_, l2, 0, rfl, HL, HG, ⟨HE.out.mono (by omega)⟩, ⟨by omega, by omega⟩, ⟨Nat.le_refl _⟩, HO, HR⟩
          case rest =>
            clear HL HG HE HO HR
            obtain ⟨v3, l3, x3, rfl, HL, HG, HE, HV3, hle3, HO, HR⟩ := hcut
            obtain ⟨A3, c3, rfl, _⟩ := HG.out.slice
            replace HOS := am (HOS.out.up hle3.out)
            replace HRS := am (HRS.out.up hle3.out)
            go_wp2_with (first | ((with_reducible refine zg 55 rfl ?_); refine zap2 (Kd.int .i64) (.tmp 52) (.tmp 54) 66 3 x3 [.int .i64 x3] HL HR Try.underlying66 info3 rfl (by have := HRL.out; omega) ?_; intro v9_ w9_ HR9 HL9 hg_ hat; replace HO := am (R_beside HO.out hg_ hat); obtain ⟨rs2, hr2⟩ : ∃ z, rs ++ [x3] = z := ⟨_, rfl⟩; rw [hr2] at HR9; have HRE := am hr2; clear hr2; obtain ⟨A9, c9, rfl⟩ := Kd.R_slice HR9.out; replace HG := am (HG.out.other HR.out hg_); replace HL := HL9; replace HR := HR9; clear HR9 HL9 hg_ hat))
            go_roundw
            case rel => exact ⟨k + 1, _, l3, rs2, by go_num, by omega, ⟨by rw [← HRE.out, List.length_append, HRL.out]; rfl⟩, HL, HG, HE, HO, HR, HOS, ⟨by rw [← HRE.out]; exact HRS.out.snoc HV3.out⟩⟩
            case measure => simp [intOf]; omega
        · obtain rfl : k = xs.length := by omega
          go_wp2_with (first
              | ((with_reducible refine zg 57 rfl ?_); refine zl 1 30 (.tmp 3) HL hu30 ?_)
              | (go_at_call 96; refine (sum_any ins _ l2 AO cO os AR cR rs 0 _ (HG.out.more (by have := HM.out; have := HE.out.len; have := HOL.out; omega)) (Kd.R_reads' HO.out).2.2 (Kd.R_reads' HR.out).2.2 (by have := HOL.out; have := HRL.out; omega) (by have := HOL.out; omega) HOS.out HRS.out ⟨by omega, by omega⟩).mono ?_; rintro e we ⟨v3, l3, vz, zz, rfl, hg, he, hz, HZL, hzs, hb⟩; obtain ⟨A3, c3, rfl, _⟩ := hg.slice; obtain ⟨AZ, cZ, rfl⟩ := Kd.R_slice hz; replace HL := am (HL.out.step hb); replace HG := am hg; replace HE := am (HE.out.trans he); have HZ := am hz; have HZS := am hzs; replace HZL := am HZL; clear hg he hb hz hzs HO HR HOS HRS)
              | ((with_reducible refine zg 15 rfl ?_); refine zx 15 [.int .i64 0, .slice none 0 0] 30 HL ?_; clear HL; intro g15 w1_ HL hb_; replace HG := am (HG.out.step hb_); replace HZ := am (Kd.R_below HZ.out hb_); clear hb_)
              | ((with_reducible refine zst 30 (.tmp 15) (.tmp 61) rfl ?_); refine zs 0 0 30 (.tmp 15) (.tmp 61) [.int .i64 ins, .slice A3 l3.length c3] HL ?_; intro w2_ HLn hfar; replace HG := am (HG.out.far HL.out 0 rfl hfar); replace HZ := am (Rfar HZ.out HL.out 0 rfl hfar); replace HL := HLn; clear HLn hfar)
              | ((with_reducible refine zg 63 rfl ?_); refine zl 0 30 (.tmp 15) HL hu30 ?_)
              | ((with_reducible refine zst 30 (.tmp 3) (.tmp 63) rfl ?_); refine zs 2 0 30 (.tmp 3) (.tmp 63) [.int .i64 ins, .slice A3 l3.length c3] HL ?_; intro w3_ HLn hfar; replace HG := am (HG.out.far HL.out 2 rfl hfar); replace HZ := am (Rfar HZ.out HL.out 2 rfl hfar); replace HL := HLn; clear HLn hfar)
              | ((with_reducible refine zg 64 rfl ?_); refine zl0 (Kd.int .i64) 64 3 HL ?_; intro v4 w4 HN HLn hb; obtain ⟨A4, c4, rfl⟩ := Kd.R_slice HN.out; replace HG := am (HG.out.step hb); replace HZ := am (Kd.R_below HZ.out hb); replace HL := HLn; clear HLn hb)
              | ((with_reducible refine zg 66 rfl ?_); refine zaps (Kd.int .i64) (.tmp 64) (.tmp 65) 66 3 HL HN (Kd.R_reads' HZ.out).2.2 Try.underlying66 info3 (fun _ _ h => h) (by have := HZL.out; have := HOL.out; simp only [List.length_nil]; omega) ?_; intro v5 w5 HO5 HL5 hg; rw [List.nil_append] at HO5; obtain ⟨A5, c5, rfl⟩ := Kd.R_slice HO5.out; replace HG := am (HG.out.other HN.out hg); replace HL := HL5; clear HN HL5 hg))
          go_roundw
          case rel => exact ⟨i + 1, _, l3, zz, by go_num, by omega, ⟨HZL.out.trans HOL.out⟩, ⟨HL.out.drop⟩, HG, ⟨HE.out.mono (by have := HOL.out; omega)⟩, HO5, HZS⟩
          case measure => simp [intOf]; omega
    · obtain rfl : i = ys.length := by omega
      go_wp2_with (first
          | ((with_reducible refine zg 67 rfl ?_); refine zl 1 30 (.tmp 3) HL hu30 ?_)
          | ((with_reducible refine zst 30 (.tmp 6) (.tmp 67) rfl ?_); refine zs 0 0 30 (.tmp 6) (.tmp 67) [.int .i64 ins, .slice A' l'.length c'] HL ?_; intro w1_ HLn hfar; replace HG := am (HG.out.far HL.out 0 rfl hfar); replace HO := am (Rfar HO.out HL.out 0 rfl hfar); replace HL := HLn; clear HLn hfar))
      refine zret 0 6 7 30 HL hu30 ?_
      exact ⟨_, l', _, os, rfl, HG.out, HE.out, Kd.R_lower HO.out (Nat.zero_le _), HOL.out, HOS.out, HL.out.below⟩
end Go.Proofs.Yteilkojmefipcaa.U
