/- Scope: walks and plain laws of this seat's functions, merged out of smaller texts of this session (ScAg, ScAh, ScAi, ScAj, ScAk, ScAl, ScAm, ScAn). -/
import Derived.Test.YtnfhlhjbmcofoaaM11
import Derived.Test.YtnfhlhjbmcofoaaM06
import Derived.Test.YtnfhlhjbmcofoaaM04
namespace Go.Proofs.Ytnfhlhjbmcofoaa.S
open Go.RowKit Go.Proofs.YtnfhlhjbmcofoaaW.PrintWords Go.Proofs.YtnfhlhjbmcofoaaW.PrintLast
set_option linter.unusedVariables false
set_option linter.unusedSimpArgs false
def Sm1 (l : List S34) (m : S34) : Prop := l.length ≤ 70 ∧ m.f1.length ≤ 70 ∧ m.f2.length ≤ 70 ∧ m.f3.length ≤ 70
def RetF (l : List S34) (w : World) (e : Ending) (w' : World) : Prop := (∃ b, e = .returned (.bool b) ∧ (b = true → Sml l)) ∧ Below w.heap.size w w'
def Sm70 (l : List S34) : Prop := Sml l ∧ l.length ≤ 70
def RetG (l : List S34) (w : World) (e : Ending) (w' : World) : Prop := (∃ b, e = .returned (.bool b) ∧ (b = true → Sm70 l)) ∧ Below w.heap.size w w'
theorem retF {l : List S34} {w w' : World} {b : Bool} (h : b = true → Sm70 l) (hb : Below w.heap.size w w') : RetG l w (.returned (.bool b)) w' := ⟨⟨b, rfl, h⟩, hb⟩
set_option maxHeartbeats 64000000 in
set_option maxRecDepth 100000 in
theorem fits_any70 (A0 : Option Addr) (c0 : Nat) (l : List S34) (w : World) (h0 : Kd.C k34 w A0 l.length l) (hB : BL22 l) :
    Calls Try.prog 12 #[.agg #[.slice A0 l.length c0]] w (RetG l w) := by
  have HC := Aside0.mk h0
  have hm : l.length ≤ 9223372036854775807 := h0.2.1
  have HBB := Aside0.mk hB
  have HB : Aside0 (Below w.heap.size w w) := ⟨Below.refl _ _⟩
  clear h0 hB
  go_enter Try.func12, Try.ntmps12
  go_wp2_with (first | ((with_reducible refine gate_dst (N := 1) rfl ?_); refine box_event ?hg (N := 1) ?hd (cs := #[.slice A0 l.length c0]) (t := 24) ?hr ?_; (case hd => rfl); (case hg => rfl); (case hr => first | (go_simp; done) | (go_simp; rfl)); intro g1 hg_ w1 hbox_ hb_; have BK1 := Aside0.mk (hbox_); have GBK1 : Aside0 (w.heap.size ≤ g1) := ⟨by rw [hg_]; exact below_size HB.out⟩; replace HB : Aside0 (Below w.heap.size w w1) := ⟨below_step HB.out hb_⟩; clear hg_ hbox_ hb_))
  go_loopw [3, 4] (fun a b wr => ∃ (n : Nat) (v : Int), a = .int .i64 v ∧ b = .int .i64 (n : Int) ∧ n ≤ l.length ∧ Aside0 (∀ m ∈ l.take n, Sm1 l m) ∧ Aside0 (wr.heap[g1]? = some (.cells #[.slice A0 l.length c0] 24 (0, 0))) ∧ Aside0 (Below w.heap.size w wr)) (fun _ b _ => l.length - (intOf b).toNat)
  case atStart => exact ⟨0, _, rfl, rfl, Nat.zero_le _, ⟨by simp⟩, BK1, HB⟩
  case round =>
    clear BK1 HB
    obtain ⟨n, v, rfl, rfl, hn, HI, BK1, HB⟩ := hrel
    have hk1 : wr.cell? ⟨g1, 0, none⟩ = some (.slice A0 l.length c0) := blk_cell BK1.out 0
    by_cases hlt : n < l.length
    rotate_left
    · have HE : Aside0 (Sm70 l) := ⟨by
        obtain rfl : n = l.length := by omega
        have hi := HI.out
        rw [List.take_length] at hi
        have h70 : l.length ≤ 70 := by
          by_cases hl : l.length = 0
          · omega
          · have := (hi l[0] (List.getElem_mem (by omega))).1; omega
        refine ⟨⟨by omega, fun m hm => ?_⟩, h70⟩
        obtain ⟨h1, h2, h3, h4⟩ := hi m hm
        exact ⟨by omega, by omega, by omega⟩⟩
      go_wp2
      all_goals (go_ret; exact retF (fun _ => HE.out) HB.out)
    have hi0 : (0 : Int) ≤ (n : Int) := by omega
    have hi1 : (n : Int) < (l.length : Int) := by omega
    by_cases hv : (0 : Int) < v
    rotate_left
    · go_wp2
      all_goals (go_ret; exact retF (fun h => by simp at h) HB.out)
    obtain ⟨ad2, cm, rfl, hKm, hcm⟩ := el_get HC.out n hlt
    have hb34 : B34 l[n] := HBB.out.2 _ (List.getElem_mem hlt)
    have HST : Aside0 (Sm1 l l[n] → ∀ m ∈ l.take (n + 1), Sm1 l m) := ⟨fun hs m hm => by
      rw [List.take_succ_eq_append_getElem hlt] at hm
      rcases List.mem_append.1 hm with hm | hm
      · exact HI.out m hm
      · rw [List.mem_singleton.1 hm]; exact hs⟩
    obtain ⟨m, hm⟩ : ∃ m, l[n] = m := ⟨_, rfl⟩
    rw [hm] at hKm hb34 HST
    obtain ⟨M1, d1, M2, d2, M3, d3, rfl, hq1, hC1, hq2, hC2, hq3, hC3⟩ := k34_open hKm
    have HMC := Aside0.mk hcm
    have HM1 := Aside0.mk hC1
    have HM2 := Aside0.mk hC2
    have HM3 := Aside0.mk hC3
    have hm1 : m.f1.length ≤ 9223372036854775807 := hC1.2.1
    have hm2 : m.f2.length ≤ 9223372036854775807 := hC2.2.1
    have hm3 : m.f3.length ≤ 9223372036854775807 := hC3.2.1
    have H34 := Aside0.mk hb34
    clear hKm hcm hm hq1 hC1 hq2 hC2 hq3 hC3 hb34 HI
    by_cases hs : Sm1 l m
    rotate_left
    · have hneg : (70 : Int) < (l.length : Int) ∨ (70 : Int) < (m.f1.length : Int) ∨ (70 : Int) < (m.f2.length : Int) ∨ (70 : Int) < (m.f3.length : Int) := by unfold Sm1 at hs; omega
      clear hs HST
      rcases hneg with h | h | h | h
      all_goals (
        go_wp2_with (first | ((with_reducible refine gate_dst (N := 24) rfl ?_); refine wpList_load_cells rfl 34 (.tmp 23) rfl _ rfl [.string m.f0, .slice M1 m.f1.length d1, .slice M2 m.f2.length d2, .slice M3 m.f3.length d3] ?hc _ Try.underlying34 rfl ?hq9 ?_; (case hc => exact HMC.out _ HB.out); (case hq9 => kernel_rfl)) | ((with_reducible refine gate_dst (N := 5) rfl ?_); refine box_event ?hg (N := 5) ?hd (cs := #[.string ⟨#[]⟩, .slice none 0 0, .slice none 0 0, .slice none 0 0]) (t := 34) ?hr ?_; (case hd => rfl); (case hg => rfl); (case hr => first | (go_simp; done) | (go_simp; rfl)); intro g5 hg_ w50 hbox_ hb_; replace BK1 := Aside0.mk (blk_below BK1.out hb_); have BZg5 := Aside0.mk (hbox_); have GBZg5 : Aside0 (w.heap.size ≤ g5) := ⟨by rw [hg_]; exact below_size HB.out⟩; replace HB : Aside0 (Below w.heap.size w w50) := ⟨below_step HB.out hb_⟩; have HVg5 : Aside0 (wr.heap.size ≤ g5 ∧ Below wr.heap.size wr w50) := ⟨Nat.le_of_eq hg_.symm, hb_⟩; clear hg_ hbox_ hb_) | ((with_reducible refine gate_ (.store 34 (.tmp 5) (.tmp 24)) rfl ?_); refine wpList_store_box rfl rfl 34 (.tmp 5) (.tmp 24) rfl (g := g5) (e := 34) [.string m.f0, .slice M1 m.f1.length d1, .slice M2 m.f2.length d2, .slice M3 m.f3.length d3] rfl rfl BZg5.out rfl ?hq9 ?h1 ?_; (case hq9 => kernel_rfl); (case h1 => simp [Value.oneCell']); intro w5 hbx_ hfar_ hsz_ hbel_; replace BK1 := Aside0.mk ((hfar_ _ (blk_ne BK1.out BZg5.out (by decide))).trans BK1.out); have BK5 := Aside0.mk (hbx_); replace HB : Aside0 (Below w.heap.size w w5) := ⟨hbel_ _ GBZg5.out w HB.out⟩; have hk1 : w5.cell? ⟨g1, 0, none⟩ = some (.slice (some ad2) l.length c0) := blk_cell BK1.out 0; have hk50 : w5.cell? ⟨g5, 0, none⟩ = some (.string m.f0) := blk_cell hbx_ 0; have hk51 : w5.cell? ⟨g5, 1, none⟩ = some (.slice M1 m.f1.length d1) := blk_cell hbx_ 1; have hk52 : w5.cell? ⟨g5, 2, none⟩ = some (.slice M2 m.f2.length d2) := blk_cell hbx_ 2; have hk53 : w5.cell? ⟨g5, 3, none⟩ = some (.slice M3 m.f3.length d3) := blk_cell hbx_ 3; clear HVg5 hbx_ hfar_ hsz_ hbel_ BZg5))
        all_goals (go_ret; exact retF (fun h => by simp at h) HB.out))
    have HSS := Aside0.mk (HST.out hs)
    obtain ⟨s1, s2, s3, s4⟩ := hs
    clear HST
    by_cases hnm : (60 : Int) < (m.f0.size : Int)
    · go_wp2_with (first | ((with_reducible refine gate_dst (N := 24) rfl ?_); refine wpList_load_cells rfl 34 (.tmp 23) rfl _ rfl [.string m.f0, .slice M1 m.f1.length d1, .slice M2 m.f2.length d2, .slice M3 m.f3.length d3] ?hc _ Try.underlying34 rfl ?hq9 ?_; (case hc => exact HMC.out _ HB.out); (case hq9 => kernel_rfl)) | ((with_reducible refine gate_dst (N := 5) rfl ?_); refine box_event ?hg (N := 5) ?hd (cs := #[.string ⟨#[]⟩, .slice none 0 0, .slice none 0 0, .slice none 0 0]) (t := 34) ?hr ?_; (case hd => rfl); (case hg => rfl); (case hr => first | (go_simp; done) | (go_simp; rfl)); intro g5 hg_ w50 hbox_ hb_; replace BK1 := Aside0.mk (blk_below BK1.out hb_); have BZg5 := Aside0.mk (hbox_); have GBZg5 : Aside0 (w.heap.size ≤ g5) := ⟨by rw [hg_]; exact below_size HB.out⟩; replace HB : Aside0 (Below w.heap.size w w50) := ⟨below_step HB.out hb_⟩; have HVg5 : Aside0 (wr.heap.size ≤ g5 ∧ Below wr.heap.size wr w50) := ⟨Nat.le_of_eq hg_.symm, hb_⟩; clear hg_ hbox_ hb_) | ((with_reducible refine gate_ (.store 34 (.tmp 5) (.tmp 24)) rfl ?_); refine wpList_store_box rfl rfl 34 (.tmp 5) (.tmp 24) rfl (g := g5) (e := 34) [.string m.f0, .slice M1 m.f1.length d1, .slice M2 m.f2.length d2, .slice M3 m.f3.length d3] rfl rfl BZg5.out rfl ?hq9 ?h1 ?_; (case hq9 => kernel_rfl); (case h1 => simp [Value.oneCell']); intro w5 hbx_ hfar_ hsz_ hbel_; replace BK1 := Aside0.mk ((hfar_ _ (blk_ne BK1.out BZg5.out (by decide))).trans BK1.out); have BK5 := Aside0.mk (hbx_); replace HB : Aside0 (Below w.heap.size w w5) := ⟨hbel_ _ GBZg5.out w HB.out⟩; have hk1 : w5.cell? ⟨g1, 0, none⟩ = some (.slice (some ad2) l.length c0) := blk_cell BK1.out 0; have hk50 : w5.cell? ⟨g5, 0, none⟩ = some (.string m.f0) := blk_cell hbx_ 0; have hk51 : w5.cell? ⟨g5, 1, none⟩ = some (.slice M1 m.f1.length d1) := blk_cell hbx_ 1; have hk52 : w5.cell? ⟨g5, 2, none⟩ = some (.slice M2 m.f2.length d2) := blk_cell hbx_ 2; have hk53 : w5.cell? ⟨g5, 3, none⟩ = some (.slice M3 m.f3.length d3) := blk_cell hbx_ 3; clear HVg5 hbx_ hfar_ hsz_ hbel_ BZg5))
      all_goals (go_ret; exact retF (fun h => by simp at h) HB.out)
    go_wp2_with (first | ((with_reducible refine gate_dst (N := 24) rfl ?_); refine wpList_load_cells rfl 34 (.tmp 23) rfl _ rfl [.string m.f0, .slice M1 m.f1.length d1, .slice M2 m.f2.length d2, .slice M3 m.f3.length d3] ?hc _ Try.underlying34 rfl ?hq9 ?_; (case hc => exact HMC.out _ HB.out); (case hq9 => kernel_rfl)) | ((with_reducible refine gate_dst (N := 5) rfl ?_); refine box_event ?hg (N := 5) ?hd (cs := #[.string ⟨#[]⟩, .slice none 0 0, .slice none 0 0, .slice none 0 0]) (t := 34) ?hr ?_; (case hd => rfl); (case hg => rfl); (case hr => first | (go_simp; done) | (go_simp; rfl)); intro g5 hg_ w50 hbox_ hb_; replace BK1 := Aside0.mk (blk_below BK1.out hb_); have BZg5 := Aside0.mk (hbox_); have GBZg5 : Aside0 (w.heap.size ≤ g5) := ⟨by rw [hg_]; exact below_size HB.out⟩; replace HB : Aside0 (Below w.heap.size w w50) := ⟨below_step HB.out hb_⟩; have HVg5 : Aside0 (wr.heap.size ≤ g5 ∧ Below wr.heap.size wr w50) := ⟨Nat.le_of_eq hg_.symm, hb_⟩; clear hg_ hbox_ hb_) | ((with_reducible refine gate_ (.store 34 (.tmp 5) (.tmp 24)) rfl ?_); refine wpList_store_box rfl rfl 34 (.tmp 5) (.tmp 24) rfl (g := g5) (e := 34) [.string m.f0, .slice M1 m.f1.length d1, .slice M2 m.f2.length d2, .slice M3 m.f3.length d3] rfl rfl BZg5.out rfl ?hq9 ?h1 ?_; (case hq9 => kernel_rfl); (case h1 => simp [Value.oneCell']); intro w5 hbx_ hfar_ hsz_ hbel_; replace BK1 := Aside0.mk ((hfar_ _ (blk_ne BK1.out BZg5.out (by decide))).trans BK1.out); have BK5 := Aside0.mk (hbx_); replace HB : Aside0 (Below w.heap.size w w5) := ⟨hbel_ _ GBZg5.out w HB.out⟩; have hk1 : w5.cell? ⟨g1, 0, none⟩ = some (.slice (some ad2) l.length c0) := blk_cell BK1.out 0; have hk50 : w5.cell? ⟨g5, 0, none⟩ = some (.string m.f0) := blk_cell hbx_ 0; have hk51 : w5.cell? ⟨g5, 1, none⟩ = some (.slice M1 m.f1.length d1) := blk_cell hbx_ 1; have hk52 : w5.cell? ⟨g5, 2, none⟩ = some (.slice M2 m.f2.length d2) := blk_cell hbx_ 2; have hk53 : w5.cell? ⟨g5, 3, none⟩ = some (.slice M3 m.f3.length d3) := blk_cell hbx_ 3; clear HVg5 hbx_ hfar_ hsz_ hbel_ BZg5))
    clear hk1 hk50 hk51 hk52 hk53
    go_loopw [6] (fun b wr => ∃ (j : Nat), b = .int .i64 (j : Int) ∧ j ≤ m.f1.length ∧ Aside0 (wr.heap[g1]? = some (.cells #[.slice (some ad2) l.length c0] 24 (0, 0))) ∧ Aside0 (wr.heap[g5]? = some (.cells #[.string m.f0, .slice M1 m.f1.length d1, .slice M2 m.f2.length d2, .slice M3 m.f3.length d3] 34 (0, 0))) ∧ Aside0 (Below w.heap.size w wr)) (fun b _ => m.f1.length - (intOf b).toNat)
    case atStart => exact ⟨0, rfl, Nat.zero_le _, BK1, BK5, HB⟩
    case round =>
      clear BK1 BK5 HB
      obtain ⟨j, rfl, hj, BK1, BK5, HB⟩ := hrel
      have hk51 : wr.cell? ⟨g5, 1, none⟩ = some (.slice M1 m.f1.length d1) := blk_cell BK5.out 1
      by_cases hjl : j < m.f1.length
      · have hj0 : (0 : Int) ≤ (j : Int) := by omega
        have hj1 : (j : Int) < (m.f1.length : Int) := by omega
        obtain ⟨ad, cx, rfl, hKx, hcx⟩ := el_get (Kd.C_below HM1.out HB.out) j hjl
        obtain rfl := hKx
        have hx0 : wr.cell? (ad.add j) = some (.string m.f1[j]) := by simpa [Kd.string, Kd.scalar, Addr.add] using hcx wr (Below.refl _ _) 0 _ rfl
        generalize m.f1[j] = nm at hx0
        clear hcx
        go_wp2
        all_goals first
          | (go_ret; exact retF (fun h => by simp at h) HB.out)
          | (go_roundw
             case rel => exact ⟨j + 1, by go_num, by omega, BK1, BK5, HB⟩
             case measure => simp [intOf]; omega)
      · clear hk51
        have hj2 : ¬ (j : Int) < (m.f1.length : Int) := by omega
        have hk51 : wr.cell? ⟨g5, 1, none⟩ = some (.slice M1 m.f1.length d1) := blk_cell BK5.out 1
        go_wp2
        clear hk51 hj2
        go_loopw [7] (fun b wr => ∃ (j : Nat), b = .int .i64 (j : Int) ∧ j ≤ m.f2.length ∧ Aside0 (wr.heap[g1]? = some (.cells #[.slice (some ad2) l.length c0] 24 (0, 0))) ∧ Aside0 (wr.heap[g5]? = some (.cells #[.string m.f0, .slice M1 m.f1.length d1, .slice M2 m.f2.length d2, .slice M3 m.f3.length d3] 34 (0, 0))) ∧ Aside0 (Below w.heap.size w wr)) (fun b _ => m.f2.length - (intOf b).toNat)
        case atStart => exact ⟨0, rfl, Nat.zero_le _, BK1, BK5, HB⟩
        case round =>
          clear BK1 BK5 HB
          obtain ⟨j, rfl, hj, BK1, BK5, HB⟩ := hrel
          have hk52 : wr.cell? ⟨g5, 2, none⟩ = some (.slice M2 m.f2.length d2) := blk_cell BK5.out 2
          by_cases hjl : j < m.f2.length
          · have hj0 : (0 : Int) ≤ (j : Int) := by omega
            have hj1 : (j : Int) < (m.f2.length : Int) := by omega
            have hb59 : B59 m.f2[j] := H34.out.2.2.1.2 _ (List.getElem_mem hjl)
            obtain ⟨ad, rfl, hx0, hx1, hx2, hx3⟩ := at59 (Kd.C_below HM2.out HB.out) j hjl
            obtain ⟨_, hz1, ⟨hz2, _⟩⟩ := hb59
            generalize m.f2[j].f0 = x0 at hx0
            generalize m.f2[j].f1 = x1 at hx1 hz1
            generalize m.f2[j].f2.f0 = x2 at hx2 hz2
            clear hx3 hx0
            by_cases hq : (120 : Int) < (x1.size : Int) + (x2.size : Int)
            all_goals (
              go_wp2
              go_quiet (fail)
              generalize hgw : World.drewN _ _ = wq
              replace BK1 : Aside0 (wq.heap[g1]? = some (.cells #[.slice (some ad2) l.length c0] 24 (0, 0))) := ⟨by rw [← hgw]; exact BK1.out⟩
              replace BK5 : Aside0 (wq.heap[g5]? = some (.cells #[.string m.f0, .slice M1 m.f1.length d1, .slice (some ad) m.f2.length d2, .slice M3 m.f3.length d3] 34 (0, 0))) := ⟨by rw [← hgw]; exact BK5.out⟩
              replace HB : Aside0 (Below w.heap.size w wq) := ⟨by rw [← hgw]; exact pw_below_drewN HB.out _⟩
              clear hgw hk52 hx1 hx2
              go_wp2
              first
                | (go_ret; exact retF (fun h => by simp at h) HB.out)
                | (go_roundw
                   case rel => exact ⟨j + 1, by go_num, by omega, BK1, BK5, HB⟩
                   case measure => simp [intOf]; omega))
          · have hj2 : ¬ (j : Int) < (m.f2.length : Int) := by omega
            go_wp2
            clear hk52 hj2
            go_loopw [3, 8] (fun a b wr => ∃ (j : Nat) (v : Int), a = .int .i64 v ∧ b = .int .i64 (j : Int) ∧ j ≤ m.f3.length ∧ Aside0 (wr.heap[g1]? = some (.cells #[.slice (some ad2) l.length c0] 24 (0, 0))) ∧ Aside0 (wr.heap[g5]? = some (.cells #[.string m.f0, .slice M1 m.f1.length d1, .slice M2 m.f2.length d2, .slice M3 m.f3.length d3] 34 (0, 0))) ∧ Aside0 (Below w.heap.size w wr)) (fun _ b _ => m.f3.length - (intOf b).toNat)
            case atStart => exact ⟨0, v, rfl, rfl, Nat.zero_le _, BK1, BK5, HB⟩
            case round =>
              clear BK1 BK5 HB hv
              obtain ⟨j, v, rfl, rfl, hj, BK1, BK5, HB⟩ := hrel
              have hk53 : wr.cell? ⟨g5, 3, none⟩ = some (.slice M3 m.f3.length d3) := blk_cell BK5.out 3
              by_cases hgo : j < m.f3.length ∧ (0 : Int) < v
              · obtain ⟨hjl, hv⟩ := hgo
                have hj0 : (0 : Int) ≤ (j : Int) := by omega
                have hj1 : (j : Int) < (m.f3.length : Int) := by omega
                obtain ⟨ad, cx, rfl, hKx, hcx⟩ := el_get (Kd.C_below HM3.out HB.out) j hjl
                have hb49 : B49 m.f3[j] := H34.out.2.2.2.2 _ (List.getElem_mem hjl)
                obtain ⟨x, hx⟩ : ∃ x, m.f3[j] = x := ⟨_, rfl⟩
                rw [hx] at hKx hb49
                have KL := Aside0.mk (fun cs z w' hk => litem_any x cs z w' hk hb49)
                obtain ⟨X7, y7, X8, y8, X19, y19, X30, y30, X41, y41, rfl, _⟩ := k49_open hKx
                have HXK := Aside0.mk hKx
                have HXC := Aside0.mk hcx
                clear hKx hcx hx hb49
                go_wp2_with (first | ((with_reducible refine gate_dst (N := 106) rfl ?_); refine wpList_load_cells rfl 49 (.tmp 105) rfl _ rfl [.int .i64 x.f0, .string x.f1, .string x.f2.f0, .int .i64 x.f2.f1, .string x.f3.f0, .int .i64 x.f3.f1, .string x.f4, .slice X7 x.f5.length y7, .slice X8 x.f6.length y8, .int .i64 x.f7.f0, .string x.f7.f1.f0, .int .i64 x.f7.f1.f1, .string x.f7.f2.f0, .int .i64 x.f7.f2.f1, .string x.f7.f3.f0, .int .i64 x.f7.f3.f1, .string x.f7.f4.f0, .int .i64 x.f7.f4.f1, .string x.f7.f5, .slice X19 x.f7.f6.length y19, .int .i64 x.f8.f0, .string x.f8.f1.f0, .int .i64 x.f8.f1.f1, .string x.f8.f2.f0, .int .i64 x.f8.f2.f1, .string x.f8.f3.f0, .int .i64 x.f8.f3.f1, .string x.f8.f4.f0, .int .i64 x.f8.f4.f1, .string x.f8.f5, .slice X30 x.f8.f6.length y30, .int .i64 x.f9.f0, .string x.f9.f1.f0, .int .i64 x.f9.f1.f1, .string x.f9.f2.f0, .int .i64 x.f9.f2.f1, .string x.f9.f3.f0, .int .i64 x.f9.f3.f1, .string x.f9.f4.f0, .int .i64 x.f9.f4.f1, .string x.f9.f5, .slice X41 x.f9.f6.length y41] ?hc _ Try.underlying49 rfl ?hq9 ?_; (case hc => exact HXC.out _ (Below.refl _ _)); (case hq9 => kernel_rfl)))
                refine (KL.out _ _ _ HXK.out).mono ?_
                rintro e we ⟨⟨z, rfl⟩, hb⟩
                replace BK1 := Aside0.mk (blk_below BK1.out hb)
                replace BK5 := Aside0.mk (blk_below BK5.out hb)
                replace HB := Aside0.mk (below_step HB.out hb)
                clear hb
                clear hk53
                go_wp2
                go_roundw
                case rel => exact ⟨j + 1, z, rfl, by go_num, by omega, BK1, BK5, HB⟩
                case measure => simp [intOf]; omega
              · have hcs : (j : Int) < (m.f3.length : Int) ∧ v ≤ 0 ∨ (m.f3.length : Int) ≤ (j : Int) := by
                  by_cases h1 : j < m.f3.length
                  · exact .inl ⟨by omega, by by_cases h2 : (0 : Int) < v; · exact absurd ⟨h1, h2⟩ hgo
                                             · omega⟩
                  · exact .inr (by omega)
                clear hgo
                rcases hcs with ⟨hcs1, hcs2⟩ | hcs
                all_goals (
                  go_wp2
                  go_roundw
                  case rel => exact ⟨n + 1, v, rfl, by go_num, by omega, HSS, BK1, HB⟩
                  case measure => simp [intOf]; omega)
theorem fits_any (A0 : Option Addr) (c0 : Nat) (l : List S34) (w : World) (h0 : Kd.C k34 w A0 l.length l) (hB : BL22 l) :
    Calls Try.prog 12 #[.agg #[.slice A0 l.length c0]] w (RetF l w) :=
  (fits_any70 A0 c0 l w h0 hB).mono fun e w' ⟨⟨b, he, hs⟩, hb⟩ => ⟨⟨b, he, fun h => (hs h).1⟩, hb⟩
def refE (s : ByteArray) : S47 := ⟨2, ⟨⟨#[]⟩, 0⟩, ⟨⟨#[]⟩, 0⟩, ⟨⟨#[]⟩, 0⟩, ⟨⟨#[]⟩, 0⟩, s, []⟩
def oneE : S47 := ⟨1, ⟨⟨#[]⟩, 1⟩, ⟨⟨#[]⟩, 1⟩, ⟨⟨#[]⟩, 0⟩, ⟨⟨#[]⟩, 0⟩, ⟨#[]⟩, []⟩
set_option maxHeartbeats 4000000 in
theorem ref_law (s : ByteArray) (w : World) : Calls Try.prog 22 #[.string s] w fun e w' => e = .returned (.agg #[.int .i64 2, .string ⟨#[]⟩, .int .i64 0, .string ⟨#[]⟩, .int .i64 0, .string ⟨#[]⟩, .int .i64 0, .string ⟨#[]⟩, .int .i64 0, .string s, .slice none 0 0]) ∧ Below w.heap.size w w' := by
  have HB : Aside0 (Below w.heap.size w w) := ⟨Below.refl _ _⟩
  go_enter Try.func22, Try.ntmps22
  go_wp2_with (first | ((with_reducible refine gate_dst (N := 2) rfl ?_); refine box_event ?hg (N := 2) ?hd (cs := #[.int .i64 0, .string ⟨#[]⟩, .int .i64 0, .string ⟨#[]⟩, .int .i64 0, .string ⟨#[]⟩, .int .i64 0, .string ⟨#[]⟩, .int .i64 0, .string ⟨#[]⟩, .slice none 0 0]) (t := 47) ?hr ?_; (case hd => rfl); (case hg => rfl); (case hr => first | (go_simp; done) | (go_simp; rfl)); intro g2 hg_ w2 hbox_ hb_; have BZ2 := Aside0.mk (hbox_); have GBZ2 : Aside0 (w.heap.size ≤ g2) := ⟨by rw [hg_]; exact below_size HB.out⟩; replace HB : Aside0 (Below w.heap.size w w2) := ⟨below_step HB.out hb_⟩; clear hg_ hbox_ hb_) | ((with_reducible refine gate_ (.store 47 (.tmp 2) (.tmp 4)) rfl ?_); refine wpList_store_box rfl rfl 47 (.tmp 2) (.tmp 4) rfl (g := g2) (e := 47) [.int .i64 2, .string ⟨#[]⟩, .int .i64 0, .string ⟨#[]⟩, .int .i64 0, .string ⟨#[]⟩, .int .i64 0, .string ⟨#[]⟩, .int .i64 0, .string s, .slice none 0 0] rfl rfl BZ2.out rfl ?hq9 ?h1 ?_; (case hq9 => kernel_rfl); (case h1 => simp [Value.oneCell']); intro w3 hbx_ hfar_ hsz_ hbel_; have BK2 := Aside0.mk (hbx_); replace HB : Aside0 (Below w.heap.size w w3) := ⟨hbel_ _ GBZ2.out w HB.out⟩; clear hbx_ hfar_ hsz_ hbel_ BZ2))
  refine bodyPost_ret (results_cell_row rfl _ _ g2 47 #[.int .i64 2, .string ⟨#[]⟩, .int .i64 0, .string ⟨#[]⟩, .int .i64 0, .string ⟨#[]⟩, .int .i64 0, .string ⟨#[]⟩, .int .i64 0, .string s, .slice none 0 0] (0, 0) _ rfl BK2.out Try.underlying47 rfl (by kernel_rfl)) rfl ?_
  exact ⟨rfl, HB.out⟩
set_option maxHeartbeats 4000000 in
theorem one_law (w : World) : Calls Try.prog 38 #[] w fun e w' => e = .returned (.agg #[.int .i64 1, .string ⟨#[]⟩, .int .i64 1, .string ⟨#[]⟩, .int .i64 1, .string ⟨#[]⟩, .int .i64 0, .string ⟨#[]⟩, .int .i64 0, .string ⟨#[]⟩, .slice none 0 0]) ∧ Below w.heap.size w w' := by
  have HB : Aside0 (Below w.heap.size w w) := ⟨Below.refl _ _⟩
  go_enter Try.func38, Try.ntmps38
  go_wp2_with (first | ((with_reducible refine gate_dst (N := 0) rfl ?_); refine box_event ?hg (N := 0) ?hd (cs := #[.int .i64 0, .string ⟨#[]⟩, .int .i64 0, .string ⟨#[]⟩, .int .i64 0, .string ⟨#[]⟩, .int .i64 0, .string ⟨#[]⟩, .int .i64 0, .string ⟨#[]⟩, .slice none 0 0]) (t := 47) ?hr ?_; (case hd => rfl); (case hg => rfl); (case hr => first | (go_simp; done) | (go_simp; rfl)); intro g2 hg_ w2 hbox_ hb_; have BZ2 := Aside0.mk (hbox_); have GBZ2 : Aside0 (w.heap.size ≤ g2) := ⟨by rw [hg_]; exact below_size HB.out⟩; replace HB : Aside0 (Below w.heap.size w w2) := ⟨below_step HB.out hb_⟩; clear hg_ hbox_ hb_) | ((with_reducible refine gate_ (.store 47 (.tmp 0) (.tmp 3)) rfl ?_); refine wpList_store_box rfl rfl 47 (.tmp 0) (.tmp 3) rfl (g := g2) (e := 47) [.int .i64 1, .string ⟨#[]⟩, .int .i64 1, .string ⟨#[]⟩, .int .i64 1, .string ⟨#[]⟩, .int .i64 0, .string ⟨#[]⟩, .int .i64 0, .string ⟨#[]⟩, .slice none 0 0] rfl rfl BZ2.out rfl ?hq9 ?h1 ?_; (case hq9 => kernel_rfl); (case h1 => simp [Value.oneCell']); intro w3 hbx_ hfar_ hsz_ hbel_; have BK2 := Aside0.mk (hbx_); replace HB : Aside0 (Below w.heap.size w w3) := ⟨hbel_ _ GBZ2.out w HB.out⟩; clear hbx_ hfar_ hsz_ hbel_ BZ2))
  refine bodyPost_ret (results_cell_row rfl _ _ g2 47 #[.int .i64 1, .string ⟨#[]⟩, .int .i64 1, .string ⟨#[]⟩, .int .i64 1, .string ⟨#[]⟩, .int .i64 0, .string ⟨#[]⟩, .int .i64 0, .string ⟨#[]⟩, .slice none 0 0] (0, 0) _ rfl BK2.out Try.underlying47 rfl (by kernel_rfl)) rfl ?_
  exact ⟨rfl, HB.out⟩
section
variable {P : Program} {ops : Array Oper} {rest : List Oper} {o : Oper} {a : Act} {Q : Exit → Act → World → Prop}
theorem wpList_store_at {W : World} (hN : o.dst = none) (hgd : o.guard = none) (t : TypeId) (p x : Operand) (ho : o.op = .store t p x) {g i : Nat} {e : TypeId} {cur : Array Value} (u : Value) (cs : List Value) (hu : u.cells.toList = cs) (hp : a.eval p = .pointer (some ⟨g, i, none⟩)) (hx : a.eval x = u)
    (hg : W.heap[g]? = some (.cells cur e (0, 0))) (hsz : i + cs.length ≤ cur.size) (ht : (P.info? t).map (·.size) = some cs.length) (h1 : ∀ q ∈ cs, q.oneCell' = true)
    (h : ∀ w1 cur', cur'.toList = cur.toList.take i ++ cs ++ cur.toList.drop (i + cs.length) → w1.heap[g]? = some (.cells cur' e (0, 0)) → (∀ k, k ≠ g → w1.heap[k]? = W.heap[k]?) → w1.heap.size = W.heap.size → (∀ B, B ≤ g → ∀ w0, Below B w0 W → Below B w0 w1) → wpList P ops Q rest a w1) : wpList P ops Q (o :: rest) a W := by
  have hrun := run_store_run (P := P) (w := W) (o := i) t u cs hg hu ht (by omega) h1
  obtain ⟨cur', h3, h4, h5⟩ := setCells_row cs i W cur hg (by omega)
  obtain ⟨s1, s2, s3, s4⟩ := setCells_same g cs i W
  have hfar := fun k hk => setCells_far (g := g) cs i (w := W) k hk
  refine wpList_plain hgd fun K hK => ?_
  unfold Oper.wp execOp
  simp only [ho, hp, hx, Sem.run_bind, Sem.run_pure, Result.andThen_ok, hrun]
  show K (a.put o.dst undef) _
  rw [hN]
  refine hK a _ (h _ cur' h5 h3 hfar s4 (fun B hB w0 hb => ⟨s1.trans hb.os, s2.trans hb.tape, s3.trans hb.output, by rw [s4]; exact hb.size, fun k hk => (hfar k (by omega)).trans (hb.block k hk)⟩))
theorem lit_event {W : World} (hgd : o.guard = none) {N : Tmp} (_hd : o.dst = some N) {cs : Array Value} {t : TypeId} {n : Nat}
    (hrun : (execOp a.eval o).run P W = .ok (.value (.slice (some ⟨W.heap.size, 0, none⟩) n n)) (W.alloc (.cells cs t (0, 0))))
    (h : ∀ g, g = W.heap.size → ∀ w1, w1.heap[g]? = some (.cells cs t (0, 0)) → Below W.heap.size W w1 → wpList P ops Q rest (a.put o.dst (.slice (some ⟨g, 0, none⟩) n n)) w1) : wpList P ops Q (o :: rest) a W :=
  Kd.event_run hgd hrun (h _ rfl _ (blk_new W _) (below_alloc (Below.refl _ _) _))
end
structure PairW (w w' : World) (gN gP gI gM gB gJ gD : Nat) : Prop where
  b : Below w.heap.size w w'
  ge : w.heap.size ≤ gN ∧ w.heap.size ≤ gP ∧ w.heap.size ≤ gI ∧ w.heap.size ≤ gM ∧ w.heap.size ≤ gB ∧ w.heap.size ≤ gJ ∧ w.heap.size ≤ gD
  ne : gI ≠ gJ
  hN : w'.heap[gN]? = some (.cells #[.string ⟨#[110]⟩] 9 (0, 0))
  hP : w'.heap[gP]? = some (.cells #[.bool true, .string ⟨#[97]⟩, .string ⟨#[110]⟩, .int .i64 0, .bool false, .string ⟨#[98]⟩, .string ⟨#[]⟩, .int .i64 1] 59 (0, 0))
  hI : w'.heap[gI]? = some (.cells #[.int .i64 4, .string ⟨#[98]⟩, .string ⟨#[]⟩, .int .i64 0, .string ⟨#[]⟩, .int .i64 0, .string ⟨#[]⟩, .slice none 0 0, .slice none 0 0, .int .i64 2, .string ⟨#[]⟩, .int .i64 0, .string ⟨#[]⟩, .int .i64 0, .string ⟨#[]⟩, .int .i64 0, .string ⟨#[]⟩, .int .i64 0, .string ⟨#[97]⟩, .slice none 0 0, .int .i64 0, .string ⟨#[]⟩, .int .i64 0, .string ⟨#[]⟩, .int .i64 0, .string ⟨#[]⟩, .int .i64 0, .string ⟨#[]⟩, .int .i64 0, .string ⟨#[]⟩, .slice none 0 0, .int .i64 0, .string ⟨#[]⟩, .int .i64 0, .string ⟨#[]⟩, .int .i64 0, .string ⟨#[]⟩, .int .i64 0, .string ⟨#[]⟩, .int .i64 0, .string ⟨#[]⟩, .slice none 0 0] 49 (0, 0))
  hM : w'.heap[gM]? = some (.cells #[.string ⟨#[]⟩, .int .i64 1] 42 (0, 0))
  hB : w'.heap[gB]? = some (.cells #[.string ⟨#[97]⟩, .int .i64 1, .string ⟨#[]⟩, .int .i64 1, .string ⟨#[]⟩, .int .i64 1, .string ⟨#[]⟩, .int .i64 0, .string ⟨#[]⟩, .int .i64 0, .string ⟨#[]⟩, .slice none 0 0] 64 (0, 0))
  hJ : w'.heap[gJ]? = some (.cells #[.int .i64 1, .string ⟨#[119]⟩, .string ⟨#[]⟩, .int .i64 1, .string ⟨#[]⟩, .int .i64 0, .string ⟨#[]⟩, .slice none 0 0, .slice none 0 0, .int .i64 2, .string ⟨#[]⟩, .int .i64 0, .string ⟨#[]⟩, .int .i64 0, .string ⟨#[]⟩, .int .i64 0, .string ⟨#[]⟩, .int .i64 0, .string ⟨#[118, 46, 98]⟩, .slice none 0 0, .int .i64 0, .string ⟨#[]⟩, .int .i64 0, .string ⟨#[]⟩, .int .i64 0, .string ⟨#[]⟩, .int .i64 0, .string ⟨#[]⟩, .int .i64 0, .string ⟨#[]⟩, .slice none 0 0, .int .i64 0, .string ⟨#[]⟩, .int .i64 0, .string ⟨#[]⟩, .int .i64 0, .string ⟨#[]⟩, .int .i64 0, .string ⟨#[]⟩, .int .i64 0, .string ⟨#[]⟩, .slice none 0 0, .int .i64 7, .string ⟨#[118]⟩, .string ⟨#[]⟩, .int .i64 0, .string ⟨#[]⟩, .int .i64 0, .string ⟨#[117]⟩, .slice (some ⟨gM, 0, none⟩) 1 1, .slice (some ⟨gB, 0, none⟩) 1 1, .int .i64 0, .string ⟨#[]⟩, .int .i64 0, .string ⟨#[]⟩, .int .i64 0, .string ⟨#[]⟩, .int .i64 0, .string ⟨#[]⟩, .int .i64 0, .string ⟨#[]⟩, .slice none 0 0, .int .i64 0, .string ⟨#[]⟩, .int .i64 0, .string ⟨#[]⟩, .int .i64 0, .string ⟨#[]⟩, .int .i64 0, .string ⟨#[]⟩, .int .i64 0, .string ⟨#[]⟩, .slice none 0 0, .int .i64 0, .string ⟨#[]⟩, .int .i64 0, .string ⟨#[]⟩, .int .i64 0, .string ⟨#[]⟩, .int .i64 0, .string ⟨#[]⟩, .int .i64 0, .string ⟨#[]⟩, .slice none 0 0, .int .i64 8, .string ⟨#[112]⟩, .string ⟨#[]⟩, .int .i64 0, .string ⟨#[]⟩, .int .i64 0, .string ⟨#[]⟩, .slice none 0 0, .slice none 0 0, .int .i64 2, .string ⟨#[]⟩, .int .i64 0, .string ⟨#[]⟩, .int .i64 0, .string ⟨#[]⟩, .int .i64 0, .string ⟨#[]⟩, .int .i64 0, .string ⟨#[119]⟩, .slice none 0 0, .int .i64 0, .string ⟨#[]⟩, .int .i64 0, .string ⟨#[]⟩, .int .i64 0, .string ⟨#[]⟩, .int .i64 0, .string ⟨#[]⟩, .int .i64 0, .string ⟨#[]⟩, .slice none 0 0, .int .i64 0, .string ⟨#[]⟩, .int .i64 0, .string ⟨#[]⟩, .int .i64 0, .string ⟨#[]⟩, .int .i64 0, .string ⟨#[]⟩, .int .i64 0, .string ⟨#[]⟩, .slice none 0 0] 49 (0, 0))
  hD : w'.heap[gD]? = some (.cells #[.string ⟨#[117]⟩, .slice (some ⟨gN, 0, none⟩) 1 1, .slice (some ⟨gP, 0, none⟩) 2 2, .slice (some ⟨gI, 0, none⟩) 1 1, .string ⟨#[116]⟩, .slice none 0 0, .slice none 0 0, .slice (some ⟨gJ, 0, none⟩) 3 3] 34 (0, 0))
set_option maxHeartbeats 64000000 in
set_option maxRecDepth 100000 in
theorem pair_law (w : World) : Calls Try.prog 24 #[] w fun e w' => ∃ gN gP gI gM gB gJ gD, Aside0 (e = .returned (.agg #[.slice (some ⟨gD, 0, none⟩) 2 2])) ∧ Aside0 (PairW w w' gN gP gI gM gB gJ gD) := by
  have HB : Aside0 (Below w.heap.size w w) := ⟨Below.refl _ _⟩
  go_enter Try.func24, Try.ntmps24
  go_wp2_with (first | ((with_reducible refine gate_dst (N := 0) rfl ?_); refine box_event ?hg (N := 0) ?hd (cs := #[.slice none 0 0]) (t := 24) ?hr ?_; (case hd => rfl); (case hg => rfl); (case hr => first | (go_simp; done) | (go_simp; rfl)); intro g0 hg_ wk1 hbox_ hb_; have BZ0 := Aside0.mk (hbox_); have GBZ0 : Aside0 (w.heap.size ≤ g0) := ⟨by rw [hg_]; exact below_size HB.out⟩; replace HB : Aside0 (Below w.heap.size w wk1) := ⟨below_step HB.out hb_⟩; clear hg_ hbox_ hb_) | ((with_reducible refine gate_dst (N := 3) rfl ?_); refine lit_event (n := 1) ?hg (N := 3) ?hd (cs := #[.string ⟨#[110]⟩]) (t := 9) ?hr ?_; (case hd => rfl); (case hg => rfl); (case hr => first | (go_simp; done) | (go_simp; rfl)); intro gN hg_ wk2 hbox_ hb_; replace BZ0 := Aside0.mk (blk_below BZ0.out hb_); have HN := Aside0.mk (hbox_); have GHN : Aside0 (w.heap.size ≤ gN) := ⟨by rw [hg_]; exact below_size HB.out⟩; replace HB : Aside0 (Below w.heap.size w wk2) := ⟨below_step HB.out hb_⟩; clear hg_ hbox_ hb_) | ((with_reducible refine gate_dst (N := 8) rfl ?_); refine lit_event (n := 2) ?hg (N := 8) ?hd (cs := #[.bool true, .string ⟨#[97]⟩, .string ⟨#[110]⟩, .int .i64 0, .bool false, .string ⟨#[98]⟩, .string ⟨#[]⟩, .int .i64 1]) (t := 59) ?hr ?_; (case hd => rfl); (case hg => rfl); (case hr => first | (go_simp; done) | (go_simp; rfl)); intro gP hg_ wk3 hbox_ hb_; replace BZ0 := Aside0.mk (blk_below BZ0.out hb_); replace HN := Aside0.mk (blk_below HN.out hb_); have HP := Aside0.mk (hbox_); have GHP : Aside0 (w.heap.size ≤ gP) := ⟨by rw [hg_]; exact below_size HB.out⟩; replace HB : Aside0 (Below w.heap.size w wk3) := ⟨below_step HB.out hb_⟩; clear hg_ hbox_ hb_))
  refine (ref_law _ _).mono ?_
  rintro e wk4 ⟨rfl, hb⟩
  replace BZ0 := Aside0.mk (blk_below BZ0.out hb)
  replace HN := Aside0.mk (blk_below HN.out hb)
  replace HP := Aside0.mk (blk_below HP.out hb)
  replace HB := Aside0.mk (below_step HB.out hb)
  clear hb

  go_wp2_with (first | ((with_reducible refine gate_dst (N := 11) rfl ?_); refine lit_event (n := 1) ?hg (N := 11) ?hd (cs := #[.int .i64 4, .string ⟨#[98]⟩, .string ⟨#[]⟩, .int .i64 0, .string ⟨#[]⟩, .int .i64 0, .string ⟨#[]⟩, .slice none 0 0, .slice none 0 0, .int .i64 2, .string ⟨#[]⟩, .int .i64 0, .string ⟨#[]⟩, .int .i64 0, .string ⟨#[]⟩, .int .i64 0, .string ⟨#[]⟩, .int .i64 0, .string ⟨#[97]⟩, .slice none 0 0, .int .i64 0, .string ⟨#[]⟩, .int .i64 0, .string ⟨#[]⟩, .int .i64 0, .string ⟨#[]⟩, .int .i64 0, .string ⟨#[]⟩, .int .i64 0, .string ⟨#[]⟩, .slice none 0 0, .int .i64 0, .string ⟨#[]⟩, .int .i64 0, .string ⟨#[]⟩, .int .i64 0, .string ⟨#[]⟩, .int .i64 0, .string ⟨#[]⟩, .int .i64 0, .string ⟨#[]⟩, .slice none 0 0]) (t := 49) ?hr ?_; (case hd => rfl); (case hg => rfl); (case hr => first | (go_simp; done) | (go_simp; rfl)); intro gI hg_ wk5 hbox_ hb_; replace BZ0 := Aside0.mk (blk_below BZ0.out hb_); replace HN := Aside0.mk (blk_below HN.out hb_); replace HP := Aside0.mk (blk_below HP.out hb_); have HI := Aside0.mk (hbox_); have GHI : Aside0 (w.heap.size ≤ gI) := ⟨by rw [hg_]; exact below_size HB.out⟩; replace HB : Aside0 (Below w.heap.size w wk5) := ⟨below_step HB.out hb_⟩; clear hg_ hbox_ hb_) | ((with_reducible refine gate_dst (N := 1) rfl ?_); refine box_event ?hg (N := 1) ?hd (cs := #[.string ⟨#[]⟩, .slice none 0 0, .slice none 0 0, .slice none 0 0]) (t := 34) ?hr ?_; (case hd => rfl); (case hg => rfl); (case hr => first | (go_simp; done) | (go_simp; rfl)); intro g1 hg_ wk6 hbox_ hb_; replace BZ0 := Aside0.mk (blk_below BZ0.out hb_); replace HN := Aside0.mk (blk_below HN.out hb_); replace HP := Aside0.mk (blk_below HP.out hb_); replace HI := Aside0.mk (blk_below HI.out hb_); have BZ1 := Aside0.mk (hbox_); have GBZ1 : Aside0 (w.heap.size ≤ g1) := ⟨by rw [hg_]; exact below_size HB.out⟩; replace HB : Aside0 (Below w.heap.size w wk6) := ⟨below_step HB.out hb_⟩; clear hg_ hbox_ hb_) | ((with_reducible refine gate_ (.store 34 (.tmp 1) (.tmp 12)) rfl ?_); refine wpList_store_box rfl rfl 34 (.tmp 1) (.tmp 12) rfl (g := g1) (e := 34) [.string ⟨#[117]⟩, .slice (some ⟨gN, 0, none⟩) 1 1, .slice (some ⟨gP, 0, none⟩) 2 2, .slice (some ⟨gI, 0, none⟩) 1 1] rfl rfl BZ1.out rfl ?hq9 ?h1 ?_; (case hq9 => kernel_rfl); (case h1 => simp [Value.oneCell']); intro wk7 hbx_ hfar_ hsz_ hbel_; replace BZ0 := Aside0.mk ((hfar_ _ (blk_ne BZ0.out BZ1.out (by decide))).trans BZ0.out); replace HN := Aside0.mk ((hfar_ _ (blk_ne HN.out BZ1.out (by decide))).trans HN.out); replace HP := Aside0.mk ((hfar_ _ (blk_ne HP.out BZ1.out (by decide))).trans HP.out); replace HI := Aside0.mk ((hfar_ _ (blk_ne HI.out BZ1.out (by decide))).trans HI.out); have BK1 := Aside0.mk (hbx_); replace HB : Aside0 (Below w.heap.size w wk7) := ⟨hbel_ _ GBZ1.out w HB.out⟩; clear hbx_ hfar_ hsz_ hbel_ BZ1))
  refine (ref_law _ _).mono ?_
  rintro e wk8 ⟨rfl, hb⟩
  replace BZ0 := Aside0.mk (blk_below BZ0.out hb)
  replace HN := Aside0.mk (blk_below HN.out hb)
  replace HP := Aside0.mk (blk_below HP.out hb)
  replace HI := Aside0.mk (blk_below HI.out hb)
  replace BK1 := Aside0.mk (blk_below BK1.out hb)
  replace HB := Aside0.mk (below_step HB.out hb)
  clear hb

  go_wp2_with (first | ((with_reducible refine gate_dst (N := 17) rfl ?_); refine lit_event (n := 1) ?hg (N := 17) ?hd (cs := #[.string ⟨#[]⟩, .int .i64 1]) (t := 42) ?hr ?_; (case hd => rfl); (case hg => rfl); (case hr => first | (go_simp; done) | (go_simp; rfl)); intro gM hg_ wk9 hbox_ hb_; replace BZ0 := Aside0.mk (blk_below BZ0.out hb_); replace HN := Aside0.mk (blk_below HN.out hb_); replace HP := Aside0.mk (blk_below HP.out hb_); replace HI := Aside0.mk (blk_below HI.out hb_); replace BK1 := Aside0.mk (blk_below BK1.out hb_); have HM := Aside0.mk (hbox_); have GHM : Aside0 (w.heap.size ≤ gM) := ⟨by rw [hg_]; exact below_size HB.out⟩; replace HB : Aside0 (Below w.heap.size w wk9) := ⟨below_step HB.out hb_⟩; clear hg_ hbox_ hb_))
  refine (one_law _).mono ?_
  rintro e wk10 ⟨rfl, hb⟩
  replace BZ0 := Aside0.mk (blk_below BZ0.out hb)
  replace HN := Aside0.mk (blk_below HN.out hb)
  replace HP := Aside0.mk (blk_below HP.out hb)
  replace HI := Aside0.mk (blk_below HI.out hb)
  replace BK1 := Aside0.mk (blk_below BK1.out hb)
  replace HM := Aside0.mk (blk_below HM.out hb)
  replace HB := Aside0.mk (below_step HB.out hb)
  clear hb

  go_wp2_with (first | ((with_reducible refine gate_dst (N := 20) rfl ?_); refine lit_event (n := 1) ?hg (N := 20) ?hd (cs := #[.string ⟨#[97]⟩, .int .i64 1, .string ⟨#[]⟩, .int .i64 1, .string ⟨#[]⟩, .int .i64 1, .string ⟨#[]⟩, .int .i64 0, .string ⟨#[]⟩, .int .i64 0, .string ⟨#[]⟩, .slice none 0 0]) (t := 64) ?hr ?_; (case hd => rfl); (case hg => rfl); (case hr => first | (go_simp; done) | (go_simp; rfl)); intro gB hg_ wk11 hbox_ hb_; replace BZ0 := Aside0.mk (blk_below BZ0.out hb_); replace HN := Aside0.mk (blk_below HN.out hb_); replace HP := Aside0.mk (blk_below HP.out hb_); replace HI := Aside0.mk (blk_below HI.out hb_); replace BK1 := Aside0.mk (blk_below BK1.out hb_); replace HM := Aside0.mk (blk_below HM.out hb_); have HBI := Aside0.mk (hbox_); have GHBI : Aside0 (w.heap.size ≤ gB) := ⟨by rw [hg_]; exact below_size HB.out⟩; replace HB : Aside0 (Below w.heap.size w wk11) := ⟨below_step HB.out hb_⟩; clear hg_ hbox_ hb_))
  refine (ref_law _ _).mono ?_
  rintro e wk12 ⟨rfl, hb⟩
  replace BZ0 := Aside0.mk (blk_below BZ0.out hb)
  replace HN := Aside0.mk (blk_below HN.out hb)
  replace HP := Aside0.mk (blk_below HP.out hb)
  replace HI := Aside0.mk (blk_below HI.out hb)
  replace BK1 := Aside0.mk (blk_below BK1.out hb)
  replace HM := Aside0.mk (blk_below HM.out hb)
  replace HBI := Aside0.mk (blk_below HBI.out hb)
  replace HB := Aside0.mk (below_step HB.out hb)
  clear hb

  go_wp2_with (first | ((with_reducible refine gate_dst (N := 24) rfl ?_); refine lit_event (n := 3) ?hg (N := 24) ?hd (cs := #[.int .i64 1, .string ⟨#[119]⟩, .string ⟨#[]⟩, .int .i64 1, .string ⟨#[]⟩, .int .i64 0, .string ⟨#[]⟩, .slice none 0 0, .slice none 0 0, .int .i64 2, .string ⟨#[]⟩, .int .i64 0, .string ⟨#[]⟩, .int .i64 0, .string ⟨#[]⟩, .int .i64 0, .string ⟨#[]⟩, .int .i64 0, .string ⟨#[118, 46, 98]⟩, .slice none 0 0, .int .i64 0, .string ⟨#[]⟩, .int .i64 0, .string ⟨#[]⟩, .int .i64 0, .string ⟨#[]⟩, .int .i64 0, .string ⟨#[]⟩, .int .i64 0, .string ⟨#[]⟩, .slice none 0 0, .int .i64 0, .string ⟨#[]⟩, .int .i64 0, .string ⟨#[]⟩, .int .i64 0, .string ⟨#[]⟩, .int .i64 0, .string ⟨#[]⟩, .int .i64 0, .string ⟨#[]⟩, .slice none 0 0, .int .i64 7, .string ⟨#[118]⟩, .string ⟨#[]⟩, .int .i64 0, .string ⟨#[]⟩, .int .i64 0, .string ⟨#[117]⟩, .slice (some ⟨gM, 0, none⟩) 1 1, .slice (some ⟨gB, 0, none⟩) 1 1, .int .i64 0, .string ⟨#[]⟩, .int .i64 0, .string ⟨#[]⟩, .int .i64 0, .string ⟨#[]⟩, .int .i64 0, .string ⟨#[]⟩, .int .i64 0, .string ⟨#[]⟩, .slice none 0 0, .int .i64 0, .string ⟨#[]⟩, .int .i64 0, .string ⟨#[]⟩, .int .i64 0, .string ⟨#[]⟩, .int .i64 0, .string ⟨#[]⟩, .int .i64 0, .string ⟨#[]⟩, .slice none 0 0, .int .i64 0, .string ⟨#[]⟩, .int .i64 0, .string ⟨#[]⟩, .int .i64 0, .string ⟨#[]⟩, .int .i64 0, .string ⟨#[]⟩, .int .i64 0, .string ⟨#[]⟩, .slice none 0 0, .int .i64 8, .string ⟨#[112]⟩, .string ⟨#[]⟩, .int .i64 0, .string ⟨#[]⟩, .int .i64 0, .string ⟨#[]⟩, .slice none 0 0, .slice none 0 0, .int .i64 2, .string ⟨#[]⟩, .int .i64 0, .string ⟨#[]⟩, .int .i64 0, .string ⟨#[]⟩, .int .i64 0, .string ⟨#[]⟩, .int .i64 0, .string ⟨#[119]⟩, .slice none 0 0, .int .i64 0, .string ⟨#[]⟩, .int .i64 0, .string ⟨#[]⟩, .int .i64 0, .string ⟨#[]⟩, .int .i64 0, .string ⟨#[]⟩, .int .i64 0, .string ⟨#[]⟩, .slice none 0 0, .int .i64 0, .string ⟨#[]⟩, .int .i64 0, .string ⟨#[]⟩, .int .i64 0, .string ⟨#[]⟩, .int .i64 0, .string ⟨#[]⟩, .int .i64 0, .string ⟨#[]⟩, .slice none 0 0]) (t := 49) ?hr ?_; (case hd => rfl); (case hg => rfl); (case hr => first | (go_simp; done) | (go_simp; rfl)); intro gJ hg_ wk13 hbox_ hb_; have HNJ : Aside0 (gI ≠ gJ) := ⟨by have := blk_lt HI.out; omega⟩; replace BZ0 := Aside0.mk (blk_below BZ0.out hb_); replace HN := Aside0.mk (blk_below HN.out hb_); replace HP := Aside0.mk (blk_below HP.out hb_); replace HI := Aside0.mk (blk_below HI.out hb_); replace BK1 := Aside0.mk (blk_below BK1.out hb_); replace HM := Aside0.mk (blk_below HM.out hb_); replace HBI := Aside0.mk (blk_below HBI.out hb_); have HJ := Aside0.mk (hbox_); have GHJ : Aside0 (w.heap.size ≤ gJ) := ⟨by rw [hg_]; exact below_size HB.out⟩; replace HB : Aside0 (Below w.heap.size w wk13) := ⟨below_step HB.out hb_⟩; clear hg_ hbox_ hb_) | ((with_reducible refine gate_dst (N := 2) rfl ?_); refine box_event ?hg (N := 2) ?hd (cs := #[.string ⟨#[]⟩, .slice none 0 0, .slice none 0 0, .slice none 0 0]) (t := 34) ?hr ?_; (case hd => rfl); (case hg => rfl); (case hr => first | (go_simp; done) | (go_simp; rfl)); intro g2 hg_ wk14 hbox_ hb_; have HN2 : Aside0 (g1 ≠ g2) := ⟨by have := blk_lt BK1.out; omega⟩; replace BZ0 := Aside0.mk (blk_below BZ0.out hb_); replace HN := Aside0.mk (blk_below HN.out hb_); replace HP := Aside0.mk (blk_below HP.out hb_); replace HI := Aside0.mk (blk_below HI.out hb_); replace BK1 := Aside0.mk (blk_below BK1.out hb_); replace HM := Aside0.mk (blk_below HM.out hb_); replace HBI := Aside0.mk (blk_below HBI.out hb_); replace HJ := Aside0.mk (blk_below HJ.out hb_); have BZ2 := Aside0.mk (hbox_); have GBZ2 : Aside0 (w.heap.size ≤ g2) := ⟨by rw [hg_]; exact below_size HB.out⟩; replace HB : Aside0 (Below w.heap.size w wk14) := ⟨below_step HB.out hb_⟩; clear hg_ hbox_ hb_) | ((with_reducible refine gate_ (.store 34 (.tmp 2) (.tmp 25)) rfl ?_); refine wpList_store_box rfl rfl 34 (.tmp 2) (.tmp 25) rfl (g := g2) (e := 34) [.string ⟨#[116]⟩, .slice none 0 0, .slice none 0 0, .slice (some ⟨gJ, 0, none⟩) 3 3] rfl rfl BZ2.out rfl ?hq9 ?h1 ?_; (case hq9 => kernel_rfl); (case h1 => simp [Value.oneCell']); intro wk15 hbx_ hfar_ hsz_ hbel_; replace BZ0 := Aside0.mk ((hfar_ _ (blk_ne BZ0.out BZ2.out (by decide))).trans BZ0.out); replace HN := Aside0.mk ((hfar_ _ (blk_ne HN.out BZ2.out (by decide))).trans HN.out); replace HP := Aside0.mk ((hfar_ _ (blk_ne HP.out BZ2.out (by decide))).trans HP.out); replace HI := Aside0.mk ((hfar_ _ (blk_ne HI.out BZ2.out (by decide))).trans HI.out); replace BK1 := Aside0.mk ((hfar_ _ HN2.out).trans BK1.out); replace HM := Aside0.mk ((hfar_ _ (blk_ne HM.out BZ2.out (by decide))).trans HM.out); replace HBI := Aside0.mk ((hfar_ _ (blk_ne HBI.out BZ2.out (by decide))).trans HBI.out); replace HJ := Aside0.mk ((hfar_ _ (blk_ne HJ.out BZ2.out (by decide))).trans HJ.out); have BK2 := Aside0.mk (hbx_); replace HB : Aside0 (Below w.heap.size w wk15) := ⟨hbel_ _ GBZ2.out w HB.out⟩; clear hbx_ hfar_ hsz_ hbel_ BZ2) | ((with_reducible refine gate_dst (N := 26) rfl ?_); refine wpList_load_row rfl 34 (.tmp 1) rfl g1 rfl 34 #[.string ⟨#[117]⟩, .slice (some ⟨gN, 0, none⟩) 1 1, .slice (some ⟨gP, 0, none⟩) 2 2, .slice (some ⟨gI, 0, none⟩) 1 1] (0, 0) _ ?hg Try.underlying34 rfl ?hq9 ?_; (case hg => exact BK1.out); (case hq9 => kernel_rfl)) | ((with_reducible refine gate_dst (N := 27) rfl ?_); refine wpList_load_row rfl 34 (.tmp 2) rfl g2 rfl 34 #[.string ⟨#[116]⟩, .slice none 0 0, .slice none 0 0, .slice (some ⟨gJ, 0, none⟩) 3 3] (0, 0) _ ?hg Try.underlying34 rfl ?hq9 ?_; (case hg => exact BK2.out); (case hq9 => kernel_rfl)) | ((with_reducible refine gate_dst (N := 28) rfl ?_); refine lit_event (n := 2) ?hg (N := 28) ?hd (cs := #[.string ⟨#[117]⟩, .slice (some ⟨gN, 0, none⟩) 1 1, .slice (some ⟨gP, 0, none⟩) 2 2, .slice (some ⟨gI, 0, none⟩) 1 1, .string ⟨#[116]⟩, .slice none 0 0, .slice none 0 0, .slice (some ⟨gJ, 0, none⟩) 3 3]) (t := 34) ?hr ?_; (case hd => rfl); (case hg => rfl); (case hr => first | (go_simp; done) | (go_simp; rfl)); intro gD hg_ wk16 hbox_ hb_; replace BZ0 := Aside0.mk (blk_below BZ0.out hb_); replace HN := Aside0.mk (blk_below HN.out hb_); replace HP := Aside0.mk (blk_below HP.out hb_); replace HI := Aside0.mk (blk_below HI.out hb_); replace HM := Aside0.mk (blk_below HM.out hb_); replace HBI := Aside0.mk (blk_below HBI.out hb_); replace HJ := Aside0.mk (blk_below HJ.out hb_); have HD := Aside0.mk (hbox_); have GHD : Aside0 (w.heap.size ≤ gD) := ⟨by rw [hg_]; exact below_size HB.out⟩; replace HB : Aside0 (Below w.heap.size w wk16) := ⟨below_step HB.out hb_⟩; clear hg_ hbox_ hb_) | ((with_reducible refine gate_ (.store 24 (.tmp 0) (.tmp 29)) rfl ?_); refine wpList_store_box rfl rfl 24 (.tmp 0) (.tmp 29) rfl (g := g0) (e := 24) [.slice (some ⟨gD, 0, none⟩) 2 2] rfl rfl BZ0.out rfl ?hq9 ?h1 ?_; (case hq9 => kernel_rfl); (case h1 => simp [Value.oneCell']); intro wk17 hbx_ hfar_ hsz_ hbel_; replace HN := Aside0.mk ((hfar_ _ (blk_ne HN.out BZ0.out (by decide))).trans HN.out); replace HP := Aside0.mk ((hfar_ _ (blk_ne HP.out BZ0.out (by decide))).trans HP.out); replace HI := Aside0.mk ((hfar_ _ (blk_ne HI.out BZ0.out (by decide))).trans HI.out); replace HM := Aside0.mk ((hfar_ _ (blk_ne HM.out BZ0.out (by decide))).trans HM.out); replace HBI := Aside0.mk ((hfar_ _ (blk_ne HBI.out BZ0.out (by decide))).trans HBI.out); replace HJ := Aside0.mk ((hfar_ _ (blk_ne HJ.out BZ0.out (by decide))).trans HJ.out); replace HD := Aside0.mk ((hfar_ _ (blk_ne HD.out BZ0.out (by decide))).trans HD.out); have BK0 := Aside0.mk (hbx_); replace HB : Aside0 (Below w.heap.size w wk17) := ⟨hbel_ _ GBZ0.out w HB.out⟩; clear hbx_ hfar_ hsz_ hbel_ BZ0))
  refine bodyPost_ret (results_cell_row rfl _ _ g0 24 #[.slice (some ⟨gD, 0, none⟩) 2 2] (0, 0) _ rfl BK0.out Try.underlying24 rfl (by kernel_rfl)) rfl ?_
  exact ⟨gN, gP, gI, gM, gB, gJ, gD, ⟨rfl⟩, ⟨⟨HB.out, ⟨GHN.out, GHP.out, GHI.out, GHM.out, GHBI.out, GHJ.out, GHD.out⟩, HNJ.out, HN.out, HP.out, HI.out, HM.out, HBI.out, HJ.out, HD.out⟩⟩⟩
theorem flat_get {sz : Nat} : ∀ (css : List (List Value)) (_ : ∀ c ∈ css, c.length = sz) (j : Nat) (c : List Value) (i : Nat) (u : Value), css[j]? = some c → c[i]? = some u → css.flatten[j * sz + i]? = some u
  | [], _, j, c, i, u, h, _ => by simp at h
  | c0 :: r, hs, 0, c, i, u, h, hu => by
    simp only [List.getElem?_cons_zero, Option.some.injEq] at h
    subst h
    have hi : i < c0.length := (List.getElem?_eq_some_iff.1 hu).1
    rw [Nat.zero_mul, Nat.zero_add, List.flatten_cons, List.getElem?_append_left hi]
    exact hu
  | c0 :: r, hs, j + 1, c, i, u, h, hu => by
    have h0 : c0.length = sz := hs c0 (List.mem_cons_self ..)
    rw [List.getElem?_cons_succ] at h
    have ih := flat_get r (fun x hx => hs x (List.mem_cons_of_mem _ hx)) j c i u h hu
    have hmul : (j + 1) * sz = j * sz + sz := Nat.succ_mul j sz
    rw [List.flatten_cons, List.getElem?_append_right (by omega), show (j + 1) * sz + i - c0.length = j * sz + i by omega]
    exact ih
theorem C_of_block {α : Type} {d : Kd α} {w : World} {g : Nat} {t : TypeId} {cs : Array Value} (h : w.heap[g]? = some (.cells cs t (0, 0))) (l : List α) (css : List (List Value)) (hflat : cs.toList = css.flatten) (hm : l.length ≤ 9223372036854775807)
    (hK : ∀ (j : Nat) (p : α), l[j]? = some p → ∃ c, css[j]? = some c ∧ d.K w p c) (hs : ∀ c ∈ css, c.length = d.sz) : d.C w (some ⟨g, 0, none⟩) l.length l := by
  refine ⟨rfl, hm, fun _ => ⟨_, rfl, fun j p hj => ?_⟩⟩
  obtain ⟨c, hc, hk⟩ := hK j p hj
  refine ⟨c, d.K_len hk, hk, fun i u hu => ?_⟩
  have h1 := flat_get css hs j c i u hc hu
  have h2 := blk_cell h (j * d.sz + i)
  rw [show (⟨g, 0, none⟩ : Addr).add (j * d.sz + i) = ⟨g, j * d.sz + i, none⟩ by simp [Addr.add]; intro h1 h2; rw [h1, h2]]
  rw [h2, ← Array.getElem?_toList, hflat]
  exact h1
def d0 : S42 := ⟨⟨#[]⟩, 0⟩
def d1 : S42 := ⟨⟨#[]⟩, 1⟩
def e0 : S47 := ⟨0, d0, d0, d0, d0, ⟨#[]⟩, []⟩
def jU : S49 := ⟨4, ⟨#[98]⟩, d0, d0, ⟨#[]⟩, [], [], refE ⟨#[97]⟩, e0, e0⟩
def j0 (r0 : ByteArray) : S49 := ⟨1, ⟨#[119]⟩, d1, d0, ⟨#[]⟩, [], [], refE r0, e0, e0⟩
def j1 (bn : ByteArray) : S49 := ⟨7, ⟨#[118]⟩, d0, d0, ⟨#[117]⟩, [d1], [⟨bn, oneE⟩], e0, e0, e0⟩
def j2 (r2 i2 : ByteArray) : S49 := ⟨8, i2, d0, d0, ⟨#[]⟩, [], [], refE r2, e0, e0⟩
def uM (pn : ByteArray) : S34 := ⟨⟨#[117]⟩, [⟨#[110]⟩], [⟨true, ⟨#[97]⟩, ⟨pn, 0⟩⟩, ⟨false, ⟨#[98]⟩, d1⟩], [jU]⟩
def tM (r0 r2 bn i2 : ByteArray) : S34 := ⟨⟨#[116]⟩, [], [], [j0 r0, j1 bn, j2 r2 i2]⟩
set_option maxHeartbeats 16000000 in
theorem pairC (pn r0 r2 bn i2 : ByteArray) (w : World) (gN gP gI gM gB gJ gD : Nat) (hN : w.heap[gN]? = some (.cells #[.string ⟨#[110]⟩] 9 (0, 0))) (hP : w.heap[gP]? = some (.cells #[.bool true, .string ⟨#[97]⟩, .string pn, .int .i64 0, .bool false, .string ⟨#[98]⟩, .string ⟨#[]⟩, .int .i64 1] 59 (0, 0))) (hI : w.heap[gI]? = some (.cells #[.int .i64 4, .string ⟨#[98]⟩, .string ⟨#[]⟩, .int .i64 0, .string ⟨#[]⟩, .int .i64 0, .string ⟨#[]⟩, .slice none 0 0, .slice none 0 0, .int .i64 2, .string ⟨#[]⟩, .int .i64 0, .string ⟨#[]⟩, .int .i64 0, .string ⟨#[]⟩, .int .i64 0, .string ⟨#[]⟩, .int .i64 0, .string ⟨#[97]⟩, .slice none 0 0, .int .i64 0, .string ⟨#[]⟩, .int .i64 0, .string ⟨#[]⟩, .int .i64 0, .string ⟨#[]⟩, .int .i64 0, .string ⟨#[]⟩, .int .i64 0, .string ⟨#[]⟩, .slice none 0 0, .int .i64 0, .string ⟨#[]⟩, .int .i64 0, .string ⟨#[]⟩, .int .i64 0, .string ⟨#[]⟩, .int .i64 0, .string ⟨#[]⟩, .int .i64 0, .string ⟨#[]⟩, .slice none 0 0] 49 (0, 0))) (hM : w.heap[gM]? = some (.cells #[.string ⟨#[]⟩, .int .i64 1] 42 (0, 0))) (hB : w.heap[gB]? = some (.cells #[.string bn, .int .i64 1, .string ⟨#[]⟩, .int .i64 1, .string ⟨#[]⟩, .int .i64 1, .string ⟨#[]⟩, .int .i64 0, .string ⟨#[]⟩, .int .i64 0, .string ⟨#[]⟩, .slice none 0 0] 64 (0, 0))) (hJ : w.heap[gJ]? = some (.cells #[.int .i64 1, .string ⟨#[119]⟩, .string ⟨#[]⟩, .int .i64 1, .string ⟨#[]⟩, .int .i64 0, .string ⟨#[]⟩, .slice none 0 0, .slice none 0 0, .int .i64 2, .string ⟨#[]⟩, .int .i64 0, .string ⟨#[]⟩, .int .i64 0, .string ⟨#[]⟩, .int .i64 0, .string ⟨#[]⟩, .int .i64 0, .string r0, .slice none 0 0, .int .i64 0, .string ⟨#[]⟩, .int .i64 0, .string ⟨#[]⟩, .int .i64 0, .string ⟨#[]⟩, .int .i64 0, .string ⟨#[]⟩, .int .i64 0, .string ⟨#[]⟩, .slice none 0 0, .int .i64 0, .string ⟨#[]⟩, .int .i64 0, .string ⟨#[]⟩, .int .i64 0, .string ⟨#[]⟩, .int .i64 0, .string ⟨#[]⟩, .int .i64 0, .string ⟨#[]⟩, .slice none 0 0, .int .i64 7, .string ⟨#[118]⟩, .string ⟨#[]⟩, .int .i64 0, .string ⟨#[]⟩, .int .i64 0, .string ⟨#[117]⟩, .slice (some ⟨gM, 0, none⟩) 1 1, .slice (some ⟨gB, 0, none⟩) 1 1, .int .i64 0, .string ⟨#[]⟩, .int .i64 0, .string ⟨#[]⟩, .int .i64 0, .string ⟨#[]⟩, .int .i64 0, .string ⟨#[]⟩, .int .i64 0, .string ⟨#[]⟩, .slice none 0 0, .int .i64 0, .string ⟨#[]⟩, .int .i64 0, .string ⟨#[]⟩, .int .i64 0, .string ⟨#[]⟩, .int .i64 0, .string ⟨#[]⟩, .int .i64 0, .string ⟨#[]⟩, .slice none 0 0, .int .i64 0, .string ⟨#[]⟩, .int .i64 0, .string ⟨#[]⟩, .int .i64 0, .string ⟨#[]⟩, .int .i64 0, .string ⟨#[]⟩, .int .i64 0, .string ⟨#[]⟩, .slice none 0 0, .int .i64 8, .string i2, .string ⟨#[]⟩, .int .i64 0, .string ⟨#[]⟩, .int .i64 0, .string ⟨#[]⟩, .slice none 0 0, .slice none 0 0, .int .i64 2, .string ⟨#[]⟩, .int .i64 0, .string ⟨#[]⟩, .int .i64 0, .string ⟨#[]⟩, .int .i64 0, .string ⟨#[]⟩, .int .i64 0, .string r2, .slice none 0 0, .int .i64 0, .string ⟨#[]⟩, .int .i64 0, .string ⟨#[]⟩, .int .i64 0, .string ⟨#[]⟩, .int .i64 0, .string ⟨#[]⟩, .int .i64 0, .string ⟨#[]⟩, .slice none 0 0, .int .i64 0, .string ⟨#[]⟩, .int .i64 0, .string ⟨#[]⟩, .int .i64 0, .string ⟨#[]⟩, .int .i64 0, .string ⟨#[]⟩, .int .i64 0, .string ⟨#[]⟩, .slice none 0 0] 49 (0, 0))) (hD : w.heap[gD]? = some (.cells #[.string ⟨#[117]⟩, .slice (some ⟨gN, 0, none⟩) 1 1, .slice (some ⟨gP, 0, none⟩) 2 2, .slice (some ⟨gI, 0, none⟩) 1 1, .string ⟨#[116]⟩, .slice none 0 0, .slice none 0 0, .slice (some ⟨gJ, 0, none⟩) 3 3] 34 (0, 0))) : Kd.C k34 w (some ⟨gD, 0, none⟩) 2 [uM pn, tM r0 r2 bn i2] := by
  have cN : Kd.C Kd.string w (some ⟨gN, 0, none⟩) 1 [(⟨#[110]⟩ : ByteArray)] := C_of_block hN [(⟨#[110]⟩ : ByteArray)] [[.string ⟨#[110]⟩]] rfl (Nat.le_of_ble_eq_true rfl) (fun j p hj => match j, hj with | 0, hj => ⟨_, rfl, by cases hj; exact rfl⟩ | j + 1, hj => by simp [uM, j1] at hj) (by intro c hc; simp only [List.mem_cons, List.not_mem_nil, or_false] at hc; rcases hc with rfl <;> rfl)
  have cP : Kd.C k59 w (some ⟨gP, 0, none⟩) 2 (uM pn).f2 := C_of_block hP (uM pn).f2 [[.bool true, .string ⟨#[97]⟩, .string pn, .int .i64 0], [.bool false, .string ⟨#[98]⟩, .string ⟨#[]⟩, .int .i64 1]] rfl (Nat.le_of_ble_eq_true rfl) (fun j p hj => match j, hj with | 0, hj => ⟨_, rfl, by cases hj; exact (k59_mk w _)⟩ | 1, hj => ⟨_, rfl, by cases hj; exact (k59_mk w _)⟩ | j + 2, hj => by simp [uM, j1] at hj) (by intro c hc; simp only [List.mem_cons, List.not_mem_nil, or_false] at hc; rcases hc with rfl | rfl <;> rfl)
  have cI : Kd.C k49 w (some ⟨gI, 0, none⟩) 1 [jU] := C_of_block hI [jU] [[.int .i64 4, .string ⟨#[98]⟩, .string ⟨#[]⟩, .int .i64 0, .string ⟨#[]⟩, .int .i64 0, .string ⟨#[]⟩, .slice none 0 0, .slice none 0 0, .int .i64 2, .string ⟨#[]⟩, .int .i64 0, .string ⟨#[]⟩, .int .i64 0, .string ⟨#[]⟩, .int .i64 0, .string ⟨#[]⟩, .int .i64 0, .string ⟨#[97]⟩, .slice none 0 0, .int .i64 0, .string ⟨#[]⟩, .int .i64 0, .string ⟨#[]⟩, .int .i64 0, .string ⟨#[]⟩, .int .i64 0, .string ⟨#[]⟩, .int .i64 0, .string ⟨#[]⟩, .slice none 0 0, .int .i64 0, .string ⟨#[]⟩, .int .i64 0, .string ⟨#[]⟩, .int .i64 0, .string ⟨#[]⟩, .int .i64 0, .string ⟨#[]⟩, .int .i64 0, .string ⟨#[]⟩, .slice none 0 0]] rfl (Nat.le_of_ble_eq_true rfl) (fun j p hj => match j, hj with | 0, hj => ⟨_, rfl, by cases hj; exact (k49_mk w jU (Nat.le_refl 0) (Kd.C_nil _ _) (Nat.le_refl 0) (Kd.C_nil _ _) (Nat.le_refl 0) (Kd.C_nil _ _) (Nat.le_refl 0) (Kd.C_nil _ _) (Nat.le_refl 0) (Kd.C_nil _ _))⟩ | j + 1, hj => by simp [uM, j1] at hj) (by intro c hc; simp only [List.mem_cons, List.not_mem_nil, or_false] at hc; rcases hc with rfl <;> rfl)
  have cM : Kd.C k42 w (some ⟨gM, 0, none⟩) 1 [d1] := C_of_block hM [d1] [[.string ⟨#[]⟩, .int .i64 1]] rfl (Nat.le_of_ble_eq_true rfl) (fun j p hj => match j, hj with | 0, hj => ⟨_, rfl, by cases hj; exact (k42_mk w d1)⟩ | j + 1, hj => by simp [uM, j1] at hj) (by intro c hc; simp only [List.mem_cons, List.not_mem_nil, or_false] at hc; rcases hc with rfl <;> rfl)
  have cB : Kd.C k64 w (some ⟨gB, 0, none⟩) 1 (j1 bn).f6 := C_of_block hB (j1 bn).f6 [[.string bn, .int .i64 1, .string ⟨#[]⟩, .int .i64 1, .string ⟨#[]⟩, .int .i64 1, .string ⟨#[]⟩, .int .i64 0, .string ⟨#[]⟩, .int .i64 0, .string ⟨#[]⟩, .slice none 0 0]] rfl (Nat.le_of_ble_eq_true rfl) (fun j p hj => match j, hj with | 0, hj => ⟨_, rfl, by cases hj; exact (k64_mk w ⟨bn, oneE⟩ (Nat.le_refl 0) (Kd.C_nil _ _))⟩ | j + 1, hj => by simp [uM, j1] at hj) (by intro c hc; simp only [List.mem_cons, List.not_mem_nil, or_false] at hc; rcases hc with rfl <;> rfl)
  have cJ : Kd.C k49 w (some ⟨gJ, 0, none⟩) 3 [j0 r0, j1 bn, j2 r2 i2] := C_of_block hJ [j0 r0, j1 bn, j2 r2 i2] [[.int .i64 1, .string ⟨#[119]⟩, .string ⟨#[]⟩, .int .i64 1, .string ⟨#[]⟩, .int .i64 0, .string ⟨#[]⟩, .slice none 0 0, .slice none 0 0, .int .i64 2, .string ⟨#[]⟩, .int .i64 0, .string ⟨#[]⟩, .int .i64 0, .string ⟨#[]⟩, .int .i64 0, .string ⟨#[]⟩, .int .i64 0, .string r0, .slice none 0 0, .int .i64 0, .string ⟨#[]⟩, .int .i64 0, .string ⟨#[]⟩, .int .i64 0, .string ⟨#[]⟩, .int .i64 0, .string ⟨#[]⟩, .int .i64 0, .string ⟨#[]⟩, .slice none 0 0, .int .i64 0, .string ⟨#[]⟩, .int .i64 0, .string ⟨#[]⟩, .int .i64 0, .string ⟨#[]⟩, .int .i64 0, .string ⟨#[]⟩, .int .i64 0, .string ⟨#[]⟩, .slice none 0 0], [.int .i64 7, .string ⟨#[118]⟩, .string ⟨#[]⟩, .int .i64 0, .string ⟨#[]⟩, .int .i64 0, .string ⟨#[117]⟩, .slice (some ⟨gM, 0, none⟩) 1 1, .slice (some ⟨gB, 0, none⟩) 1 1, .int .i64 0, .string ⟨#[]⟩, .int .i64 0, .string ⟨#[]⟩, .int .i64 0, .string ⟨#[]⟩, .int .i64 0, .string ⟨#[]⟩, .int .i64 0, .string ⟨#[]⟩, .slice none 0 0, .int .i64 0, .string ⟨#[]⟩, .int .i64 0, .string ⟨#[]⟩, .int .i64 0, .string ⟨#[]⟩, .int .i64 0, .string ⟨#[]⟩, .int .i64 0, .string ⟨#[]⟩, .slice none 0 0, .int .i64 0, .string ⟨#[]⟩, .int .i64 0, .string ⟨#[]⟩, .int .i64 0, .string ⟨#[]⟩, .int .i64 0, .string ⟨#[]⟩, .int .i64 0, .string ⟨#[]⟩, .slice none 0 0], [.int .i64 8, .string i2, .string ⟨#[]⟩, .int .i64 0, .string ⟨#[]⟩, .int .i64 0, .string ⟨#[]⟩, .slice none 0 0, .slice none 0 0, .int .i64 2, .string ⟨#[]⟩, .int .i64 0, .string ⟨#[]⟩, .int .i64 0, .string ⟨#[]⟩, .int .i64 0, .string ⟨#[]⟩, .int .i64 0, .string r2, .slice none 0 0, .int .i64 0, .string ⟨#[]⟩, .int .i64 0, .string ⟨#[]⟩, .int .i64 0, .string ⟨#[]⟩, .int .i64 0, .string ⟨#[]⟩, .int .i64 0, .string ⟨#[]⟩, .slice none 0 0, .int .i64 0, .string ⟨#[]⟩, .int .i64 0, .string ⟨#[]⟩, .int .i64 0, .string ⟨#[]⟩, .int .i64 0, .string ⟨#[]⟩, .int .i64 0, .string ⟨#[]⟩, .slice none 0 0]] rfl (Nat.le_of_ble_eq_true rfl) (fun j p hj => match j, hj with | 0, hj => ⟨_, rfl, by cases hj; exact (k49_mk w (j0 r0) (Nat.le_refl 0) (Kd.C_nil _ _) (Nat.le_refl 0) (Kd.C_nil _ _) (Nat.le_refl 0) (Kd.C_nil _ _) (Nat.le_refl 0) (Kd.C_nil _ _) (Nat.le_refl 0) (Kd.C_nil _ _))⟩ | 1, hj => ⟨_, rfl, by cases hj; exact (k49_mk w (j1 bn) (Nat.le_of_ble_eq_true rfl) cM (Nat.le_of_ble_eq_true rfl) cB (Nat.le_refl 0) (Kd.C_nil _ _) (Nat.le_refl 0) (Kd.C_nil _ _) (Nat.le_refl 0) (Kd.C_nil _ _))⟩ | 2, hj => ⟨_, rfl, by cases hj; exact (k49_mk w (j2 r2 i2) (Nat.le_refl 0) (Kd.C_nil _ _) (Nat.le_refl 0) (Kd.C_nil _ _) (Nat.le_refl 0) (Kd.C_nil _ _) (Nat.le_refl 0) (Kd.C_nil _ _) (Nat.le_refl 0) (Kd.C_nil _ _))⟩ | j + 3, hj => by simp [uM, j1] at hj) (by intro c hc; simp only [List.mem_cons, List.not_mem_nil, or_false] at hc; rcases hc with rfl | rfl | rfl <;> rfl)
  have cD : Kd.C k34 w (some ⟨gD, 0, none⟩) 2 [uM pn, tM r0 r2 bn i2] := C_of_block hD [uM pn, tM r0 r2 bn i2] [[.string ⟨#[117]⟩, .slice (some ⟨gN, 0, none⟩) 1 1, .slice (some ⟨gP, 0, none⟩) 2 2, .slice (some ⟨gI, 0, none⟩) 1 1], [.string ⟨#[116]⟩, .slice none 0 0, .slice none 0 0, .slice (some ⟨gJ, 0, none⟩) 3 3]] rfl (Nat.le_of_ble_eq_true rfl) (fun j p hj => match j, hj with | 0, hj => ⟨_, rfl, by cases hj; exact (k34_mk w (uM pn) (Nat.le_of_ble_eq_true rfl) cN (Nat.le_of_ble_eq_true rfl) cP (Nat.le_of_ble_eq_true rfl) cI)⟩ | 1, hj => ⟨_, rfl, by cases hj; exact (k34_mk w (tM r0 r2 bn i2) (Nat.le_refl 0) (Kd.C_nil _ _) (Nat.le_refl 0) (Kd.C_nil _ _) (Nat.le_of_ble_eq_true rfl) cJ)⟩ | j + 2, hj => by simp [uM, j1] at hj) (by intro c hc; simp only [List.mem_cons, List.not_mem_nil, or_false] at hc; rcases hc with rfl | rfl <;> rfl)
  exact cD
theorem pair_clean : checkS [uM ⟨#[110]⟩, tM ⟨#[118, 46, 98]⟩ ⟨#[119]⟩ ⟨#[97]⟩ ⟨#[112]⟩] = [] := by kernel_rfl
theorem none_told : checkS [] = [⟨51, 0, 0, -1⟩] := by kernel_rfl
theorem d1_told : checkS [uM ⟨#[110]⟩, tM ⟨#[118, 46, 97]⟩ ⟨#[118]⟩ ⟨#[97]⟩ ⟨#[112]⟩] = [⟨51, 0, 1, 0⟩, ⟨52, 0, 1, 2⟩] := by kernel_rfl
theorem d2_told : checkS [uM ⟨#[109]⟩, tM ⟨#[118, 46, 98]⟩ ⟨#[119]⟩ ⟨#[98]⟩ ⟨#[119]⟩] = [⟨40, 0, 0, -1⟩, ⟨53, 0, 1, 1⟩, ⟨50, 0, 1, 2⟩] := by kernel_rfl
theorem kind_ub : kindS (uM ⟨#[110]⟩) ⟨#[98]⟩ = (3, 1) := by kernel_rfl
theorem kind_tv : kindS (tM ⟨#[118, 46, 97]⟩ ⟨#[118]⟩ ⟨#[97]⟩ ⟨#[112]⟩) ⟨#[118]⟩ = (7, 1) := by kernel_rfl
theorem kind_tp : kindS (tM ⟨#[118, 46, 97]⟩ ⟨#[118]⟩ ⟨#[97]⟩ ⟨#[112]⟩) ⟨#[112]⟩ = (0, 0) := by kernel_rfl
theorem B42_0 : B42 d0 := ⟨Nat.le_of_ble_eq_true rfl, rfl⟩
theorem B42_1 : B42 d1 := ⟨Nat.le_of_ble_eq_true rfl, rfl⟩
theorem B47_ref (s : ByteArray) (h : s.size ≤ 1000) : B47 (refE s) := .mk _ ⟨rfl, B42_0, B42_0, B42_0, B42_0, by show s.size ≤ _; omega⟩ (Nat.le_of_ble_eq_true rfl) (fun y hy => by simp [refE] at hy)
theorem B47_one : B47 oneE := .mk _ ⟨rfl, B42_1, B42_1, B42_0, B42_0, Nat.le_of_ble_eq_true rfl⟩ (Nat.le_of_ble_eq_true rfl) (fun y hy => by simp [oneE] at hy)
theorem B47_0 : B47 e0 := .mk _ ⟨rfl, B42_0, B42_0, B42_0, B42_0, Nat.le_of_ble_eq_true rfl⟩ (Nat.le_of_ble_eq_true rfl) (fun y hy => by simp [e0] at hy)
theorem B49_U : B49 jU := ⟨rfl, Nat.le_of_ble_eq_true rfl, B42_0, B42_0, Nat.le_of_ble_eq_true rfl, ⟨Nat.le_of_ble_eq_true rfl, fun y hy => by simp [jU] at hy⟩, ⟨Nat.le_of_ble_eq_true rfl, fun y hy => by simp [jU] at hy⟩, B47_ref _ (Nat.le_of_ble_eq_true rfl), B47_0, B47_0⟩
theorem B49_0 (r : ByteArray) (h : r.size ≤ 1000) : B49 (j0 r) := ⟨rfl, Nat.le_of_ble_eq_true rfl, B42_1, B42_0, Nat.le_of_ble_eq_true rfl, ⟨by simp [j0], fun y hy => by simp [j0] at hy⟩, ⟨by simp [j0], fun y hy => by simp [j0] at hy⟩, B47_ref _ h, B47_0, B47_0⟩
theorem B49_1 (b : ByteArray) (h : b.size ≤ 1000) : B49 (j1 b) := ⟨rfl, Nat.le_of_ble_eq_true rfl, B42_0, B42_0, Nat.le_of_ble_eq_true rfl, ⟨by simp [j1], fun y hy => by simp [j1] at hy; rw [hy]; exact B42_1⟩, ⟨by simp [j1], fun y hy => by simp [j1] at hy; rw [hy]; exact ⟨by show b.size ≤ _; omega, B47_one⟩⟩, B47_0, B47_0, B47_0⟩
theorem B49_2 (r i : ByteArray) (h : r.size ≤ 1000) (hi : i.size ≤ 1000) : B49 (j2 r i) := ⟨rfl, by show i.size ≤ _; omega, B42_0, B42_0, Nat.le_of_ble_eq_true rfl, ⟨by simp [j2], fun y hy => by simp [j2] at hy⟩, ⟨by simp [j2], fun y hy => by simp [j2] at hy⟩, B47_ref _ h, B47_0, B47_0⟩
theorem pair_small (pn r0 r2 bn i2 : ByteArray) : Sml [uM pn, tM r0 r2 bn i2] := ⟨by simp, fun m hm => by
  simp only [List.mem_cons, List.not_mem_nil, or_false] at hm
  rcases hm with rfl | rfl
  · exact ⟨by simp [uM], by simp [uM], by simp [uM]⟩
  · exact ⟨by simp [tM], by simp [tM], by simp [tM]⟩⟩
theorem pair_B (pn r0 r2 bn i2 : ByteArray) (h0 : r0.size ≤ 1000) (h2 : r2.size ≤ 1000) (hb : bn.size ≤ 1000) (hi : i2.size ≤ 1000) : ∀ m ∈ [uM pn, tM r0 r2 bn i2], ∀ x ∈ m.f3, B49 x := by
  intro m hm x hx
  simp only [List.mem_cons, List.not_mem_nil, or_false] at hm
  rcases hm with rfl | rfl
  · simp only [uM, List.mem_cons, List.not_mem_nil, or_false] at hx
    subst hx
    exact B49_U
  · simp only [tM, List.mem_cons, List.not_mem_nil, or_false] at hx
    rcases hx with rfl | rfl | rfl
    · exact B49_0 _ h0
    · exact B49_1 _ hb
    · exact B49_2 _ _ h2 hi
theorem check_pair (pn r0 r2 bn i2 : ByteArray) (w : World) (gD : Nat) (hC : Kd.C k34 w (some ⟨gD, 0, none⟩) 2 [uM pn, tM r0 r2 bn i2]) (h0 : r0.size ≤ 1000) (h2 : r2.size ≤ 1000) (hb : bn.size ≤ 1000) (hi : i2.size ≤ 1000) (r : List S40) (hr : checkS [uM pn, tM r0 r2 bn i2] = r) :
    Calls Try.prog 14 #[.agg #[.slice (some ⟨gD, 0, none⟩) 2 2]] w (RetC k40 r w) := by
  have h := scheck_any (some ⟨gD, 0, none⟩) 2 [uM pn, tM r0 r2 bn i2] w hC (pair_small _ _ _ _ _) (pair_B _ _ _ _ _ h0 h2 hb hi)
  rw [hr] at h
  exact h
theorem check_none (w : World) : Calls Try.prog 14 #[.agg #[.slice none 0 0]] w (RetC k40 [⟨51, 0, 0, -1⟩] w) := by
  have h := scheck_any none 0 [] w (Kd.C_nil _ _) ⟨by simp, fun m hm => by simp at hm⟩ (fun m hm => by simp at hm)
  rw [none_told] at h
  exact h
end Go.Proofs.Ytnfhlhjbmcofoaa.S
