/- The walk of prop.Unit. Written for this claim. -/
import Derived.Test.YtdlfmobnmcamaaaUnitB
import Derived.Maps.AppendAt
import Derived.Outline
import Derived.Deep.DeepMust
import Derived.Deep.RegionHeld3
import Derived.Deep.AppendLies
import Derived.OwnWalk
import Derived.WalkKit
namespace Go.Proofs.Ytdlfmobnmcamaaa.Q
open Go.RowKit Go.Conc Go.MapKept Go.ChangeMaps Go.Proofs.YtdlfmobnmcamaaaW.PrintWords Go.Proofs.YtdlfmobnmcamaaaW.PrintLast Go.Proofs.YtdlfmobnmcamaaaW.PrintMore
set_option linter.unusedVariables false
set_option linter.unusedSimpArgs false
theorem sum_at (l : List (List Int)) (i : Nat) (h : i < l.length) : (l.take (i + 1)).flatten.length = (l.take i).flatten.length + l[i].length := by
  rw [List.take_succ_eq_append_getElem h, List.flatten_append]; simp
theorem sum_le (l : List (List Int)) (i : Nat) : (l.take i).flatten.length ≤ l.flatten.length := by
  have : l.flatten = (l.take i).flatten ++ (l.drop i).flatten := by rw [← List.flatten_append, List.take_append_drop]
  rw [this]; simp
theorem one_row {w : World} {A : Option Addr} {c : Nat} {xs : List Int} (h : (Kd.int .i64).C w A xs.length xs) (hc : xs.length ≤ c) (g : Nat) (e : TypeId) (hg : w.heap[g]? = some (.cells #[.slice A xs.length c] e (0, 0))) : Kd.C (Kd.slice 3 (Kd.int .i64)) w (some ⟨g, 0, none⟩) [xs].length [xs] := by
  refine ⟨rfl, by simp, fun _ => ⟨_, rfl, fun j p hj => ?_⟩⟩
  have hj0 : j = 0 := by
    have := (List.getElem?_eq_some_iff.1 hj).1
    simp at this
    exact this
  subst hj0
  simp at hj
  subst hj
  refine ⟨[.slice A xs.length c], rfl, ⟨A, c, rfl, hc, h⟩, fun i u hu => ?_⟩
  have hi : i = 0 := by
    have := (List.getElem?_eq_some_iff.1 hu).1
    simp at this
    exact this
  subst hi
  simp at hu
  subst hu
  have e0 : (⟨g, 0, none⟩ : Addr).add (0 * (Kd.slice 3 (Kd.int .i64)).sz + 0) = ⟨g, 0, none⟩ := by simp [Addr.add]
  rw [e0, blk_cell hg]
  rfl
theorem run_wait (w : World) (n : Nat) (hn : n < 17592186044416) : (Instr.makeChan 62 (.int .i64 (n : Int))).run Try.prog w = .ok (.chan (some w.heap.size)) (w.alloc (.chan n #[] false 0 0 false)) := by
  obtain ⟨i0, hi0, hi1⟩ := Option.map_eq_some_iff.1 info3
  simp only [Prod.mk.injEq] at hi1
  exact run_makeChan Try.underlying62 hi0 .i64 n (by omega) (by rw [hi1.2.2]; omega)
section
variable {w : World}
set_option maxHeartbeats 32000000 in
set_option maxRecDepth 100000 in
theorem unit_any (A0 : Option Addr) (c0 : Nat) (l0 : List (List Int)) (a1 : Int) (A2 : Option Addr) (c2 : Nat) (l2 : List Int) (hr0 : Kd.C (Kd.slice 3 (Kd.int .i64)) w A0 l0.length l0) (hc0 : l0.length ≤ c0) (hr2 : Kd.C (Kd.int .i64) w A2 l2.length l2) (hc2 : l2.length ≤ c2) (hs : Small l0 l2) :
    Calls Try.prog 27 #[.slice A0 l0.length c0, .int .i64 a1, .slice A2 l2.length c2] w fun e w' => ∃ v0_, e = .returned (.tuple #[v0_, .bool (unitOf l0 a1 l2).2]) ∧ w'.ownsRow w.heap.size 3 1 v0_ (unitOf l0 a1 l2).1.length (nums .i64 (unitOf l0 a1 l2).1) ∧ Below w.heap.size w w' := by
  have HR0 := Aside0.mk hr0
  have HC0 := Aside0.mk hc0
  have HR2 := Aside0.mk hr2
  have HC2 := Aside0.mk hc2
  have HS := Aside0.mk hs
  have HM : Aside0 (∀ c ∈ l0, c.length ≤ 9223372036854775807) := ⟨fun c hc => by
    have h1 := hs.1
    obtain ⟨i, hi, rfl⟩ := List.getElem_of_mem hc
    have h2 := sum_at l0 i hi
    have h3 := sum_le l0 (i + 1)
    omega⟩
  obtain ⟨r, hr⟩ : ∃ r, unitOf l0 a1 l2 = r := ⟨_, rfl⟩
  rw [hr]
  have HE := Aside0.mk hr
  have K1 := Aside0.mk (right_calls A0 c0 l0 a1 w hr0 hc0 HM.out)
  clear hr0 hc0 hr2 hc2 hs hr
  cases h1 : rightOf l0 a1 with
  | false =>
    have HT : Aside0 (r = ([], false)) := ⟨by rw [← HE.out]; exact unitOf_wrong (fun h => by rw [h1] at h; cases h.1)⟩
    rw [h1] at K1
    clear h1
    go_enter Try.func27, Try.ntmps27
    go_wp2_with fail
    refine K1.out.mono ?_
    rintro e w1 ⟨rfl, hb⟩
    have HB := Aside0.mk hb
    clear hb
    go_wp2_with fail
    go_ret2
    exact ⟨_, by rw [HT.out]; rfl, by rw [HT.out]; exact own_nil _ _ _ _, HB.out⟩
  | true =>
    rw [h1] at K1
    have H1 := Aside0.mk h1
    clear h1
    go_enter Try.func27, Try.ntmps27
    go_wp2_with fail
    refine K1.out.mono ?_
    rintro e w1 ⟨rfl, hb⟩
    have HB := Aside0.mk hb
    clear hb K1
    go_wp2_with fail
    have hb2 := below_alloc HB.out (.cells #[.slice A2 l2.length c2] 23)
    have K2 := Aside0.mk (right_calls (some ⟨w1.heap.size, 0, none⟩) 1 [l2] a1 (w1.alloc (.cells #[.slice A2 l2.length c2] 23)) (one_row (Kd.C_below HR2.out hb2) HC2.out w1.heap.size 23 (by unfold World.alloc; simp)) (by simp) (fun c hc => by simp at hc; subst hc; exact HR2.out.2.1))
    have HB2 := Aside0.mk hb2
    have hsz : w.heap.size ≤ (w1.alloc (.cells #[.slice A2 l2.length c2] 23)).heap.size := hb2.size
    have HZ2 := Aside0.mk hsz
    clear hb2 hsz HB
    cases h2 : rightOf [l2] a1 with
    | false =>
      have HT : Aside0 (r = ([], false)) := ⟨by rw [← HE.out]; exact unitOf_wrong (fun h => by rw [h2] at h; cases h.2)⟩
      rw [h2] at K2
      clear h2
      refine K2.out.mono ?_
      rintro e w2 ⟨rfl, hb⟩
      have HB := Aside0.mk (below_then HB2.out HZ2.out hb)
      clear hb
      go_wp2_with fail
      go_ret2
      exact ⟨_, by rw [HT.out]; rfl, by rw [HT.out]; exact own_nil _ _ _ _, HB.out⟩
    | true =>
      rw [h2] at K2
      have H2 := Aside0.mk h2
      clear h2
      refine K2.out.mono ?_
      rintro e w2 ⟨rfl, hb⟩
      have HB := Aside0.mk (below_then HB2.out HZ2.out hb)
      clear hb K2 HB2 HZ2
      have hs0 := HS.out.1
      have hl0 : l0.length ≤ 9223372036854775807 := HR0.out.2.1
      have hl2 : l2.length ≤ 17592186044416 := by omega
      go_wp2_with fail
      go_loopw [8, 38] (fun u v w' => ∃ i : Nat, u = .int .i64 ((l2.length + 1 + (l0.take i).flatten.length : Nat) : Int) ∧ v = .int .i64 (i : Int) ∧ i ≤ l0.length ∧ w2 = w') (fun _ v _ => l0.length - (intOf v).toNat)
      case atStart => exact ⟨0, by simp, rfl, by omega, rfl⟩
      case round =>
        obtain ⟨i, rfl, rfl, hi, rfl⟩ := hrel
        by_cases hlt : i < l0.length
        · obtain ⟨ad, A3, c3, rfl, hx, hl3, hC3⟩ := row_at (Kd.C_below HR0.out HB.out) i hlt
          have HSUM := Aside0.mk (sum_at l0 i hlt)
          have hle := sum_le l0 (i + 1)
          have hsum := HSUM.out
          obtain ⟨c, hc⟩ : ∃ c, l0[i] = c := ⟨_, rfl⟩
          rw [hc] at hx hl3 hC3 hsum
          obtain ⟨s0, hs1⟩ : ∃ s0, (l0.take i).flatten.length = s0 := ⟨_, rfl⟩
          obtain ⟨s2, hs2⟩ : ∃ s2, (l0.take (i + 1)).flatten.length = s2 := ⟨_, rfl⟩
          rw [hs1] at hsum ⊢
          rw [hs2] at hsum hle
          have H01 : Aside0 (s2 = s0 + c.length) := ⟨hsum⟩
          have H02 := Aside0.mk hs2
          have hcl : s0 + c.length ≤ l0.flatten.length := by omega
          clear hc hs1 hs2 hC3 hl3 HSUM hsum hle
          go_wp2_with fail
          go_roundw
          case rel =>
            refine ⟨i + 1, ?_, by go_num, by omega, trivial⟩
            rw [H02.out, H01.out]
            go_num
          case measure => simp [intOf]; omega
        · obtain rfl : i = l0.length := by omega
          simp only [List.take_length]
          obtain ⟨cp, hcp⟩ : ∃ cp, l2.length + 1 + l0.flatten.length = cp := ⟨_, rfl⟩
          rw [hcp]
          have HCP := Aside0.mk hcp
          have hm1 : ∀ w : World, (Instr.makeMap 60 none).run Try.prog w = .ok (.map (some w.heap.size)) (w.alloc (.map #[] 0)) := fun w => by simp [Instr.makeMap, Result.andThen]
          have hm2 : ∀ w : World, (Instr.makeMap 61 none).run Try.prog w = .ok (.map (some w.heap.size)) (w.alloc (.map #[] 0)) := fun w => by simp [Instr.makeMap, Result.andThen]
          have hm3 := fun w => run_wait w cp (by omega)
          clear hcp hlt hi hs0
          go_wp2_with fail
          have hmade := made_facts w2 (.slice A0 l0.length c0) cp
          obtain ⟨B, hB⟩ : ∃ B, w2.heap.size = B := ⟨_, rfl⟩
          have HBW : Aside0 (w.heap.size ≤ B) := ⟨by rw [← hB]; exact HB.out.size⟩
          obtain ⟨w3, hw3⟩ : ∃ w3, madeW w2 (.slice A0 l0.length c0) cp = w3 := ⟨_, rfl⟩
          have hw3' := hw3
          unfold madeW at hw3'
          rw [hw3]  at hmade
          rw [hw3']
          rw [hB] at hmade ⊢
          have HH := Aside0.mk hmade.1
          have HG := Aside0.mk hmade.2.1
          have HZ3 := Aside0.mk hmade.2.2.1
          have HB3 := Aside0.mk (hmade.2.2.2 w.heap.size w HBW.out HB.out)
          clear hmade hB hw3 hw3' hm1 hm2 hm3 HB
          go_loopw [56] (fun v w' => ∃ i : Nat, v = .int .i64 (i : Int) ∧ i ≤ l0.length ∧ ∃ W : World, W = w' ∧ Aside0 (Held W (B + 1 + 1 + 1) (B + 1) (B + 1 + 1) cp (.slice A0 l0.length c0) (.map (some B)) [] [] ∧ Below w.heap.size w W ∧ B + 1 + 1 + 1 + 1 ≤ W.heap.size ∧ ∃ gs done, Groups W B (B + 1 + 1 + 1 + 1) gs ∧ Sem gs done ∧ Came l0 i 0 done ∧ CameAll l0 i 0 done)) (fun v _ => l0.length - (intOf v).toNat)
          case atStart => exact ⟨0, rfl, by omega, _, rfl, ⟨HH.out, HB3.out, by rw [HZ3.out]; omega, [], [], HG.out, Sem.none, (came_start l0).1, (came_start l0).2⟩⟩
          case round =>
            clear HH HG HZ3 HB3
            obtain ⟨i, rfl, hi, W1, rfl, ⟨HH1, HB1, HZ1, gs1, done1, HG1, HS1, HC1, HA1⟩⟩ := hrel
            replace HH1 := Aside0.mk HH1
            replace HB1 := Aside0.mk HB1
            replace HZ1 := Aside0.mk HZ1
            replace HG1 := Aside0.mk HG1
            replace HS1 := Aside0.mk HS1
            replace HC1 := Aside0.mk HC1
            replace HA1 := Aside0.mk HA1
            by_cases hlt : i < l0.length
            · obtain ⟨ad, A3, c3, rfl, hx, hl3, hC3⟩ := row_at HR0.out i hlt
              replace hx := pw_cell_below HB1.out hx
              obtain ⟨c, hc⟩ : ∃ c, l0[i] = c := ⟨_, rfl⟩
              rw [hc] at hx hl3 hC3
              have HROW := Aside0.mk hC3
              have hcm : c.length ≤ 9223372036854775807 := hC3.2.1
              have HCI : Aside0 (l0[i] = c) := ⟨hc⟩
              clear hc hl3 hC3
              go_wp2_with fail
              go_loopw [63] (fun v w' => ∃ j : Nat, v = .int .i64 (j : Int) ∧ j ≤ c.length ∧ ∃ W : World, W = w' ∧ Aside0 (Held W (B + 1 + 1 + 1) (B + 1) (B + 1 + 1) cp (.slice (some ad) l0.length c0) (.map (some B)) [] [] ∧ Below w.heap.size w W ∧ B + 1 + 1 + 1 + 1 ≤ W.heap.size ∧ ∃ gs done, Groups W B (B + 1 + 1 + 1 + 1) gs ∧ Sem gs done ∧ Came l0 i j done ∧ CameAll l0 i j done)) (fun v _ => c.length - (intOf v).toNat)
              case atStart => exact ⟨0, rfl, by omega, _, rfl, ⟨HH1.out, HB1.out, HZ1.out, gs1, done1, HG1.out, HS1.out, HC1.out, HA1.out⟩⟩
              case round =>
                clear HH1 HB1 HZ1 HG1 HS1 HC1 HA1
                obtain ⟨j, rfl, hj, W2, rfl, ⟨HH2, HB2, HZ2, gs2, done2, HG2, HS2, HC2', HA2⟩⟩ := hrel
                by_cases hlt2 : j < c.length
                · obtain ⟨ad3, rfl, hz⟩ := Kd.at_int (Kd.C_below HROW.out HB2) (j : Int) (by omega) (by omega)
                  rw [Int.toNat_natCast] at hz
                  obtain ⟨x, hxe⟩ : ∃ x, c[j] = x := ⟨_, rfl⟩
                  rw [rd_at c j hlt2, hxe] at hz
                  obtain ⟨v, zs, hgat, hlk⟩ := run_group HG2.ents x
                  have hvo := GAt.own HG2 hgat
                  obtain ⟨A5, c5, rfl⟩ := own_slice hvo
                  have hzs : zs.length + 1 < 17592186044416 := by
                    have h1 := zsOf_le done2 x
                    rw [← HS2 x _ zs hgat] at h1
                    have h2 := HC2'.1
                    have h3 := sum_at l0 i hlt
                    have h4 := sum_le l0 (i + 1)
                    have h5 := HS.out.1
                    rw [HCI.out] at h3
                    omega
                  obtain ⟨_, g1, _, _⟩ := HH2.cells
                  have hl0 := hlk W2 rfl
                  have HLK := Aside0.mk hlk
                  have HVO := Aside0.mk hvo
                  have HVB : Aside0 (∀ b, (Value.slice A5 zs.length c5).ownBlock = some b → B + 1 + 1 + 1 + 1 ≤ b) := ⟨fun b hb => own_base hvo b hb⟩
                  have HGAT := Aside0.mk hgat
                  have HXE := Aside0.mk hxe
                  have HZS := Aside0.mk hzs
                  replace HH2 := Aside0.mk HH2
                  replace HB2 := Aside0.mk HB2
                  replace HZ2 := Aside0.mk HZ2
                  replace HG2 := Aside0.mk HG2
                  replace HS2 := Aside0.mk HS2
                  replace HC2' := Aside0.mk HC2'
                  replace HA2 := Aside0.mk HA2
                  have hcs := came_step (i := i) (j := j) hlt (by rw [HCI.out]; exact hlt2) HC2'.out HA2.out
                  have e2 : (l0[i]'hlt)[j]'(by rw [HCI.out]; exact hlt2) = x := by simp only [HCI.out]; exact hxe
                  rw [e2] at hcs
                  have HCS := Aside0.mk hcs
                  clear hlk hvo hgat hxe hzs hcs e2
                  obtain ⟨i0, hi0, hz0, hz1, hz2⟩ := info_parts info3
                  go_wp2_with fail
                  have hlA : (Instr.lookup 60 (.map (some B)) (.int .i64 x) false).run Try.prog W2.drew = .ok (.slice A5 zs.length c5) W2.drew := HLK.out _ rfl
                  have hlB : (Instr.lookup 60 (.map (some B)) (.int .i64 x) false).run Try.prog (W2.alloc (.cells #[.int .i64 (i : Int)] 3)).drew = .ok (.slice A5 zs.length c5) (W2.alloc (.cells #[.int .i64 (i : Int)] 3)).drew := HLK.out _ (alloc_old W2 _ B (by have := HZ2.out; omega))
                  go_region_held3 (fun w' => w'.cell? ⟨B + 1 + 1 + 1, 1, none⟩ = some (.map (some B)))
                    (first
                      | go_keep
                      | (exact same_cell ((HREST.out.2.2.2.2 B W2 (Nat.le_refl _) (Below.refl _ _)).2 _ (by omega) (by omega)) g1)
                      | (rw [hgrow.cell_far _ (by have := HZ2.out; show B + 1 + 1 + 1 < _; simp; omega) (fun e => by have h9 : B + 1 + 1 + 1 + 1 ≤ B + 1 + 1 + 1 := HVB.out _ e.symm; omega)]; assumption))
                    ((refine step_append_lies _ (by rfl) _ _ _ (by rfl) (B + 1 + 1 + 1 + 1) 3 i0 _ 1 8 Try.underlying23 hi0 hz0 hz1 hz2 rfl (by omega) (.slice A5 zs.length c5) zs.length (nums .i64 zs) (by rfl) ((HVO.out.alloc _).drew)
                        ⟨W2.heap.size, 0, none⟩ 1 1 [.int .i64 (i : Int)] (by rfl) (by rfl) (World.news_of_block (cs := #[.int .i64 (i : Int)]) (t := 3) (fr := (0, 0)) (heap_alloc_new W2 _)) (by simp [Value.oneCell'])
                        (by omega) (by have := HZS.out; simp only [maxLen]; omega) (by have := HZS.out; omega) (by have := HZ2.out; simp; omega) (W2.heap.size + 1) (by simp) ?_; intro gg cap w5 hown1 hgrow hat hlt9; obtain ⟨w6, gs6, hput, hrest⟩ := round_step HG2.out HGAT.out HZ2.out hgrow hown1 hat; have HREST := Aside0.mk hrest; clear hrest))
                  all_goals (
                    go_wp2_with fail
                    go_roundw
                    (case rel =>
                      have hsame := fun k h1 h2 => (HREST.out.2.2.2.2 B W2 (Nat.le_refl _) (Below.refl _ _)).2 k h1 h2
                      exact ⟨j + 1, by go_num, by omega, _, rfl, ⟨HH2.out.same (hsame _ (by omega) (by omega)) (hsame _ (by omega) (by omega)) (hsame _ (by omega) (by omega)), (HREST.out.2.2.2.2 w.heap.size w HBW.out HB2.out).1, Nat.le_trans HZ2.out HREST.out.2.2.2.1, gs6, _, HREST.out.1, Sem.push HREST.out.1 (.inr ⟨_, HG2.out⟩) HS2.out HGAT.out HREST.out.2.1 HREST.out.2.2.1, HCS.out.1, HCS.out.2⟩⟩)
                    (case measure => simp [intOf]; omega))
                · have hje : j = c.length := by omega
                  have hcn := came_next hlt (by rw [HCI.out]; exact hje) HC2' HA2
                  replace HH2 := Aside0.mk HH2
                  replace HB2 := Aside0.mk HB2
                  replace HZ2 := Aside0.mk HZ2
                  replace HG2 := Aside0.mk HG2
                  replace HS2 := Aside0.mk HS2
                  have HCN := Aside0.mk hcn
                  clear HC2' HA2 hcn hje
                  go_wp2_with fail
                  go_roundw
                  case rel => exact ⟨i + 1, by go_num, by omega, _, rfl, ⟨HH2.out, HB2.out, HZ2.out, gs2, done2, HG2.out, HS2.out, HCN.out.1, HCN.out.2⟩⟩
                  case measure => simp [intOf]; omega
            · obtain rfl : i = l0.length := by omega
              have HX := Aside0.mk (laid_of HR0.out HB1.out HBW.out HZ1.out HG1.out HS1.out HC1.out HA1.out)
              have HLL := Aside0.mk (lits_ok HS.out.2.1 H1.out)
              have HLK := Aside0.mk (lits_ok (l := [l2]) (fun c hc y hy => by simp at hc; subst hc; exact HS.out.2.2 y hy) H2.out)
              have HCAP : Aside0 ((l2 ++ l0.flatten).length < cp) := ⟨by rw [List.length_append]; have := HCP.out; omega⟩
              clear HG1 HS1 HC1 HA1 hlt hi
              go_wp2_with fail
              go_loopw [85] (fun v w' => ∃ n : Nat, v = .int .i64 (n : Int) ∧ n ≤ l2.length ∧ ∃ W : World, W = w' ∧ Aside0 (But2 (B + 1) (B + 1 + 1) W1 W ∧ ∃ ks, Held W (B + 1 + 1 + 1) (B + 1) (B + 1 + 1) cp (.slice A0 l0.length c0) (.map (some B)) ks (ks.drop 0) ∧ Inv l0 l2 (fun _ => True) ks 0 ∧ ∀ x ∈ l2.take n, x ∈ ks)) (fun v _ => l2.length - (intOf v).toNat)
              case atStart => exact ⟨0, rfl, by omega, _, rfl, ⟨But2.refl _ _ _, [], HH1.out, inv_start _ _, by simp⟩⟩
              case round =>
                obtain ⟨n, rfl, hn, W2, rfl, ⟨hb2, ks, hh, hinv, hks⟩⟩ := hrel
                have HB2 : Aside0 (Below w.heap.size w W2) := ⟨But2.below HB1.out HB1.out.size (by have := HBW.out; omega) (by have := HBW.out; omega) hb2⟩
                have HBB := Aside0.mk hb2
                have HINV := Aside0.mk hinv
                have HKS := Aside0.mk hks
                have HHH := Aside0.mk hh
                clear hb2 hh hinv hks
                by_cases hlt : n < l2.length
                · obtain ⟨ad, rfl, hx⟩ := Kd.at_int (Kd.C_below HR2.out HB2.out) (n : Int) (by omega) (by omega)
                  rw [Int.toNat_natCast] at hx
                  obtain ⟨x, hxe⟩ : ∃ x, l2[n] = x := ⟨_, rfl⟩
                  rw [rd_at l2 n hlt, hxe] at hx
                  have hxm : x ∈ l2 := by rw [← hxe]; exact List.getElem_mem hlt
                  have hroom : (ks.drop 0).length < cp := by have := HINV.out.room; have := HCAP.out; rw [List.drop_zero]; omega
                  have htake := take_any x HHH.out hroom
                  have hit := HINV.out.take HLL.out hxm (HLK.out l2 (by simp) x hxm)
                  have HTK : Aside0 (∀ ks' : List Int, x ∈ ks' → (∀ y ∈ ks, y ∈ ks') → ∀ y ∈ l2.take (n + 1), y ∈ ks') := ⟨fun ks' h1 h2 y hy => by
                    rw [List.take_succ_eq_append_getElem hlt, hxe] at hy
                    rcases List.mem_append.1 hy with hy | hy
                    · exact h2 y (HKS.out y hy)
                    · simp at hy; rw [hy]; exact h1⟩
                  rcases hr3 : takeOf ks (ks.drop 0) x with ⟨b, ks', q'⟩
                  rw [hr3] at htake hit
                  have HTAKE := Aside0.mk htake
                  cases b with
                  | false =>
                    have HT : Aside0 (r = ([], false)) := ⟨by rw [← HE.out]; exact unitOf_conf (hit.1 rfl)⟩
                    clear htake hit hr3 hroom hxm hxe
                    go_wp2_with fail
                    refine HTAKE.out.mono ?_
                    rintro e w4 ⟨rfl, _, hb4⟩
                    have HB4 : Aside0 (Below w.heap.size w w4) := ⟨But2.below HB2.out HB2.out.size (by have := HBW.out; omega) (by have := HBW.out; omega) hb4⟩
                    clear hb4
                    go_wp2_with fail
                    go_ret2
                    exact ⟨_, by rw [HT.out]; rfl, by rw [HT.out]; exact own_nil _ _ _ _, HB4.out⟩
                  | true =>
                    have HIT := Aside0.mk (hit.2 rfl)
                    clear htake hit hr3 hroom hxm hxe
                    go_wp2_with fail
                    refine HTAKE.out.mono ?_
                    rintro e w4 ⟨rfl, hh4, hb4⟩
                    have HB4 := Aside0.mk (HBB.out.trans hb4)
                    have HH4 := Aside0.mk hh4
                    clear hb4 hh4
                    go_wp2_with fail
                    go_roundw
                    case rel =>
                      refine ⟨n + 1, by go_num, by omega, _, rfl, ⟨HB4.out, ks', ?_, HIT.out.2.1, HTK.out ks' HIT.out.2.2.1 HIT.out.2.2.2⟩⟩
                      have := HH4.out
                      rw [show q' = ks'.drop 0 from HIT.out.1] at this
                      exact this
                    case measure => simp [intOf]; omega
                · have HKN : Aside0 (∀ x ∈ l2, x ∈ ks) := ⟨fun x hx => HKS.out x (by rw [List.take_of_length_le (by omega)]; exact hx)⟩
                  clear HKS
                  go_wp2_with fail
                  go_loopw [96] (fun v w' => ∃ n : Nat, v = .int .i64 (n : Int) ∧ n ≤ l0.length ∧ ∃ W : World, W = w' ∧ Aside0 (But2 (B + 1) (B + 1 + 1) W1 W ∧ ∃ ks, Held W (B + 1 + 1 + 1) (B + 1) (B + 1 + 1) cp (.slice A0 l0.length c0) (.map (some B)) ks (ks.drop 0) ∧ Inv l0 l2 (fun i => n ≤ i) ks 0 ∧ ∀ x ∈ l2, x ∈ ks)) (fun v _ => l0.length - (intOf v).toNat)
                  case atStart => exact ⟨0, rfl, by omega, _, rfl, ⟨HBB.out, ks, HHH.out, HINV.out.fewer (fun i c _ _ => .inl (Nat.zero_le i)), HKN.out⟩⟩
                  case round =>
                    clear HBB HINV HHH HKN HB2
                    obtain ⟨n, rfl, hn, W3, rfl, ⟨hb2, ks, hh, hinv, hks⟩⟩ := hrel
                    have HB2 : Aside0 (Below w.heap.size w W3) := ⟨But2.below HB1.out HB1.out.size (by have := HBW.out; omega) (by have := HBW.out; omega) hb2⟩
                    have HBB := Aside0.mk hb2
                    have HINV := Aside0.mk hinv
                    have HKN := Aside0.mk hks
                    have HHH := Aside0.mk hh
                    clear hb2 hh hinv hks
                    by_cases hlt : n < l0.length
                    · obtain ⟨ad, A3, c3, rfl, hx, hl3, hC3⟩ := row_at (HX.out.row W3 HBB.out) n hlt
                      obtain ⟨c, hc⟩ : ∃ c, l0[n] = c := ⟨_, rfl⟩
                      have hc2 : l0[n]? = some c := by rw [List.getElem?_eq_getElem hlt, hc]
                      rw [hc] at hx hl3 hC3
                      have hroom : (ks.drop 0).length < cp := by have := HINV.out.room; have := HCAP.out; rw [List.drop_zero]; omega
                      have hlook := look_any A3 c3 c hC3 HHH.out hroom
                      have hit := HINV.out.look HLL.out hc2
                      have HSUB := Aside0.mk (look_sub ks (ks.drop 0) c)
                      rcases hr3 : lookOf ks (ks.drop 0) c with ⟨b, ks', q'⟩
                      rw [hr3] at hlook hit HSUB
                      have HLOOK := Aside0.mk hlook
                      cases b with
                      | false =>
                        have HT : Aside0 (r = ([], false)) := ⟨by rw [← HE.out]; exact unitOf_conf (hit.1 rfl)⟩
                        clear hlook hit hr3 hroom hc hc2 hl3 hC3
                        go_wp2_with fail
                        refine HLOOK.out.mono ?_
                        rintro e w4 ⟨rfl, _, hb4⟩
                        have HB4 : Aside0 (Below w.heap.size w w4) := ⟨But2.below HB2.out HB2.out.size (by have := HBW.out; omega) (by have := HBW.out; omega) hb4⟩
                        clear hb4
                        go_wp2_with fail
                        go_ret2
                        exact ⟨_, by rw [HT.out]; rfl, by rw [HT.out]; exact own_nil _ _ _ _, HB4.out⟩
                      | true =>
                        have HIT := Aside0.mk (hit.2 rfl)
                        clear hlook hit hr3 hroom hc hc2 hl3 hC3
                        go_wp2_with fail
                        refine HLOOK.out.mono ?_
                        rintro e w4 ⟨rfl, hh4, hb4⟩
                        have HB4 := Aside0.mk (HBB.out.trans hb4)
                        have HH4 := Aside0.mk hh4
                        clear hb4 hh4
                        go_wp2_with fail
                        go_roundw
                        case rel =>
                          refine ⟨n + 1, by go_num, by omega, _, rfl, ⟨HB4.out, ks', ?_, HIT.out.2.fewer (fun i d _ h => .inl (by omega)), fun x hx => HSUB.out x (HKN.out x hx)⟩⟩
                          have := HH4.out
                          rw [show q' = ks'.drop 0 from HIT.out.1] at this
                          exact this
                        case measure => simp [intOf]; omega
                    · have HI3 : Aside0 (Inv l0 l2 (fun _ => False) ks 0) := ⟨HINV.out.fewer (fun i c hc h => by have := (List.getElem?_eq_some_iff.1 hc).1; omega)⟩
                      have HRUN := Aside0.mk (run_any 0 HLL.out HX.out HCAP.out HBB.out HI3.out HHH.out)
                      clear HINV
                      go_wp2_with fail
                      refine HRUN.out.mono ?_
                      rintro e w4 ⟨hb4, ⟨rfl, hconf⟩ | ⟨rfl, ks', p', hsub, hinv, hdrop, hheld⟩⟩
                      · have HT : Aside0 (r = ([], false)) := ⟨by rw [← HE.out]; exact unitOf_conf hconf⟩
                        have HB4 : Aside0 (Below w.heap.size w w4) := ⟨But2.below HB1.out HB1.out.size (by have := HBW.out; omega) (by have := HBW.out; omega) hb4⟩
                        clear hb4 hconf HRUN
                        go_wp2_with fail
                        go_ret2
                        exact ⟨_, by rw [HT.out]; rfl, by rw [HT.out]; exact own_nil _ _ _ _, HB4.out⟩
                      · obtain ⟨hrow, hno⟩ := hinv.last HLL.out hdrop (fun x hx => hsub x (HKN.out x hx))
                        have HT : Aside0 (normOf ks' = r) := ⟨by rw [← HE.out]; exact (unitOf_row H1.out H2.out hno ⟨hinv.nodup, hrow⟩).symm⟩
                        have HND : Aside0 (ks'.Nodup) := ⟨hinv.nodup⟩
                        have hkl : ks'.length < 17592186044416 := by have := hinv.room; have := HCAP.out; have := HCP.out; have := HS.out.1; omega
                        have HB4 : Aside0 (Below w.heap.size w w4) := ⟨But2.below HB1.out HB1.out.size (by have := HBW.out; omega) (by have := HBW.out; omega) hb4⟩
                        have HZ4 : Aside0 (B + 1 + 1 + 1 + 1 ≤ w4.heap.size) := ⟨Nat.le_trans HZ1.out hb4.size⟩
                        have HHE := Aside0.mk hheld
                        obtain ⟨_, _, g2, _⟩ := hheld.cells
                        have hrange := run_range w4 (B + 1) ks' hheld.tk
                        clear hb4 hrow hno hinv hdrop hheld hsub HRUN HI3 HKN HHH HBB HB2 HX
                        go_wp2_with fail
                        obtain ⟨it, hit⟩ : ∃ it, w4.heap.size = it := ⟨_, rfl⟩
                        obtain ⟨w5, hw5⟩ : ∃ w5, w4.alloc (.mapIter (some (B + 1)) ks'.length #[] ks'.length) = w5 := ⟨_, rfl⟩
                        have a1' := alloc_new w4 (.mapIter (some (B + 1)) ks'.length #[] ks'.length)
                        have a2' := fun k hk => alloc_old w4 (.mapIter (some (B + 1)) ks'.length #[] ks'.length) k hk
                        have a3' := alloc_size w4 (.mapIter (some (B + 1)) ks'.length #[] ks'.length)
                        have a4' := below_alloc HB4.out (.mapIter (some (B + 1)) ks'.length #[] ks'.length)
                        rw [hw5] at a1' a2' a3' a4' ⊢
                        rw [hit] at a1' a2' a3' ⊢
                        have HI5 := Aside0.mk a1'
                        have HBI : Aside0 (B + 1 + 1 + 1 + 1 ≤ it) := ⟨by rw [← hit]; exact HZ4.out⟩
                        have HWI : Aside0 (w.heap.size ≤ it) := ⟨by rw [← hit]; exact HB4.out.size⟩
                        have HST5 := Aside0.mk ((a2' (B + 1 + 1 + 1) (by have := HBI.out; omega)).trans HHE.out.st)
                        have HTK5 := Aside0.mk ((a2' (B + 1) (by have := HBI.out; omega)).trans HHE.out.tk)
                        have HB5 := Aside0.mk a4'
                        clear a1' a2' a3' a4' hit hw5 hrange g2 HHE HB4 HZ4
                        go_loopw [20] (fun v w' => ∃ W : World, W = w' ∧ Aside0 (∃ js : List Nat, js.Nodup ∧ (∀ j ∈ js, j < ks'.length) ∧ W.heap[it]? = some (.mapIter (some (B + 1)) ks'.length js.toArray ks'.length) ∧ W.heap[B + 1]? = some (.map (tents ks') ks'.length) ∧ W.heap[B + 1 + 1 + 1]? = some (.cells #[.slice A0 l0.length c0, .map (some B), .map (some (B + 1)), .chan (some (B + 1 + 1))] 64 (0, 0)) ∧ Below w.heap.size w W ∧ W.ownsRow (it + 1) 3 1 v (outOf ks' js).length (nums .i64 (outOf ks' js)))) (fun _ w' => ks'.length - seenN w'.heap[it]?)
                        case atStart => exact ⟨_, rfl, ⟨[], by simp, by simp, HI5.out, HTK5.out, HST5.out, HB5.out, own_nil _ _ _ _⟩⟩
                        case round =>
                          clear HI5 HST5 HTK5 HB5
                          obtain ⟨W5, rfl, ⟨js, hnd, hjl, hit, htk, hst, hb5, hown⟩⟩ := hrel
                          obtain ⟨A7, c7, rfl⟩ := own_slice hown
                          have HND5 := Aside0.mk hnd
                          have HJL := Aside0.mk hjl
                          have HB5 := Aside0.mk hb5
                          have HOWN := Aside0.mk hown
                          have HIT := Aside0.mk hit
                          rcases run_next_tents hit htk with ⟨hall, hnext⟩ | ⟨j, hj, w1', hnj, hw1, hnext⟩
                          · have HPERM : Aside0 (normOf (outOf ks' js) = r) := ⟨by rw [normOf_perm (outOf_all ks' js hnd hjl hall)]; exact HT.out⟩
                            have hol : (outOf ks' js).length < 17592186044416 := by have := js_room hnd hjl; simp only [outOf, List.length_map]; omega
                            have HNORM := Aside0.mk (norm_any A7 c7 (outOf ks' js) W5 (Kd.C_of_reads (d := 0) (own_reads_of' (d := 0) hown)) hol)
                            rw [HPERM.out] at HNORM
                            clear hnd hjl hit htk hst hb5 hown hall hol
                            go_wp2_with fail
                            refine HNORM.out.mono ?_
                            rintro e w6 ⟨v6, rfl, ho6, hb6⟩
                            have HO6 := Aside0.mk (own_less ho6 HB5.out.size)
                            have HB6 := Aside0.mk (below_then HB5.out HB5.out.size hb6)
                            clear ho6 hb6
                            go_wp2_with fail
                            go_ret2
                            exact ⟨_, rfl, HO6.out, HB6.out⟩
                          · have hsw := step_world hw1 hit (.mapIter (some (B + 1)) ks'.length (js ++ [j]).toArray ks'.length)
                            obtain ⟨w6, hw6⟩ : ∃ w6, setBlock w1' it (.mapIter (some (B + 1)) ks'.length (js ++ [j]).toArray ks'.length) = w6 := ⟨_, rfl⟩
                            rw [hw6] at hsw
                            simp only [hw6] at hnext
                            obtain ⟨s1, s2, s3, s4⟩ := hsw
                            have htk6 := (s2 (B + 1) (by have := HBI.out; omega)).trans htk
                            have hst6 := (s2 (B + 1 + 1 + 1) (by have := HBI.out; omega)).trans hst
                            have hent := run_entry_tents hj s1 htk6
                            obtain ⟨x, hxe⟩ : ∃ x, ks'[j] = x := ⟨_, rfl⟩
                            have hxm : x ∈ ks' := by rw [← hxe]; exact List.getElem_mem hj
                            simp only [hxe] at hnext hent
                            have hlk := run_taken htk6 x
                            have g2 : w6.cell? ⟨B + 1 + 1 + 1, 2, none⟩ = some (.map (some (B + 1))) := by rw [blk_cell hst6]; rfl
                            have HO6 := Aside0.mk (own_move hown (w1 := w6) (fun k hk => s2 k (by have := own_base hown k hk; omega)))
                            have HB6 := Aside0.mk (s4 w.heap.size w HWI.out hb5)
                            have HS6 : Aside0 (it + 1 ≤ w6.heap.size) := ⟨by rw [s3]; have := blk_lt hit; omega⟩
                            have HI6 := Aside0.mk s1
                            have HTK6 := Aside0.mk htk6
                            have HST6 := Aside0.mk hst6
                            have HNJ : Aside0 ((js ++ [j]).Nodup ∧ ∀ i ∈ js ++ [j], i < ks'.length) := ⟨by
                              refine ⟨?_, fun i hi => ?_⟩
                              · rw [List.nodup_append]
                                refine ⟨hnd, by simp, fun a ha b hb => ?_⟩
                                simp at hb
                                subst hb
                                exact fun e => hnj (e ▸ ha)
                              · rcases List.mem_append.1 hi with hi | hi
                                · exact hjl i hi
                                · simp at hi; omega⟩
                            have HLEN : Aside0 ((outOf ks' js).length < 17592186044415) := ⟨by have := js_room HNJ.out.1 HNJ.out.2; simp at this; simp only [outOf, List.length_map]; omega⟩
                            have HMEAS : Aside0 (js.length + 1 ≤ ks'.length) := ⟨by have := js_room HNJ.out.1 HNJ.out.2; simpa using this⟩
                            have HPUSH : Aside0 (outOf ks' (js ++ [j]) = outOf ks' js ++ [x]) := ⟨by rw [outOf_push ks' js j hj, hxe]⟩
                            clear hnd hjl hit htk hst hb5 hown hw1 hnj s1 s2 s3 s4 htk6 hst6 hw6 hxe hj
                            go_wp2_with ((with_reducible refine gate_builtin (b := .append) (xs := #[.tmp 123, .tmp 125]) rfl ?_); at_builtin; refine print_append_num (w0 := w6) (it + 1) rfl (.tmp 123) (.tmp 125) 23 3 .i64 8 rfl Try.underlying23 info3 (by decide) (.slice A7 (outOf ks' js).length c7) (outOf ks' js) x rfl rfl HO6.out (Below.refl _ _) HS6.out (by have := HLEN.out; omega) ?_; intro v7 w7 ho hb hg hat; rw [← HPUSH.out] at ho; have HO7 := Aside0.mk ho; have HB7 := Aside0.mk hb; clear ho hb hg hat)
                            go_roundw
                            case rel => exact ⟨_, rfl, ⟨js ++ [j], HNJ.out.1, HNJ.out.2, (HB7.out.block it (by omega)).trans HI6.out, (HB7.out.block (B + 1) (by have := HBI.out; omega)).trans HTK6.out, (HB7.out.block (B + 1 + 1 + 1) (by have := HBI.out; omega)).trans HST6.out, HB6.out.trans (HB7.out.mono (by have := HWI.out; omega)), HO7.out⟩⟩
                            case measure =>
                              rw [(HB7.out.block it (by omega)).trans HI6.out, HIT.out]
                              simp only [seenN, List.size_toArray, List.length_append, List.length_cons, List.length_nil]
                              have := HMEAS.out
                              omega
end
end Go.Proofs.Ytdlfmobnmcamaaa.Q
