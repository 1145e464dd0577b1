/- The law PropNorms, walked. Written for this claim. -/
import Derived.Test.YtdlfmobnmcamaaaPropEv
import Derived.Test.YtdlfmobnmcamaaaUnitHead
import Derived.Outline
namespace Go.Proofs.Ytdlfmobnmcamaaa.Q
open Go.RowKit Go.Proofs.YtdlfmobnmcamaaaW.PrintWords Go.Proofs.YtdlfmobnmcamaaaW.PrintLast Go.Proofs.YtdlfmobnmcamaaaW.PrintMore
set_option linter.unusedVariables false
set_option linter.unusedSimpArgs false
theorem any_same {a c : List Int} (h : ∀ x, x ∈ c ↔ x ∈ a) (m : List Bool) : c.any (litTrue m) = a.any (litTrue m) := by
  rw [Bool.eq_iff_iff, List.any_eq_true, List.any_eq_true]
  exact ⟨fun ⟨x, hx, ht⟩ => ⟨x, (h x).1 hx, ht⟩, fun ⟨x, hx, ht⟩ => ⟨x, (h x).2 hx, ht⟩⟩
theorem unclear_any {a : List Int} (hs : ∀ y ∈ a, Sm y) (h : ¬ Clear a) {m : List Bool} (hm : m.length = 8) : a.any (litTrue m) = true := by
  have : ∃ x ∈ a, ∃ y ∈ a, pvar x = pvar y ∧ x ≠ y := by
    apply Classical.byContradiction
    intro hno
    refine h ⟨fun x hx => by have := pvar_pos (hs x hx).lt; omega, fun x hx y hy e => ?_⟩
    apply Classical.byContradiction
    intro hne
    exact hno ⟨x, hx, y, hy, e, hne⟩
  obtain ⟨x, hx, y, hy, e, hne⟩ := this
  rcases pvar_eq (hs x hx).lt (hs y hy).lt e with e1 | e1
  · exact absurd e1 hne
  · rw [List.any_eq_true]
    rcases true_or (m := m) (hs x hx).lt (by have := (hs x hx).pv; omega) with t | t
    · exact ⟨x, hx, t⟩
    · exact ⟨y, hy, e1 ▸ t⟩
set_option maxHeartbeats 16000000 in
set_option maxRecDepth 100000 in
theorem norms_any (A0 : Option Addr) (c0 : Nat) (l0 : List Int) (w : World) (hr0 : Kd.C (Kd.int .i64) w A0 l0.length l0) (hc0 : l0.length ≤ c0) (hw : ∀ y ∈ l0, Wf y) :
    Calls Try.prog 13 #[.slice A0 l0.length c0] w fun e w' => e = .returned (.bool true) ∧ Below w.heap.size w w' := by
  obtain ⟨a, ha⟩ : ∃ a, knownOf l0 8 = a := ⟨_, rfl⟩
  have hsm : ∀ y ∈ a, Sm y := by rw [← ha]; exact known_sm hw 8
  have hal : a.length ≤ 8 := by rw [← ha]; exact known_len l0 8
  obtain ⟨ks, hks⟩ := Ev.rounds (small_ev (l0.take 8) (by rw [List.length_take]; omega))
  rw [show smallOf (l0.take 8) = a from ha] at hks
  obtain ⟨c, ok, hn⟩ : ∃ c ok, normOf a = (c, ok) := ⟨_, _, rfl⟩
  obtain ⟨q, hq⟩ : ∃ q, l0.take 8 = q := ⟨_, rfl⟩
  have hcut := cut_f l0 8 (by omega)
  rw [hq] at hcut hks
  have HSM := Aside0.mk hsm
  have HAL := Aside0.mk hal
  have HN := Aside0.mk hn
  have K1 := Aside0.mk (head18_any w)
  have HR0 := Aside0.mk hr0
  have HC0 := Aside0.mk hc0
  have HCUT := Aside0.mk hcut
  have HKS := Aside0.mk hks
  have HNF : Aside0 (prop_Norm.f a = some (c, ok)) := ⟨by unfold prop_Norm.f; rw [if_pos (by omega), hn]⟩
  clear ha hsm hal hks hn hq hcut hr0 hc0 hw
  go_enter Try.func13, Try.ntmps13
  go_wp2_with fail
  refine K1.out.mono ?_
  rintro e w1 ⟨rfl, hb⟩
  have HB1 := Aside0.mk hb
  clear hb K1
  go_wp2_with fail
  refine (proofmarkref18_Cut.calls A0 c0 l0 8 q w1 (Kd.C_below HR0.out HB1.out) HC0.out HCUT.out).mono ?_
  rintro e w2 ⟨v2, rfl, ho, hb⟩
  obtain ⟨A2, c2, rfl⟩ := Kd.R_slice ho
  have HO2 := Aside0.mk (Kd.R_reads' ho)
  have HB2 := Aside0.mk (below_then HB1.out HB1.out.size hb)
  clear ho hb HB1
  go_wp2_with fail
  refine (proofmarkref18_Small.calls ks A2 c2 q a w2 HO2.out.2.2 HO2.out.2.1 HKS.out).mono ?_
  rintro e w3 ⟨v3, rfl, ho, hb⟩
  obtain ⟨A3, c3, rfl⟩ := Kd.R_slice ho
  have HO3 := Aside0.mk (Kd.R_reads' ho)
  have HB3 := Aside0.mk (below_then HB2.out HB2.out.size hb)
  clear ho hb HB2 HO2
  go_wp2_with fail
  refine (prop_Norm.calls A3 c3 a c ok w3 HO3.out.2.2 HO3.out.2.1 HNF.out).mono ?_
  rintro e w4 ⟨v4, rfl, ho, hb⟩
  obtain ⟨A4, c4, rfl⟩ := Kd.R_slice ho
  have HO4 := Aside0.mk (Kd.R_reads' ho)
  have HO34 := Aside0.mk (Kd.C_below HO3.out.2.2 hb)
  have HC3 := Aside0.mk HO3.out.2.1
  have HB4 := Aside0.mk (below_then HB3.out HB3.out.size hb)
  clear ho hb HB3 HO3
  go_wp2_with fail
  cases ok with
  | true =>
    have hmem : Aside0 ((∀ x, x ∈ c ↔ x ∈ a) ∧ Rise c ∧ Clear c) := ⟨by
      have hcl : Clear a := Classical.byContradiction fun h => by have := HN.out; rw [norm_unclear h] at this; cases this
      obtain ⟨o, e, hm, hr⟩ := norm_clear hcl
      rw [HN.out] at e
      obtain rfl : c = o := (Prod.mk.inj e).1
      exact ⟨hm, hr, rise_clear hr fun x hx => hcl.1 x ((hm x).1 hx)⟩⟩
    have HNF2 : Aside0 (prop_Norm.f c = some (c, true)) := ⟨by
      obtain ⟨o, e, hm, hr⟩ := norm_clear hmem.out.2.2
      have : c = o := rise_eq hmem.out.2.1 hr fun x => (hm x).symm
      have hl : c.length ≤ 8 := rise_len hmem.out.2.1 fun y hy => HSM.out y ((hmem.out.1 y).1 hy)
      unfold prop_Norm.f
      rw [if_pos (by omega), e, ← this]⟩
    go_loopw [7] (fun v7 w' => ∃ n : Nat, v7 = .int .i64 (n : Int) ∧ n ≤ 256 ∧ Aside0 (Below w4.heap.size w4 w')) (fun v7 _ => 256 - (intOf v7).toNat)
    case atStart => exact ⟨0, rfl, by omega, ⟨Below.refl _ _⟩⟩
    case round =>
      obtain ⟨n, rfl, hn, HB⟩ := hrel
      by_cases hlt : n < 256
      · obtain ⟨km, hkm⟩ := Ev.rounds (model_ev (n : Int) 8 (by omega))
        obtain ⟨m, hm⟩ : ∃ m, modelOf 8 (n : Int) = m := ⟨_, rfl⟩
        rw [hm] at hkm
        have HKM := Aside0.mk hkm
        have hany := any_same hmem.out.1 m
        obtain ⟨b, hb⟩ : ∃ b, a.any (litTrue m) = b := ⟨_, rfl⟩
        have HA : Aside0 (([a].all fun c => c.any (litTrue m)) = b) := ⟨by simpa using hb⟩
        have HC : Aside0 (([c].all fun c => c.any (litTrue m)) = b) := ⟨by rw [hb] at hany; simpa using hany⟩
        clear hkm hm hany hb
        go_wp2_with fail
        refine (proofmarkref18_Model.calls km n 8 m _ HKM.out).mono ?_
        rintro e w5 ⟨v5, rfl, ho, hb⟩
        obtain ⟨A5, c5, rfl⟩ := Kd.R_slice ho
        have HO5 := Aside0.mk (Kd.R_reads' ho)
        have HB5 := Aside0.mk (below_then HB.out HB.out.size hb)
        clear ho hb
        go_wp2_with fail
        have KA := met_any (some ⟨w5.heap.size, 0, none⟩) 1 [a] A5 c5 m (w5.alloc (.cells #[.slice A3 a.length c3] 23)) (one_row (Kd.C_below HO34.out (below_alloc HB5.out _)) HC3.out w5.heap.size 23 (alloc_new w5 _)) (by simp) (Kd.C_below HO5.out.2.2 (below_alloc (Below.refl _ _) _))
        rw [show [a].length = 1 from rfl, HA.out] at KA
        refine KA.mono ?_
        rintro e w6 ⟨rfl, hb⟩
        have HB6 := Aside0.mk (below_then (below_alloc HB5.out _) (below_alloc HB5.out (.cells #[.slice A3 a.length c3] 23)).size hb)
        have HO56 := Aside0.mk (Kd.C_below (Kd.C_below HO5.out.2.2 (below_alloc (Below.refl _ _) (.cells #[.slice A3 a.length c3] 23))) hb)
        clear hb KA
        go_wp2_with fail
        have KC := met_any (some ⟨w6.heap.size, 0, none⟩) 1 [c] A5 c5 m (w6.alloc (.cells #[.slice A4 c.length c4] 23)) (one_row (Kd.C_below HO4.out.2.2 (below_alloc HB6.out _)) HO4.out.2.1 w6.heap.size 23 (alloc_new w6 _)) (by simp) (Kd.C_below HO56.out (below_alloc (Below.refl _ _) _))
        rw [show [c].length = 1 from rfl, HC.out] at KC
        refine KC.mono ?_
        rintro e w7 ⟨rfl, hb⟩
        have HB7 := Aside0.mk (below_then (below_alloc HB6.out _) (below_alloc HB6.out (.cells #[.slice A4 c.length c4] 23)).size hb)
        have hbb : (b != b) = false := by cases b <;> rfl
        clear hb KC
        go_wp2_with fail
        go_roundw
        case rel => exact ⟨n + 1, by go_num, by omega, HB7⟩
        case measure => simp [intOf]; omega
      · go_wp2_with fail
        refine (prop_Norm.calls A4 c4 c c true _ (Kd.C_below HO4.out.2.2 HB.out) HO4.out.2.1 HNF2.out).mono ?_
        rintro e w8 ⟨v8, rfl, ho, hb⟩
        obtain ⟨A8, c8, rfl⟩ := Kd.R_slice ho
        have HO8 := Aside0.mk (Kd.R_reads' ho)
        have HB8 := Aside0.mk (below_then HB.out HB.out.size hb)
        clear ho hb
        have hcl : c.length ≤ 8 := rise_len hmem.out.2.1 fun y hy => HSM.out y ((hmem.out.1 y).1 hy)
        obtain ⟨kz, hkz⟩ := Ev.rounds (same_ev c c (by omega))
        rw [decide_eq_true rfl] at hkz
        have HKZ := Aside0.mk hkz
        clear hkz hcl
        go_wp2_with fail
        refine (proofmarkref18_Same.calls kz A4 c4 c A8 c8 c true _ (Kd.C_below HO4.out.2.2 HB8.out) HO4.out.2.1 HO8.out.2.2 HO8.out.2.1 HKZ.out).mono ?_
        rintro e w9 ⟨rfl, ⟨⟨n9, rfl⟩⟩⟩
        go_wp2_with fail
        go_ret
        exact ⟨rfl, pw_below_drewN (below_then HB4.out HB4.out.size HB8.out) _⟩
  | false =>
    have hunc : Aside0 (¬ Clear a) := ⟨fun hcl => by
      obtain ⟨o, e, hm, hr⟩ := norm_clear hcl
      rw [HN.out] at e
      cases (Prod.mk.inj e).2⟩
    have hcl8 : c.length ≤ 8 := by
      have := HN.out
      rw [norm_unclear hunc.out] at this
      rw [← (Prod.mk.inj this).1]; simp
    obtain ⟨d, t, hdt⟩ : ∃ d t, normOf c = (d, t) := ⟨_, _, rfl⟩
    have HNF2 : Aside0 (prop_Norm.f c = some (d, t)) := ⟨by unfold prop_Norm.f; rw [if_pos (by omega), hdt]⟩
    clear hcl8 hdt
    go_loopw [7] (fun v7 w' => ∃ n : Nat, v7 = .int .i64 (n : Int) ∧ n ≤ 256 ∧ Aside0 (Below w4.heap.size w4 w')) (fun v7 _ => 256 - (intOf v7).toNat)
    case atStart => exact ⟨0, rfl, by omega, ⟨Below.refl _ _⟩⟩
    case round =>
      obtain ⟨n, rfl, hn, HB⟩ := hrel
      by_cases hlt : n < 256
      · obtain ⟨km, hkm⟩ := Ev.rounds (model_ev (n : Int) 8 (by omega))
        have HA : Aside0 (([a].all fun c => c.any (litTrue (modelOf 8 (n : Int)))) = true) := ⟨by simpa using unclear_any HSM.out hunc.out (modelOf_len 8 _)⟩
        obtain ⟨m, hm⟩ : ∃ m, modelOf 8 (n : Int) = m := ⟨_, rfl⟩
        rw [hm] at hkm HA
        have HKM := Aside0.mk hkm
        clear hkm hm
        go_wp2_with fail
        refine (proofmarkref18_Model.calls km n 8 m _ HKM.out).mono ?_
        rintro e w5 ⟨v5, rfl, ho, hb⟩
        obtain ⟨A5, c5, rfl⟩ := Kd.R_slice ho
        have HO5 := Aside0.mk (Kd.R_reads' ho)
        have HB5 := Aside0.mk (below_then HB.out HB.out.size hb)
        clear ho hb
        go_wp2_with fail
        have KA := met_any (some ⟨w5.heap.size, 0, none⟩) 1 [a] A5 c5 m (w5.alloc (.cells #[.slice A3 a.length c3] 23)) (one_row (Kd.C_below HO34.out (below_alloc HB5.out _)) HC3.out w5.heap.size 23 (alloc_new w5 _)) (by simp) (Kd.C_below HO5.out.2.2 (below_alloc (Below.refl _ _) _))
        rw [show [a].length = 1 from rfl, HA.out] at KA
        refine KA.mono ?_
        rintro e w6 ⟨rfl, hb⟩
        have HB6 := Aside0.mk (below_then (below_alloc HB5.out _) (below_alloc HB5.out (.cells #[.slice A3 a.length c3] 23)).size hb)
        clear hb KA
        go_wp2_with fail
        go_roundw
        case rel => exact ⟨n + 1, by go_num, by omega, HB6⟩
        case measure => simp [intOf]; omega
      · go_wp2_with fail
        refine (prop_Norm.calls A4 c4 c d t _ (Kd.C_below HO4.out.2.2 HB.out) HO4.out.2.1 HNF2.out).mono ?_
        rintro e w8 ⟨v8, rfl, ho, hb⟩
        obtain ⟨A8, c8, rfl⟩ := Kd.R_slice ho
        have HB8 := Aside0.mk (below_then HB.out HB.out.size hb)
        clear ho hb
        go_wp2_with fail
        go_ret
        exact ⟨rfl, below_then HB4.out HB4.out.size HB8.out⟩
end Go.Proofs.Ytdlfmobnmcamaaa.Q
