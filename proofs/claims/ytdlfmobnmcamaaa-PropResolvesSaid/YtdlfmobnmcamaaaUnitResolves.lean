/- The law PropResolves, walked. Written for this claim. -/
import Derived.Test.YtdlfmobnmcamaaaPropEv
import Derived.Test.YtdlfmobnmcamaaaUnitHead
import Derived.Outline
namespace Go.Proofs.Ytdlfmobnmcamaaa.Q
open Go.RowKit Go.Proofs.YtdlfmobnmcamaaaW.PrintWords Go.Proofs.YtdlfmobnmcamaaaW.PrintLast Go.Proofs.YtdlfmobnmcamaaaW.PrintMore
set_option linter.unusedVariables false
set_option linter.unusedSimpArgs false
theorem pair_row {w : World} {A A' : Option Addr} {c c' : Nat} {xs ys : List Int} (h : (Kd.int .i64).C w A xs.length xs) (hc : xs.length ≤ c) (h' : (Kd.int .i64).C w A' ys.length ys) (hc' : ys.length ≤ c') (g : Nat) (e : TypeId) (hg : w.heap[g]? = some (.cells #[.slice A xs.length c, .slice A' ys.length c'] e (0, 0))) : Kd.C (Kd.slice 3 (Kd.int .i64)) w (some ⟨g, 0, none⟩) [xs, ys].length [xs, ys] := by
  refine ⟨rfl, by simp, fun _ => ⟨_, rfl, fun j p hj => ?_⟩⟩
  have hj2 : j < 2 := by
    have := (List.getElem?_eq_some_iff.1 hj).1
    simpa using this
  have ha : ∀ k i, (⟨g, 0, none⟩ : Addr).add (k * (Kd.slice 3 (Kd.int .i64)).sz + i) = ⟨g, k + i, none⟩ := fun k i => by
    rw [show k * (Kd.slice 3 (Kd.int .i64)).sz + i = k + i by show k * 1 + i = k + i; omega]
    exact add_plain g _
  rcases (show j = 0 ∨ j = 1 by omega) with rfl | rfl
  · simp at hj
    subst hj
    refine ⟨[.slice A xs.length c], rfl, ⟨A, c, rfl, hc, h⟩, fun i u hu => ?_⟩
    have hi : i = 0 := by
      have := (List.getElem?_eq_some_iff.1 hu).1
      simp at this
      exact this
    subst hi
    simp at hu
    subst hu
    rw [ha, cell_of_row w g _ _ e _ hg]
    rfl
  · simp at hj
    subst hj
    refine ⟨[.slice A' ys.length c'], rfl, ⟨A', c', rfl, hc', h'⟩, fun i u hu => ?_⟩
    have hi : i = 0 := by
      have := (List.getElem?_eq_some_iff.1 hu).1
      simp at this
      exact this
    subst hi
    simp at hu
    subst hu
    rw [ha, cell_of_row w g _ _ e _ hg]
    rfl
theorem rdi' (c : List Int) (j : Nat) (h : j < c.length) : YtdlfmobnmcamaaaW.PrintWords.rd c (j : Int) = c[j] := by simp [YtdlfmobnmcamaaaW.PrintWords.rd, List.getD_eq_getElem?_getD, h]
/-- What is resolved, member by member. -/
theorem res_spec {a b : List Int} {v : Int} (ha : ∀ y ∈ a, Sm y) (hb : ∀ y ∈ b, Sm y) :
    resOf a b v = ([], false) ∨ (1 ≤ v ∧ v ∈ a ∧ neg v ∈ b ∧ ∃ c, resOf a b v = (c, true) ∧ c.length ≤ 16 ∧ (∀ x ∈ c, x ∈ a ∨ x ∈ b) ∧ ∀ m : List Bool, a.any (litTrue m) = true → b.any (litTrue m) = true → c.any (litTrue m) = true) := by
  unfold resOf
  by_cases h : 1 ≤ v ∧ v ∈ a ∧ wrap64 (-v) ∈ b
  · rw [if_pos h]
    have hv := ha v h.2.1
    by_cases hcl : Clear (resRow a b v)
    · obtain ⟨c, e, hm, hr⟩ := norm_clear hcl
      have hsub : ∀ x ∈ c, x ∈ a ∨ x ∈ b := fun x hx => by
        have := (hm x).1 hx
        simp only [resRow, List.mem_append, List.mem_filter] at this
        exact this.imp (·.1) (·.1)
      refine .inr ⟨h.1, h.2.1, h.2.2, c, e, ?_, hsub, fun m hA hB => ?_⟩
      · have := rise_len hr fun y hy => (hsub y hy).elim (ha y) (hb y)
        omega
      · obtain ⟨x, hx, tx⟩ := List.any_eq_true.1 hA
        obtain ⟨y, hy, ty⟩ := List.any_eq_true.1 hB
        rw [List.any_eq_true]
        by_cases e1 : x = v
        · subst e1
          have hyv : y ≠ wrap64 (-x) := fun e2 => true_neg hv.lt tx (by rw [e2] at ty; exact ty)
          exact ⟨y, (hm y).2 (by simp only [resRow, List.mem_append, List.mem_filter]; exact .inr ⟨hy, by simpa using hyv⟩), ty⟩
        · exact ⟨x, (hm x).2 (by simp only [resRow, List.mem_append, List.mem_filter]; exact .inl ⟨hx, by simpa using e1⟩), tx⟩
    · exact .inl (norm_unclear hcl)
  · rw [if_neg h]; exact .inl rfl
set_option maxHeartbeats 16000000 in
set_option maxRecDepth 100000 in
theorem resolves_any (A0 : Option Addr) (c0 : Nat) (l0 : List Int) (A1 : Option Addr) (c1 : Nat) (l1 : List Int) (v : Int) (w : World) (hr0 : Kd.C (Kd.int .i64) w A0 l0.length l0) (hc0 : l0.length ≤ c0) (hr1 : Kd.C (Kd.int .i64) w A1 l1.length l1) (hc1 : l1.length ≤ c1) (hw0 : ∀ y ∈ l0, Wf y) (hw1 : ∀ y ∈ l1, Wf y) :
    Calls Try.prog 12 #[.slice A0 l0.length c0, .slice A1 l1.length c1, .int .i64 v] w fun e w' => e = .returned (.bool true) ∧ Below w.heap.size w w' := by
  obtain ⟨a, ha⟩ : ∃ a, knownOf l0 8 = a := ⟨_, rfl⟩
  obtain ⟨b, hb⟩ : ∃ b, knownOf l1 8 = b := ⟨_, rfl⟩
  have HSA : Aside0 (∀ y ∈ a, Sm y) := ⟨by rw [← ha]; exact known_sm hw0 8⟩
  have HSB : Aside0 (∀ y ∈ b, Sm y) := ⟨by rw [← hb]; exact known_sm hw1 8⟩
  have HAL : Aside0 (a.length ≤ 8) := ⟨by rw [← ha]; exact known_len l0 8⟩
  have HBL : Aside0 (b.length ≤ 8) := ⟨by rw [← hb]; exact known_len l1 8⟩
  obtain ⟨ka, hka⟩ := Ev.rounds (small_ev (l0.take 8) (by rw [List.length_take]; omega))
  rw [show smallOf (l0.take 8) = a from ha] at hka
  obtain ⟨kb, hkb⟩ := Ev.rounds (small_ev (l1.take 8) (by rw [List.length_take]; omega))
  rw [show smallOf (l1.take 8) = b from hb] at hkb
  obtain ⟨qa, hqa⟩ : ∃ q, l0.take 8 = q := ⟨_, rfl⟩
  obtain ⟨qb, hqb⟩ : ∃ q, l1.take 8 = q := ⟨_, rfl⟩
  have hcuta := cut_f l0 8 (by omega)
  have hcutb := cut_f l1 8 (by omega)
  rw [hqa] at hcuta hka
  rw [hqb] at hcutb hkb
  have K1 := Aside0.mk (head18_any w)
  have HR0 := Aside0.mk hr0
  have HC0 := Aside0.mk hc0
  have HR1 := Aside0.mk hr1
  have HC1 := Aside0.mk hc1
  have HCA := Aside0.mk hcuta
  have HCB := Aside0.mk hcutb
  have HKA := Aside0.mk hka
  have HKB := Aside0.mk hkb
  have HRF : Aside0 (∃ c ok, prop_Resolve.f a b v = some (c, ok) ∧ ((c = [] ∧ ok = false) ∨ (ok = true ∧ 1 ≤ v ∧ v ∈ a ∧ neg v ∈ b ∧ c.length ≤ 16 ∧ (∀ x ∈ c, x ∈ a ∨ x ∈ b) ∧ ∀ m : List Bool, a.any (litTrue m) = true → b.any (litTrue m) = true → c.any (litTrue m) = true))) := ⟨by
    have h1 := HAL.out
    have h2 := HBL.out
    rcases res_spec (v := v) HSA.out HSB.out with e | ⟨g1, g2, g3, c, e, g4, g5, g6⟩
    · exact ⟨[], false, by unfold prop_Resolve.f; rw [if_pos (by omega), e], .inl ⟨rfl, rfl⟩⟩
    · exact ⟨c, true, by unfold prop_Resolve.f; rw [if_pos (by omega), e], .inr ⟨rfl, g1, g2, g3, g4, g5, g6⟩⟩⟩
  clear ha hb hka hkb hqa hqb hcuta hcutb hr0 hc0 hr1 hc1 hw0 hw1
  obtain ⟨c, ok, hrf, hsp⟩ := HRF.out
  have HRF2 := Aside0.mk hrf
  have HSP := Aside0.mk hsp
  clear hrf hsp HRF
  go_enter Try.func12, Try.ntmps12
  go_wp2_with fail
  refine K1.out.mono ?_
  rintro e w1 ⟨rfl, hb⟩
  have HB1 := Aside0.mk hb
  clear hb K1
  go_wp2_with fail
  refine (proofmarkref18_Cut.calls A0 c0 l0 8 qa w1 (Kd.C_below HR0.out HB1.out) HC0.out HCA.out).mono ?_
  rintro e w2 ⟨v2, rfl, ho, hb⟩
  obtain ⟨A2, c2, rfl⟩ := Kd.R_slice ho
  have HO2 := Aside0.mk (Kd.R_reads' ho)
  have HB2 := Aside0.mk (below_then HB1.out HB1.out.size hb)
  clear ho hb HB1
  go_wp2_with fail
  refine (proofmarkref18_Small.calls ka A2 c2 qa a w2 HO2.out.2.2 HO2.out.2.1 HKA.out).mono ?_
  rintro e w3 ⟨v3, rfl, ho, hb⟩
  obtain ⟨A3, c3, rfl⟩ := Kd.R_slice ho
  have HO3 := Aside0.mk (Kd.R_reads' ho)
  have HB3 := Aside0.mk (below_then HB2.out HB2.out.size hb)
  clear ho hb HB2 HO2
  go_wp2_with fail
  refine (proofmarkref18_Cut.calls A1 c1 l1 8 qb w3 (Kd.C_below HR1.out HB3.out) HC1.out HCB.out).mono ?_
  rintro e w4 ⟨v4, rfl, ho, hb⟩
  obtain ⟨A4, c4, rfl⟩ := Kd.R_slice ho
  have HO4 := Aside0.mk (Kd.R_reads' ho)
  have HO34 := Aside0.mk (Kd.C_below HO3.out.2.2 hb)
  have HCa := Aside0.mk HO3.out.2.1
  have HB4 := Aside0.mk (below_then HB3.out HB3.out.size hb)
  clear ho hb HB3 HO3
  go_wp2_with fail
  refine (proofmarkref18_Small.calls kb A4 c4 qb b w4 HO4.out.2.2 HO4.out.2.1 HKB.out).mono ?_
  rintro e w5 ⟨v5, rfl, ho, hb⟩
  obtain ⟨A5, c5, rfl⟩ := Kd.R_slice ho
  have HO5 := Aside0.mk (Kd.R_reads' ho)
  have HO35 := Aside0.mk (Kd.C_below HO34.out hb)
  have HB5 := Aside0.mk (below_then HB4.out HB4.out.size hb)
  clear ho hb HB4 HO4 HO34
  go_wp2_with fail
  refine (prop_Resolve.calls A3 c3 a A5 c5 b v c ok w5 HO35.out HCa.out HO5.out.2.2 HO5.out.2.1 HRF2.out).mono ?_
  rintro e w6 ⟨v6, rfl, ho, hb⟩
  obtain ⟨A6, c6, rfl⟩ := Kd.R_slice ho
  have HO6 := Aside0.mk (Kd.R_reads' ho)
  have HOa := Aside0.mk (Kd.C_below HO35.out hb)
  have HOb := Aside0.mk (Kd.C_below HO5.out.2.2 hb)
  have HCb := Aside0.mk HO5.out.2.1
  have HB6 := Aside0.mk (below_then HB5.out HB5.out.size hb)
  clear ho hb HB5 HO5 HO35
  cases ok with
  | false =>
    obtain ⟨hc, _⟩ : c = [] ∧ True := by
      rcases HSP.out with h | h
      · exact ⟨h.1, trivial⟩
      · exact absurd h.1 (by simp)
    subst hc
    go_wp2_with fail
    go_ret
    exact ⟨rfl, HB6.out⟩
  | true =>
    obtain ⟨hsp⟩ : Aside0 (1 ≤ v ∧ v ∈ a ∧ neg v ∈ b ∧ c.length ≤ 16 ∧ (∀ x ∈ c, x ∈ a ∨ x ∈ b) ∧ ∀ m : List Bool, a.any (litTrue m) = true → b.any (litTrue m) = true → c.any (litTrue m) = true) := ⟨by
      rcases HSP.out with h | h
      · exact absurd h.2 (by simp)
      · exact h.2⟩
    have HX := Aside0.mk hsp
    clear hsp HSP
    go_wp2_with fail
    go_loopw [12] (fun v12 w' => ∃ n : Nat, v12 = .int .i64 (n : Int) ∧ n ≤ 256 ∧ Aside0 (Below w6.heap.size w6 w')) (fun v12 _ => 256 - (intOf v12).toNat)
    case atStart => exact ⟨0, rfl, by omega, ⟨Below.refl _ _⟩⟩
    case round =>
      obtain ⟨n, rfl, hn, HB⟩ := hrel
      by_cases hlt : n < 256
      · obtain ⟨km, hkm⟩ := Ev.rounds (model_ev (n : Int) 8 (by omega))
        obtain ⟨m, hm⟩ : ∃ m, modelOf 8 (n : Int) = m := ⟨_, rfl⟩
        rw [hm] at hkm
        have HKM := Aside0.mk hkm
        have himp := HX.out.2.2.2.2.2 m
        obtain ⟨bv, hbv⟩ : ∃ bv, ([a, b].all fun c => c.any (litTrue m)) = bv := ⟨_, rfl⟩
        have HBV := Aside0.mk hbv
        have HIMP : Aside0 (bv = true → ([c].all fun c => c.any (litTrue m)) = true) := ⟨fun e => by
          rw [e] at hbv
          simp only [List.all_cons, List.all_nil, Bool.and_true, Bool.and_eq_true] at hbv ⊢
          exact himp hbv.1 hbv.2⟩
        clear hkm hm himp hbv
        go_wp2_with fail
        refine (proofmarkref18_Model.calls km n 8 m _ HKM.out).mono ?_
        rintro e w7 ⟨v7, rfl, ho, hb⟩
        obtain ⟨A7, c7, rfl⟩ := Kd.R_slice ho
        have HO7 := Aside0.mk (Kd.R_reads' ho)
        have HB7 := Aside0.mk (below_then HB.out HB.out.size hb)
        clear ho hb
        go_wp2_with fail
        have KA := met_any (some ⟨w7.heap.size, 0, none⟩) 2 [a, b] A7 c7 m (w7.alloc (.cells #[.slice A3 a.length c3, .slice A5 b.length c5] 23)) (pair_row (Kd.C_below HOa.out (below_alloc HB7.out _)) HCa.out (Kd.C_below HOb.out (below_alloc HB7.out _)) HCb.out w7.heap.size 23 (alloc_new w7 _)) (by simp) (Kd.C_below HO7.out.2.2 (below_alloc (Below.refl _ _) _))
        rw [show [a, b].length = 2 from rfl, HBV.out] at KA
        have HBa := Aside0.mk (below_alloc HB7.out (.cells #[.slice A3 a.length c3, .slice A5 b.length c5] 23))
        have HO7' := Aside0.mk (Kd.C_below HO7.out.2.2 (below_alloc (Below.refl _ _) (.cells #[.slice A3 a.length c3, .slice A5 b.length c5] 23)))
        refine KA.mono ?_
        clear KA
        rintro e w8 ⟨rfl, hb⟩
        have HB8 := Aside0.mk (below_then HBa.out HBa.out.size hb)
        have HO8 := Aside0.mk (Kd.C_below HO7'.out hb)
        clear hb HBa HO7' HB7
        cases bv with
        | false =>
          clear HBV HIMP
          go_wp2_with fail
          go_roundw
          case rel => exact ⟨n + 1, by go_num, by omega, HB8⟩
          case measure => simp [intOf]; omega
        | true =>
          have HCC := Aside0.mk (HIMP.out rfl)
          clear HBV HIMP
          go_wp2_with fail
          have KC := met_any (some ⟨w8.heap.size, 0, none⟩) 1 [c] A7 c7 m (w8.alloc (.cells #[.slice A6 c.length c6] 23)) (one_row (Kd.C_below HO6.out.2.2 (below_alloc HB8.out _)) HO6.out.2.1 w8.heap.size 23 (alloc_new w8 _)) (by simp) (Kd.C_below HO8.out (below_alloc (Below.refl _ _) _))
          rw [show [c].length = 1 from rfl, HCC.out] at KC
          have HBc := Aside0.mk (below_alloc HB8.out (.cells #[.slice A6 c.length c6] 23))
          refine KC.mono ?_
          clear KC
          rintro e w9 ⟨rfl, hb⟩
          have HB9 := Aside0.mk (below_then HBc.out HBc.out.size hb)
          clear hb HBc
          go_wp2_with fail
          go_roundw
          case rel => exact ⟨n + 1, by go_num, by omega, HB9⟩
          case measure => simp [intOf]; omega
      · go_wp2_with fail
        go_loopw [14] (fun v14 w' => ∃ i : Nat, v14 = .int .i64 (i : Int) ∧ i ≤ c.length ∧ Aside0 (Below w6.heap.size w6 w')) (fun v14 _ => c.length - (intOf v14).toNat)
        case atStart => exact ⟨0, rfl, Nat.zero_le _, HB⟩
        case round =>
          obtain ⟨i, rfl, hi, HBi⟩ := hrel
          have hc16 := HX.out.2.2.2.1
          have ha8 := HAL.out
          have hb8 := HBL.out
          by_cases hlt2 : i < c.length
          · obtain ⟨ad, rfl, hx⟩ := Kd.at_int (Kd.C_below HO6.out.2.2 HBi.out) (i : Int) (by omega) (by omega)
            rw [Int.toNat_natCast, rdi' c i hlt2] at hx
            obtain ⟨y, hy⟩ : ∃ y, c[i] = y := ⟨_, rfl⟩
            have hyc : y ∈ c := by rw [← hy]; exact List.getElem_mem hlt2
            rw [hy] at hx
            obtain ⟨k1, hk1⟩ := Ev.rounds (has_ev a y (by omega))
            obtain ⟨k2, hk2⟩ := Ev.rounds (has_ev b y (by omega))
            have hor := HX.out.2.2.2.2.1 y hyc
            by_cases hya : y ∈ a
            · rw [decide_eq_true hya] at hk1
              have HK1 := Aside0.mk hk1
              clear hk1 hk2 hor hya hyc hy
              go_wp2_with fail
              refine (proofmarklaw18_has.calls k1 A3 c3 a y true _ (Kd.C_below HOa.out HBi.out) HCa.out HK1.out).mono ?_
              rintro e w9 ⟨rfl, ⟨⟨n9, rfl⟩⟩⟩
              go_wp2_with fail
              go_roundw
              case rel => exact ⟨i + 1, by go_num, by omega, ⟨pw_below_drewN HBi.out _⟩⟩
              case measure => simp [intOf]; omega
            · have hyb := hor.resolve_left hya
              rw [decide_eq_false hya] at hk1
              rw [decide_eq_true hyb] at hk2
              have HK1 := Aside0.mk hk1
              have HK2 := Aside0.mk hk2
              clear hk1 hk2 hor hya hyb hyc hy
              go_wp2_with fail
              refine (proofmarklaw18_has.calls k1 A3 c3 a y false _ (Kd.C_below HOa.out HBi.out) HCa.out HK1.out).mono ?_
              rintro e w9 ⟨rfl, ⟨⟨n9, rfl⟩⟩⟩
              go_wp2_with fail
              refine (proofmarklaw18_has.calls k2 A5 c5 b y true _ (Kd.C_below HOb.out (pw_below_drewN HBi.out _)) HCb.out HK2.out).mono ?_
              rintro e w10 ⟨rfl, ⟨⟨n10, rfl⟩⟩⟩
              go_wp2_with fail
              go_roundw
              case rel => exact ⟨i + 1, by go_num, by omega, ⟨by first | exact pw_below_drewN HBi.out _ | exact pw_below_drewN (pw_below_drewN HBi.out _) _⟩⟩
              case measure => simp [intOf]; omega
          · obtain ⟨k1, hk1⟩ := Ev.rounds (has_ev a v (by omega))
            obtain ⟨k2, hk2⟩ := Ev.rounds (has_ev b (-v) (by omega))
            have hv := HSA.out v HX.out.2.1
            rw [decide_eq_true HX.out.2.1] at hk1
            have hnv : -v ∈ b := by have := HX.out.2.2.1; rw [neg_lt hv.lt] at this; exact this
            rw [decide_eq_true hnv] at hk2
            have HK1 := Aside0.mk hk1
            have HK2 := Aside0.mk hk2
            have hv1 := HX.out.1
            have hv2 : v ≤ 8 := by unfold Sm at hv; omega
            have hge : decide (v ≥ 1) = true := decide_eq_true hv1
            clear hk1 hk2 hnv hv
            go_wp2_with fail
            refine (proofmarklaw18_has.calls k1 A3 c3 a v true _ (Kd.C_below HOa.out HBi.out) HCa.out HK1.out).mono ?_
            rintro e w9 ⟨rfl, ⟨⟨n9, rfl⟩⟩⟩
            go_wp2_with fail
            refine (proofmarklaw18_has.calls k2 A5 c5 b (-v) true _ (Kd.C_below HOb.out (pw_below_drewN HBi.out _)) HCb.out HK2.out).mono ?_
            rintro e w10 ⟨rfl, ⟨⟨n10, rfl⟩⟩⟩
            go_wp2_with fail
            go_ret
            exact ⟨rfl, by first | exact pw_below_drewN (below_then HB6.out HB6.out.size HBi.out) _ | exact pw_below_drewN (pw_below_drewN (below_then HB6.out HB6.out.size HBi.out) _) _⟩
end Go.Proofs.Ytdlfmobnmcamaaa.Q
