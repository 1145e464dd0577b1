/- Scope: walks and plain laws of this seat's functions, merged out of smaller texts of this session (ScQ, ScR, ScS, ScT, ScU). -/
import Derived.Test.YtnfhlhjbmcofoaaM06
import Derived.Lib.Bytealg
import Derived.Laws.Externs
import Derived.WalkSpells
namespace Go.Proofs.Ytnfhlhjbmcofoaa.S
open Go.RowKit Go.Proofs.YtnfhlhjbmcofoaaW.PrintWords Go.Proofs.YtnfhlhjbmcofoaaW.PrintLast
set_option linter.unusedVariables false
set_option linter.unusedSimpArgs false
set_option maxHeartbeats 4000000 in
theorem snamed_any (k : Int) (w : World) : Calls Try.prog 29 #[.int .i64 k] w fun e w' => e = .returned (.bool (namedS k)) ∧ w' = w := by
  go_enter Try.func29, Try.ntmps29
  go_wp2
  all_goals (go_ret; refine ⟨ret_bool ?_, rfl⟩; (try simp only [bne_iff_ne, bne_eq_false_iff_eq, ne_eq] at *); unfold namedS; rw [Bool.eq_iff_iff]; simp; omega)
theorem has_param (ps : List ByteArray) (nm : ByteArray) : hasStr ps nm = decide (0 ≤ paramS ps nm) := (hasStr_idx ps nm).symm
theorem free_has (ps : List ByteArray) (x : S42) : freeS ps x = (!(x.f0.toList == []) && !hasStr ps x.f0) := by
  unfold freeS
  rw [has_param]
  congr 1
  by_cases h : 0 ≤ paramS ps x.f0
  · simp [h]
  · simp [h]; omega
theorem dims_fst (ps : List ByteArray) (l : List S42) : dimsS ps l = if (fst (gFree ps) l 0).isSome = true then 40 else 0 := by
  unfold dimsS
  rw [any_free ps l 0]
def isS (k : Int) (kinds : List Int) : Int := if k = 0 then 51 else if hasInt kinds k = true then 0 else 52
theorem is_3 (k a b c : Int) : isS k [a, b, c] = amongS k a b c := by
  unfold isS amongS hasInt
  by_cases h0 : k = 0
  · rw [if_pos h0, if_pos h0]
  rw [if_neg h0, if_neg h0]
  simp only [fst, gInt]
  by_cases ha : a = k
  · simp [ha]
  by_cases hb : b = k
  · simp [ha, hb]
  by_cases hc : c = k
  · simp [ha, hb, hc]
  · simp [ha, hb, hc]; omega
theorem is_1 (k a : Int) : isS k [a] = amongS k a a a := by
  unfold isS amongS hasInt
  by_cases h0 : k = 0
  · rw [if_pos h0, if_pos h0]
  rw [if_neg h0, if_neg h0]
  simp only [fst, gInt]
  by_cases ha : a = k
  · simp [ha]
  · simp [ha]; omega
/-- What a look is: a design's modules, and one of them. -/
structure LookAt (w : World) (A0 : Option Addr) (c0 : Nat) (l : List S34) (m : S34) (cs : List Value) : Prop where
  c : Kd.C k34 w A0 l.length l
  k : ∃ A1 c1 A2 c2 A3 c3, cs = [.slice A0 l.length c0, .string m.f0, .slice A1 m.f1.length c1, .slice A2 m.f2.length c2, .slice A3 m.f3.length c3] ∧ k34.K w m [.string m.f0, .slice A1 m.f1.length c1, .slice A2 m.f2.length c2, .slice A3 m.f3.length c3] ∧ m.f1.length ≤ c1 ∧ Kd.string.C w A1 m.f1.length m.f1 ∧ m.f2.length ≤ c2 ∧ k59.C w A2 m.f2.length m.f2 ∧ m.f3.length ≤ c3 ∧ k49.C w A3 m.f3.length m.f3
theorem LookAt.below {w w' : World} {A0 : Option Addr} {c0 : Nat} {l : List S34} {m : S34} {cs : List Value} (h : LookAt w A0 c0 l m cs) (hb : Below w.heap.size w w') : LookAt w' A0 c0 l m cs := by
  obtain ⟨hc, A1, c1, A2, c2, A3, c3, e, hk, h1, h2, h3, h4, h5, h6⟩ := h
  exact ⟨Kd.C_below hc hb, A1, c1, A2, c2, A3, c3, e, k34.K_below hb hk, h1, Kd.C_below h2 hb, h3, Kd.C_below h4 hb, h5, Kd.C_below h6 hb⟩
set_option maxHeartbeats 16000000 in
set_option maxRecDepth 100000 in
theorem sdims_any (A0 : Option Addr) (c0 : Nat) (l : List S34) (m : S34) (cs : List Value) (DA : Option Addr) (dc : Nat) (dl : List S42) (w : World) (h : LookAt w A0 c0 l m cs) (hd : Kd.C k42 w DA dl.length dl) :
    Calls Try.prog 42 #[.agg cs.toArray, .slice DA dl.length dc] w fun e w' => e = .returned (.int .i64 (dimsS m.f1 dl)) ∧ Below w.heap.size w w' := by
  obtain ⟨hc0, A1, c1, A2, c2, A3, c3, rfl, hKm, hl1, hC1, hl2, hC2, hl3, hC3⟩ := h
  have HC := Aside0.mk hc0
  have HMK := Aside0.mk hKm
  have HC1 := Aside0.mk hC1
  have HC2 := Aside0.mk hC2
  have HC3 := Aside0.mk hC3
  have HB : Aside0 (Below w.heap.size w w) := ⟨Below.refl _ _⟩
  have HD := Aside0.mk hd
  have hdm : dl.length ≤ 9223372036854775807 := hd.2.1
  rw [dims_fst]
  obtain ⟨z, hz⟩ : ∃ z, fst (gFree m.f1) dl 0 = z := ⟨_, rfl⟩
  rw [hz]
  have HZ := Aside0.mk hz
  obtain ⟨r, hr⟩ : ∃ r, (if z.isSome = true then (40 : Int) else 0) = r := ⟨_, rfl⟩
  rw [hr]
  have HR := Aside0.mk hr
  have K1 := Aside0.mk (fun nm w' (hb : Below w.heap.size w w') => containsStr A1 c1 m.f1 nm w' (Kd.C_below hC1 hb))
  clear hz hd hr
  clear hc0 hKm hl1 hC1 hl2 hC2 hl3 hC3
  go_enter Try.func42, Try.ntmps42
  go_wp2_with (first | ((with_reducible refine gate_dst (N := 2) rfl ?_); refine box_event ?hg (N := 2) ?hd (cs := #[.slice A0 l.length c0, .string m.f0, .slice A1 m.f1.length c1, .slice A2 m.f2.length c2, .slice A3 m.f3.length c3]) (t := 67) ?hr ?_; (case hd => rfl); (case hg => rfl); (case hr => first | (go_simp; done) | (go_simp; rfl)); intro g2 hg_ w2 hbox_ hb_; have BK2 := Aside0.mk (hbox_); have GBK2 : Aside0 (w.heap.size ≤ g2) := ⟨by rw [hg_]; exact below_size HB.out⟩; replace HB : Aside0 (Below w.heap.size w w2) := ⟨below_step HB.out hb_⟩; clear hg_ hbox_ hb_))
  go_loopw [9] (fun v wr => ∃ i : Nat, v = .int .i64 (i : Int) ∧ i ≤ dl.length ∧ Aside0 (fst (gFree m.f1) (dl.drop i) i = z) ∧ Aside0 (wr.heap[g2]? = some (.cells #[.slice A0 l.length c0, .string m.f0, .slice A1 m.f1.length c1, .slice A2 m.f2.length c2, .slice A3 m.f3.length c3] 67 (0, 0))) ∧ Aside0 (Below w.heap.size w wr)) (fun v _ => dl.length - (intOf v).toNat)
  case atStart => exact ⟨0, rfl, Nat.zero_le _, HZ, BK2, HB⟩
  case round =>
    clear BK2 HB
    obtain ⟨i, rfl, hi, HI, BK2, HB⟩ := hrel
    have hk2 : wr.cell? ⟨g2, 2, none⟩ = some (.slice A1 m.f1.length c1) := blk_cell BK2.out 2
    have hg2 : g2 < wr.heap.size := blk_lt BK2.out
    by_cases hlt : i < dl.length
    · obtain ⟨ad, rfl, hx0, hx1⟩ := at42 (Kd.C_below HD.out HB.out) i hlt
      have hi0 : (0 : Int) ≤ (i : Int) := by omega
      have hi1 : (i : Int) < (dl.length : Int) := by omega
      obtain ⟨x, hx⟩ : ∃ x, dl[i] = x := ⟨_, rfl⟩
      have HX := Aside0.mk hx
      rw [hx] at hx0 hx1
      have hfr := free_has m.f1 x
      clear hx
      cases hq : (x.f0.toList == [])
      · have hq2 : x.f0.toList.isEmpty = false := by simpa using hq
        have K1x := Aside0.mk (K1.out x.f0)
        obtain ⟨b, hb0⟩ : ∃ b, hasStr m.f1 x.f0 = b := ⟨_, rfl⟩
        rw [hb0] at K1x hfr
        have HFR := Aside0.mk hfr
        clear hb0 hfr
        go_wp2_with fail
        refine (K1x.out _ (below_alloc HB.out _)).mono ?_
        rintro e w4 ⟨rfl, hb⟩
        replace BK2 := Aside0.mk (blk_below (blk_alloc BK2.out _) hb)
        replace HB := Aside0.mk (below_step (below_alloc HB.out _) hb)
        clear hb hx0 hx1 hk2 hg2
        cases b
        · have HE := (fst_hit (gFree m.f1) dl i hlt (b := ()) (by unfold gFree; rw [HX.out, HFR.out, hq]; rfl)).symm.trans HI.out
          go_wp2
          go_ret
          exact ⟨by rw [← HR.out, ← HE]; rfl, HB.out⟩
        · have HE := (fst_miss (gFree m.f1) dl i hlt (by unfold gFree; rw [HX.out, HFR.out, hq]; rfl)).symm.trans HI.out
          go_wp2
          go_roundw
          case rel => exact ⟨i + 1, by go_num, by omega, ⟨HE⟩, BK2, HB⟩
          case measure => simp [intOf]; omega
      · have hq2 : x.f0.toList.isEmpty = true := by simpa using hq
        have hq3 : x.f0.toList = [] := by simpa using hq
        have HE := (fst_miss (gFree m.f1) dl i hlt (by unfold gFree; rw [HX.out, hfr, hq]; rfl)).symm.trans HI.out
        clear hfr
        go_wp2
        go_roundw
        case rel => exact ⟨i + 1, by go_num, by omega, ⟨HE⟩, ⟨blk_alloc BK2.out _⟩, ⟨below_alloc HB.out _⟩⟩
        case measure => simp [intOf]; omega
    · have HE := (fst_end (gFree m.f1) dl i (by omega)).symm.trans HI.out
      go_wp2
      go_ret
      exact ⟨by rw [← HR.out, ← HE]; rfl, HB.out⟩
set_option maxHeartbeats 16000000 in
set_option maxRecDepth 100000 in
theorem sis_any (A0 : Option Addr) (c0 : Nat) (l : List S34) (m : S34) (cs : List Value) (nm : ByteArray) (DA : Option Addr) (dc : Nat) (kinds : List Int) (w : World) (h : LookAt w A0 c0 l m cs) (hd : Kd.C (Kd.int .i64) w DA kinds.length kinds) :
    Calls Try.prog 56 #[.agg cs.toArray, .string nm, .slice DA kinds.length dc] w fun e w' => e = .returned (.int .i64 (isS (kindS m nm).1 kinds)) ∧ Below w.heap.size w w' := by
  obtain ⟨hc0, A1, c1, A2, c2, A3, c3, rfl, hKm, hl1, hC1, hl2, hC2, hl3, hC3⟩ := h
  have HC := Aside0.mk hc0
  have HMK := Aside0.mk hKm
  have HC1 := Aside0.mk hC1
  have HC2 := Aside0.mk hC2
  have HC3 := Aside0.mk hC3
  have HB : Aside0 (Below w.heap.size w w) := ⟨Below.refl _ _⟩
  have HD := Aside0.mk hd
  have K1 := Aside0.mk (fun w' (hb : Below w.heap.size w w') => skind_any m _ nm w' (k34.K_below hb hKm))
  obtain ⟨p, hp⟩ : ∃ p, kindS m nm = p := ⟨_, rfl⟩
  rw [hp] at K1 ⊢
  obtain ⟨k, j⟩ := p
  simp only at K1 ⊢
  have K2 := Aside0.mk (fun w' (hb : Below w.heap.size w w') => containsInt DA dc kinds k w' (Kd.C_below hd hb))
  obtain ⟨r, hr⟩ : ∃ r, isS k kinds = r := ⟨_, rfl⟩
  rw [hr]
  unfold isS at hr
  clear hd hp
  clear hc0 hKm hl1 hC1 hl2 hC2 hl3 hC3
  by_cases hk0 : k = 0
  · subst hk0
    have HR := Aside0.mk hr
    clear hr
    go_enter Try.func56, Try.ntmps56
    go_wp2_with (first | ((with_reducible refine gate_dst (N := 3) rfl ?_); refine box_event ?hg (N := 3) ?hd (cs := #[.slice A0 l.length c0, .string m.f0, .slice A1 m.f1.length c1, .slice A2 m.f2.length c2, .slice A3 m.f3.length c3]) (t := 67) ?hr ?_; (case hd => rfl); (case hg => rfl); (case hr => first | (go_simp; done) | (go_simp; rfl)); intro g3 hg_ w3 hbox_ hb_; have BK3 := Aside0.mk (hbox_); have GBK3 : Aside0 (w.heap.size ≤ g3) := ⟨by rw [hg_]; exact below_size HB.out⟩; replace HB : Aside0 (Below w.heap.size w w3) := ⟨below_step HB.out hb_⟩; clear hg_ hbox_ hb_; have HX1 : w3.cell? ⟨g3, 1, none⟩ = some (.string m.f0) := blk_cell BK3.out 1; have HX2 : w3.cell? ⟨g3, 2, none⟩ = some (.slice A1 m.f1.length c1) := blk_cell BK3.out 2; have HX3 : w3.cell? ⟨g3, 3, none⟩ = some (.slice A2 m.f2.length c2) := blk_cell BK3.out 3; have HX4 : w3.cell? ⟨g3, 4, none⟩ = some (.slice A3 m.f3.length c3) := blk_cell BK3.out 4))
    refine (K1.out _ HB.out).mono ?_
    rintro e w4 ⟨rfl, hb⟩
    go_wp2
    go_ret
    exact ⟨by rw [← HR.out]; rfl, below_step HB.out hb⟩
  · have hk1 : (k == 0) = false := by simpa using hk0
    rw [if_neg hk0] at hr
    obtain ⟨b, hb0⟩ : ∃ b, hasInt kinds k = b := ⟨_, rfl⟩
    rw [hb0] at K2 hr
    have HR := Aside0.mk hr
    clear hr hb0
    go_enter Try.func56, Try.ntmps56
    go_wp2_with (first | ((with_reducible refine gate_dst (N := 3) rfl ?_); refine box_event ?hg (N := 3) ?hd (cs := #[.slice A0 l.length c0, .string m.f0, .slice A1 m.f1.length c1, .slice A2 m.f2.length c2, .slice A3 m.f3.length c3]) (t := 67) ?hr ?_; (case hd => rfl); (case hg => rfl); (case hr => first | (go_simp; done) | (go_simp; rfl)); intro g3 hg_ w3 hbox_ hb_; have BK3 := Aside0.mk (hbox_); have GBK3 : Aside0 (w.heap.size ≤ g3) := ⟨by rw [hg_]; exact below_size HB.out⟩; replace HB : Aside0 (Below w.heap.size w w3) := ⟨below_step HB.out hb_⟩; clear hg_ hbox_ hb_; have HX1 : w3.cell? ⟨g3, 1, none⟩ = some (.string m.f0) := blk_cell BK3.out 1; have HX2 : w3.cell? ⟨g3, 2, none⟩ = some (.slice A1 m.f1.length c1) := blk_cell BK3.out 2; have HX3 : w3.cell? ⟨g3, 3, none⟩ = some (.slice A2 m.f2.length c2) := blk_cell BK3.out 3; have HX4 : w3.cell? ⟨g3, 4, none⟩ = some (.slice A3 m.f3.length c3) := blk_cell BK3.out 4))
    refine (K1.out _ HB.out).mono ?_
    rintro e w4 ⟨rfl, hb⟩
    replace HB := Aside0.mk (below_step HB.out hb)
    clear hb HX1 HX2 HX3 HX4
    go_wp2_with fail
    refine (K2.out _ HB.out).mono ?_
    rintro e w5 ⟨rfl, hb⟩
    replace HB := Aside0.mk (below_step HB.out hb)
    clear hb
    cases b
    · go_wp2
      go_ret
      exact ⟨by rw [← HR.out]; rfl, HB.out⟩
    · go_wp2
      go_ret
      exact ⟨by rw [← HR.out]; rfl, HB.out⟩
def kv9 : List (Int × Int) := [(1, 0), (2, 0), (3, 1), (4, 1), (5, 1), (18, 1), (19, 1), (20, 1), (16, 3)]
theorem kv9_takes (op : Int) : takesS op = match kv9.lookup op with
    | some n => n
    | none => if op < 1 ∨ op > 20 then -1 else 2 := by
  unfold kv9 takesS
  by_cases h1 : op = 1
  · subst h1; rfl
  have e1 : (op == 1) = false := by simpa using h1
  by_cases h2 : op = 2
  · subst h2; rfl
  have e2 : (op == 2) = false := by simpa using h2
  by_cases h3 : op = 3
  · subst h3; rfl
  have e3 : (op == 3) = false := by simpa using h3
  by_cases h4 : op = 4
  · subst h4; rfl
  have e4 : (op == 4) = false := by simpa using h4
  by_cases h5 : op = 5
  · subst h5; rfl
  have e5 : (op == 5) = false := by simpa using h5
  by_cases h18 : op = 18
  · subst h18; rfl
  have e18 : (op == 18) = false := by simpa using h18
  by_cases h19 : op = 19
  · subst h19; rfl
  have e19 : (op == 19) = false := by simpa using h19
  by_cases h20 : op = 20
  · subst h20; rfl
  have e20 : (op == 20) = false := by simpa using h20
  by_cases h16 : op = 16
  · subst h16; rfl
  have e16 : (op == 16) = false := by simpa using h16
  simp only [List.lookup_cons, List.lookup_nil, e1, e2, e3, e4, e5, e18, e19, e20, e16]
  by_cases h : op < 1 ∨ op > 20
  · rw [if_pos h, if_pos h]
  · rw [if_neg h, if_neg h, if_neg (by omega), if_neg (by omega), if_neg (by omega)]
set_option maxHeartbeats 16000000 in
set_option maxRecDepth 100000 in
theorem stakes_any (op : Int) (w : World) : Calls Try.prog 57 #[.int .i64 op] w fun e w' => e = .returned (.int .i64 (takesS op)) ∧ Below w.heap.size w w' := by
  rw [kv9_takes]
  have HLK := Aside0.mk (fun (w' : World) {g : Nat} (h : w'.heap[g]? = some (.map (iEs kv9) kv9.length)) => run_lookOk h op)
  cases hz : kv9.lookup op with
  | some n =>
    rw [hz] at HLK
    clear hz
    dsimp only [Option.getD, Option.isSome] at HLK ⊢
    go_enter Try.func57, Try.ntmps57
    go_wp2_with (first | ((with_reducible refine gate_dst (N := 6) rfl ?_); refine make_event rfl (N := 6) rfl rfl ?_; intro g6 hg6 w6 hm6 hb; have BK6 := Aside0.mk hm6; have GBK6 : Aside0 (w.heap.size ≤ g6) := ⟨by rw [hg6]; exact Nat.le_refl _⟩; have HB := Aside0.mk hb; clear hg6 hm6 hb) | ((with_reducible refine gate_ (.insert 76 (.tmp 6) (.const (.int .i64 1)) (.const (.int .i64 0))) rfl ?_); refine put_event rfl rfl (.tmp 6) 1 0 rfl (g := g6) (kv := []) rfl BK6.out rfl ?_; intro w60 hm6 hfar hsz hbel; replace BK6 := Aside0.mk hm6; replace HB := Aside0.mk (hbel _ GBK6.out w HB.out); clear hm6 hfar hsz hbel) | ((with_reducible refine gate_ (.insert 76 (.tmp 6) (.const (.int .i64 2)) (.const (.int .i64 0))) rfl ?_); refine put_event rfl rfl (.tmp 6) 2 0 rfl (g := g6) (kv := ([] ++ [(1, 0)])) rfl BK6.out rfl ?_; intro w61 hm6 hfar hsz hbel; replace BK6 := Aside0.mk hm6; replace HB := Aside0.mk (hbel _ GBK6.out w HB.out); clear hm6 hfar hsz hbel) | ((with_reducible refine gate_ (.insert 76 (.tmp 6) (.const (.int .i64 3)) (.const (.int .i64 1))) rfl ?_); refine put_event rfl rfl (.tmp 6) 3 1 rfl (g := g6) (kv := (([] ++ [(1, 0)]) ++ [(2, 0)])) rfl BK6.out rfl ?_; intro w62 hm6 hfar hsz hbel; replace BK6 := Aside0.mk hm6; replace HB := Aside0.mk (hbel _ GBK6.out w HB.out); clear hm6 hfar hsz hbel) | ((with_reducible refine gate_ (.insert 76 (.tmp 6) (.const (.int .i64 4)) (.const (.int .i64 1))) rfl ?_); refine put_event rfl rfl (.tmp 6) 4 1 rfl (g := g6) (kv := ((([] ++ [(1, 0)]) ++ [(2, 0)]) ++ [(3, 1)])) rfl BK6.out rfl ?_; intro w63 hm6 hfar hsz hbel; replace BK6 := Aside0.mk hm6; replace HB := Aside0.mk (hbel _ GBK6.out w HB.out); clear hm6 hfar hsz hbel) | ((with_reducible refine gate_ (.insert 76 (.tmp 6) (.const (.int .i64 5)) (.const (.int .i64 1))) rfl ?_); refine put_event rfl rfl (.tmp 6) 5 1 rfl (g := g6) (kv := (((([] ++ [(1, 0)]) ++ [(2, 0)]) ++ [(3, 1)]) ++ [(4, 1)])) rfl BK6.out rfl ?_; intro w64 hm6 hfar hsz hbel; replace BK6 := Aside0.mk hm6; replace HB := Aside0.mk (hbel _ GBK6.out w HB.out); clear hm6 hfar hsz hbel) | ((with_reducible refine gate_ (.insert 76 (.tmp 6) (.const (.int .i64 18)) (.const (.int .i64 1))) rfl ?_); refine put_event rfl rfl (.tmp 6) 18 1 rfl (g := g6) (kv := ((((([] ++ [(1, 0)]) ++ [(2, 0)]) ++ [(3, 1)]) ++ [(4, 1)]) ++ [(5, 1)])) rfl BK6.out rfl ?_; intro w65 hm6 hfar hsz hbel; replace BK6 := Aside0.mk hm6; replace HB := Aside0.mk (hbel _ GBK6.out w HB.out); clear hm6 hfar hsz hbel) | ((with_reducible refine gate_ (.insert 76 (.tmp 6) (.const (.int .i64 19)) (.const (.int .i64 1))) rfl ?_); refine put_event rfl rfl (.tmp 6) 19 1 rfl (g := g6) (kv := (((((([] ++ [(1, 0)]) ++ [(2, 0)]) ++ [(3, 1)]) ++ [(4, 1)]) ++ [(5, 1)]) ++ [(18, 1)])) rfl BK6.out rfl ?_; intro w66 hm6 hfar hsz hbel; replace BK6 := Aside0.mk hm6; replace HB := Aside0.mk (hbel _ GBK6.out w HB.out); clear hm6 hfar hsz hbel) | ((with_reducible refine gate_ (.insert 76 (.tmp 6) (.const (.int .i64 20)) (.const (.int .i64 1))) rfl ?_); refine put_event rfl rfl (.tmp 6) 20 1 rfl (g := g6) (kv := ((((((([] ++ [(1, 0)]) ++ [(2, 0)]) ++ [(3, 1)]) ++ [(4, 1)]) ++ [(5, 1)]) ++ [(18, 1)]) ++ [(19, 1)])) rfl BK6.out rfl ?_; intro w67 hm6 hfar hsz hbel; replace BK6 := Aside0.mk hm6; replace HB := Aside0.mk (hbel _ GBK6.out w HB.out); clear hm6 hfar hsz hbel) | ((with_reducible refine gate_ (.insert 76 (.tmp 6) (.const (.int .i64 16)) (.const (.int .i64 3))) rfl ?_); refine put_event rfl rfl (.tmp 6) 16 3 rfl (g := g6) (kv := (((((((([] ++ [(1, 0)]) ++ [(2, 0)]) ++ [(3, 1)]) ++ [(4, 1)]) ++ [(5, 1)]) ++ [(18, 1)]) ++ [(19, 1)]) ++ [(20, 1)])) rfl BK6.out rfl ?_; intro w68 hm6 hfar hsz hbel; replace BK6 := Aside0.mk hm6; replace HB := Aside0.mk (hbel _ GBK6.out w HB.out); clear hm6 hfar hsz hbel; have hlk := HLK.out w68 BK6.out))
    go_ret
    exact ⟨rfl, HB.out⟩
  | none =>
    rw [hz] at HLK
    clear hz
    dsimp only [Option.getD, Option.isSome] at HLK ⊢
    obtain ⟨r, hr⟩ : ∃ r, (if op < 1 ∨ op > 20 then (-1 : Int) else 2) = r := ⟨_, rfl⟩
    rw [hr]
    have HR := Aside0.mk hr
    clear hr
    go_enter Try.func57, Try.ntmps57
    go_wp2_with (first | ((with_reducible refine gate_dst (N := 6) rfl ?_); refine make_event rfl (N := 6) rfl rfl ?_; intro g6 hg6 w6 hm6 hb; have BK6 := Aside0.mk hm6; have GBK6 : Aside0 (w.heap.size ≤ g6) := ⟨by rw [hg6]; exact Nat.le_refl _⟩; have HB := Aside0.mk hb; clear hg6 hm6 hb) | ((with_reducible refine gate_ (.insert 76 (.tmp 6) (.const (.int .i64 1)) (.const (.int .i64 0))) rfl ?_); refine put_event rfl rfl (.tmp 6) 1 0 rfl (g := g6) (kv := []) rfl BK6.out rfl ?_; intro w60 hm6 hfar hsz hbel; replace BK6 := Aside0.mk hm6; replace HB := Aside0.mk (hbel _ GBK6.out w HB.out); clear hm6 hfar hsz hbel) | ((with_reducible refine gate_ (.insert 76 (.tmp 6) (.const (.int .i64 2)) (.const (.int .i64 0))) rfl ?_); refine put_event rfl rfl (.tmp 6) 2 0 rfl (g := g6) (kv := ([] ++ [(1, 0)])) rfl BK6.out rfl ?_; intro w61 hm6 hfar hsz hbel; replace BK6 := Aside0.mk hm6; replace HB := Aside0.mk (hbel _ GBK6.out w HB.out); clear hm6 hfar hsz hbel) | ((with_reducible refine gate_ (.insert 76 (.tmp 6) (.const (.int .i64 3)) (.const (.int .i64 1))) rfl ?_); refine put_event rfl rfl (.tmp 6) 3 1 rfl (g := g6) (kv := (([] ++ [(1, 0)]) ++ [(2, 0)])) rfl BK6.out rfl ?_; intro w62 hm6 hfar hsz hbel; replace BK6 := Aside0.mk hm6; replace HB := Aside0.mk (hbel _ GBK6.out w HB.out); clear hm6 hfar hsz hbel) | ((with_reducible refine gate_ (.insert 76 (.tmp 6) (.const (.int .i64 4)) (.const (.int .i64 1))) rfl ?_); refine put_event rfl rfl (.tmp 6) 4 1 rfl (g := g6) (kv := ((([] ++ [(1, 0)]) ++ [(2, 0)]) ++ [(3, 1)])) rfl BK6.out rfl ?_; intro w63 hm6 hfar hsz hbel; replace BK6 := Aside0.mk hm6; replace HB := Aside0.mk (hbel _ GBK6.out w HB.out); clear hm6 hfar hsz hbel) | ((with_reducible refine gate_ (.insert 76 (.tmp 6) (.const (.int .i64 5)) (.const (.int .i64 1))) rfl ?_); refine put_event rfl rfl (.tmp 6) 5 1 rfl (g := g6) (kv := (((([] ++ [(1, 0)]) ++ [(2, 0)]) ++ [(3, 1)]) ++ [(4, 1)])) rfl BK6.out rfl ?_; intro w64 hm6 hfar hsz hbel; replace BK6 := Aside0.mk hm6; replace HB := Aside0.mk (hbel _ GBK6.out w HB.out); clear hm6 hfar hsz hbel) | ((with_reducible refine gate_ (.insert 76 (.tmp 6) (.const (.int .i64 18)) (.const (.int .i64 1))) rfl ?_); refine put_event rfl rfl (.tmp 6) 18 1 rfl (g := g6) (kv := ((((([] ++ [(1, 0)]) ++ [(2, 0)]) ++ [(3, 1)]) ++ [(4, 1)]) ++ [(5, 1)])) rfl BK6.out rfl ?_; intro w65 hm6 hfar hsz hbel; replace BK6 := Aside0.mk hm6; replace HB := Aside0.mk (hbel _ GBK6.out w HB.out); clear hm6 hfar hsz hbel) | ((with_reducible refine gate_ (.insert 76 (.tmp 6) (.const (.int .i64 19)) (.const (.int .i64 1))) rfl ?_); refine put_event rfl rfl (.tmp 6) 19 1 rfl (g := g6) (kv := (((((([] ++ [(1, 0)]) ++ [(2, 0)]) ++ [(3, 1)]) ++ [(4, 1)]) ++ [(5, 1)]) ++ [(18, 1)])) rfl BK6.out rfl ?_; intro w66 hm6 hfar hsz hbel; replace BK6 := Aside0.mk hm6; replace HB := Aside0.mk (hbel _ GBK6.out w HB.out); clear hm6 hfar hsz hbel) | ((with_reducible refine gate_ (.insert 76 (.tmp 6) (.const (.int .i64 20)) (.const (.int .i64 1))) rfl ?_); refine put_event rfl rfl (.tmp 6) 20 1 rfl (g := g6) (kv := ((((((([] ++ [(1, 0)]) ++ [(2, 0)]) ++ [(3, 1)]) ++ [(4, 1)]) ++ [(5, 1)]) ++ [(18, 1)]) ++ [(19, 1)])) rfl BK6.out rfl ?_; intro w67 hm6 hfar hsz hbel; replace BK6 := Aside0.mk hm6; replace HB := Aside0.mk (hbel _ GBK6.out w HB.out); clear hm6 hfar hsz hbel) | ((with_reducible refine gate_ (.insert 76 (.tmp 6) (.const (.int .i64 16)) (.const (.int .i64 3))) rfl ?_); refine put_event rfl rfl (.tmp 6) 16 3 rfl (g := g6) (kv := (((((((([] ++ [(1, 0)]) ++ [(2, 0)]) ++ [(3, 1)]) ++ [(4, 1)]) ++ [(5, 1)]) ++ [(18, 1)]) ++ [(19, 1)]) ++ [(20, 1)])) rfl BK6.out rfl ?_; intro w68 hm6 hfar hsz hbel; replace BK6 := Aside0.mk hm6; replace HB := Aside0.mk (hbel _ GBK6.out w HB.out); clear hm6 hfar hsz hbel; have hlk := HLK.out w68 BK6.out))
    all_goals (go_ret; refine ⟨ret_int ?_, HB.out⟩; rw [← HR.out]; split <;> omega)
theorem indexByte_dot : ∀ (l : List UInt8) (i : Nat), (fst gDot l i).getD (-1) = if Lib.indexByte l 46 = -1 then -1 else Lib.indexByte l 46 + i
  | [], i => rfl
  | b :: r, i => by
    rw [fst, Lib.indexByte]
    unfold gDot
    have hp : -1 ≤ Lib.indexByte r 46 := by
      have : ∀ l : List UInt8, -1 ≤ Lib.indexByte l 46 := by
        intro l
        induction l with
        | nil => decide
        | cons b r ih => rw [Lib.indexByte]; split; decide; split <;> rename_i h2 <;> (try decide); simp at h2; omega
      exact this r
    by_cases h : b = 46
    · subst h; simp
    · have hb : (b == 46) = false := by simpa using h
      rw [if_neg h]
      simp only [hb, Bool.false_eq_true, if_false]
      have ih := indexByte_dot r (i + 1)
      unfold gDot at ih
      rw [ih]
      by_cases h2 : Lib.indexByte r 46 = -1
      · simp [h2]
      · have h3 : (Lib.indexByte r 46 == -1) = false := by simpa using h2
        rw [if_neg h2]
        simp only [h3, Bool.false_eq_true, if_false]
        rw [if_neg (by omega)]
        push_cast
        omega
theorem dot_index (s : ByteArray) : Lib.indexByte s.data.toList 46 = dotS s := by
  have h := indexByte_dot s.data.toList 0
  unfold dotS
  rw [h]
  split
  · assumption
  · simp
set_option maxHeartbeats 4000000 in
set_option maxRecDepth 100000 in
theorem sindexByte_any (s : ByteArray) (w : World) : Calls Try.prog 73 #[.string s, .int .u8 46] w fun e w' => e = .returned (.int .i64 (dotS s)) ∧ w' = w := by
  rw [← dot_index]
  go_enter Try.func73, Try.ntmps73
  go_wp2
  rw [run_callFunc_extern Try.func77 (by kernel_rfl) (by kernel_rfl) (by kernel_rfl) (e := Extern.BytealgIndexByte.indexByte) (by kernel_rfl), Lib.run_indexByteString]
  simp only [Result.andThen]
  rw [Oper.upon_value]
  go_wp2
  go_ret
  exact ⟨rfl, rfl⟩
def dotB : ByteArray := ⟨#[46]⟩
theorem dot_self {s : ByteArray} (h : s.data = #[46]) : dotS s = 0 := by
  unfold dotS; rw [h]; rfl
set_option maxHeartbeats 8000000 in
set_option maxRecDepth 100000 in
theorem sindex_any (s : ByteArray) (w : World) (hs : s.size ≤ 9223372036854775807) : Calls Try.prog 72 #[.string s, .string ⟨#[46]⟩] w fun e w' => e = .returned (.int .i64 (dotS s)) ∧ w' = w := by
  have K1 := Aside0.mk (sindexByte_any s)
  obtain ⟨z, hz⟩ : ∃ z, dotS s = z := ⟨_, rfl⟩
  cases hq : (([46] : List UInt8) == s.toList)
  · rw [hz] at K1 ⊢
    clear hz
    go_enter Try.func72, Try.ntmps72
    go_wp2_with fail
    refine (K1.out w).mono ?_
    rintro e w1 ⟨rfl, rfl⟩
    go_wp2
    go_ret
    exact ⟨rfl, rfl⟩
  · have h1 : [46] = s.toList := by simpa using hq
    have h2 : z = 0 := by rw [← hz]; exact dot_self (by rw [ByteArray.toList_eq s] at h1; apply Array.ext'; exact h1.symm)
    rw [hz]
    subst h2
    clear hz h1 K1
    go_enter Try.func72, Try.ntmps72
    go_wp2
    go_ret
    exact ⟨rfl, rfl⟩
set_option maxHeartbeats 8000000 in
theorem cut_no (s : ByteArray) (w : World) (hs : s.size ≤ 9223372036854775807) (h : dotS s < 0) : Calls Try.prog 66 #[.string s, .string ⟨#[46]⟩] w fun e w' => e = .returned (.tuple #[.string s, .string ⟨#[]⟩, .bool false]) ∧ w' = w := by
  have K1 := Aside0.mk (fun w' => sindex_any s w' hs)
  obtain ⟨z, hz⟩ : ∃ z, dotS s = z := ⟨_, rfl⟩
  rw [hz] at K1 h
  have K2 : Aside0 (∀ w' : World, Calls Try.prog 71 #[.string s, .string ⟨#[46]⟩] w' fun e w'' => e = .returned (.tuple #[.string s, .string ⟨#[]⟩, .bool false]) ∧ w'' = w') := ⟨fun w' => by
    go_enter Try.func71, Try.ntmps71
    go_wp2_with fail
    refine (K1.out w').mono ?_
    rintro e w1 ⟨rfl, rfl⟩
    go_wp2
    go_ret3
    exact ⟨rfl, rfl⟩⟩
  go_enter Try.func66, Try.ntmps66
  go_wp2_with fail
  refine (K2.out w).mono ?_
  rintro e w1 ⟨rfl, rfl⟩
  go_wp2
  go_ret3
  exact ⟨rfl, rfl⟩
set_option maxHeartbeats 8000000 in
theorem cut_yes (s : ByteArray) (a : Nat) (w : World) (hs : s.size ≤ 9223372036854775807) (h : dotS s = (a : Int)) (ha : a < s.size) :
    Calls Try.prog 66 #[.string s, .string ⟨#[46]⟩] w fun e w' => e = .returned (.tuple #[.string (s.extract 0 a), .string (s.extract (a + 1) s.size), .bool true]) ∧ Below w.heap.size w w' := by
  have K1 := Aside0.mk (fun w' => sindex_any s w' hs)
  rw [h] at K1
  have hwr : IntKind.i64.wrap ((a : Int) + 1) = (a : Int) + 1 := Go.IntWalk.i64_in _ (by omega)
  have hw1 : (0 : Int) ≤ (a : Int) + 1 := by omega
  have hw2 : (a : Int) + 1 ≤ (s.size : Int) := by omega
  have hw4 : ((a : Int) + 1).toNat = a + 1 := by omega
  have hw5 : (0 : Int) ≤ (a : Int) := by omega
  have hw6 : (a : Int) ≤ (s.size : Int) := by omega
  have K2 : Aside0 (∀ w' : World, Calls Try.prog 71 #[.string s, .string ⟨#[46]⟩] w' fun e w'' => e = .returned (.tuple #[.string (s.extract 0 a), .string (s.extract (a + 1) s.size), .bool true]) ∧ Below w'.heap.size w' w'') := ⟨fun w' => by
    go_enter Try.func71, Try.ntmps71
    go_wp2_with fail
    refine (K1.out w').mono ?_
    rintro e w1 ⟨rfl, rfl⟩
    go_wp2
    go_quiet (fail)
    go_wp2
    go_ret3
    exact ⟨rfl, pw_below_drewN (Below.refl _ _) _⟩⟩
  clear h hwr hw1 hw2 hw4 hw5 hw6
  go_enter Try.func66, Try.ntmps66
  go_wp2_with fail
  refine (K2.out w).mono ?_
  rintro e w1 ⟨rfl, hb⟩
  go_wp2
  go_ret3
  exact ⟨rfl, hb⟩
theorem eq_name (s : ByteArray) : ∀ (l : List ByteArray) (i : Nat), (fst (gEq s) l i).isSome = (fst (gName s) l i).isSome
  | [], _ => rfl
  | x :: r, i => by
    rw [fst, fst]
    unfold gEq gName
    by_cases h : eqS x s = true
    · rw [if_pos h, if_pos h]; rfl
    · rw [if_neg h, if_neg h]; exact eq_name s r (i + 1)
theorem gTw_has (L : List ByteArray) (i : Nat) (h : i < L.length) {b : Bool} (hb : hasStr (L.take i) L[i] = b) : gTw L L[i] i = if b = true then some () else none := by
  unfold gTw
  unfold hasStr at hb
  rw [← eq_name] at hb
  cases hq : fst (gEq L[i]) (L.take i) 0 with
  | none => rw [hq] at hb; subst hb; rfl
  | some u => rw [hq] at hb; subst hb; rfl
set_option maxHeartbeats 8000000 in
set_option maxRecDepth 100000 in
theorem stwice_any (LA : Option Addr) (lc : Nat) (L : List ByteArray) (w : World) (h : Kd.C Kd.string w LA L.length L) (hlc : L.length ≤ lc) :
    Calls Try.prog 41 #[.slice LA L.length lc] w fun e w' => e = .returned (.bool (twiceS L)) ∧ Below w.heap.size w w' := by
  have HC := Aside0.mk h
  have hm : L.length ≤ 9223372036854775807 := h.2.1
  have K1 := Aside0.mk (fun (i : Nat) (hi : i < L.length) w' (hb : Below w.heap.size w w') => by
    have K := containsStr LA lc (L.take i) L[i] w' (Kd.C_take (Kd.C_below h hb) (Nat.le_of_lt hi))
    rw [show (L.take i).length = i by rw [List.length_take]; omega] at K
    exact K)
  obtain ⟨z, hz⟩ : ∃ z, fst (gTw L) L 0 = z := ⟨_, rfl⟩
  unfold twiceS
  rw [hz]
  have HZ := Aside0.mk hz
  clear hz h
  go_enter Try.func41, Try.ntmps41
  go_wp2
  go_loopw [7] (fun v wr => ∃ i : Nat, v = .int .i64 (i : Int) ∧ i ≤ L.length ∧ Aside0 (fst (gTw L) (L.drop i) i = z) ∧ Aside0 (Below w.heap.size w wr)) (fun v _ => L.length - (intOf v).toNat)
  case atStart => exact ⟨0, rfl, Nat.zero_le _, HZ, ⟨Below.refl _ _⟩⟩
  case round =>
    obtain ⟨i, rfl, hi, HI, HB⟩ := hrel
    by_cases hlt : i < L.length
    · obtain ⟨ad, rfl, hx0⟩ := atStr (Kd.C_below HC.out HB.out) i hlt
      have hi0 : (0 : Int) ≤ (i : Int) := by omega
      have hi1 : (i : Int) < (L.length : Int) := by omega
      have hi2 : (i : Int) ≤ (lc : Int) := by omega
      have hg := fun b (hb : hasStr (L.take i) L[i] = b) => gTw_has L i hlt hb
      have K := K1.out i hlt
      obtain ⟨b, hb0⟩ : ∃ b, hasStr (L.take i) L[i] = b := ⟨_, rfl⟩
      rw [hb0] at K
      have HG := Aside0.mk (hg b hb0)
      have HK := Aside0.mk K
      clear hg K hb0
      go_wp2_with fail
      refine (HK.out _ HB.out).mono ?_
      rintro e w1 ⟨rfl, hb⟩
      replace HB := Aside0.mk (below_step HB.out hb)
      clear hb hx0
      cases b
      · have HE := (fst_miss (gTw L) L i hlt HG.out).symm.trans HI.out
        go_wp2
        go_roundw
        case rel => exact ⟨i + 1, by go_num, by omega, ⟨HE⟩, HB⟩
        case measure => simp [intOf]; omega
      · have HE := (fst_hit (gTw L) L i hlt (b := ()) HG.out).symm.trans HI.out
        go_wp2
        go_ret
        exact ⟨by rw [← HE]; rfl, HB.out⟩
    · have HE := (fst_end (gTw L) L i (by omega)).symm.trans HI.out
      go_wp2
      go_ret
      exact ⟨by rw [← HE]; rfl, HB.out⟩
theorem run_eql_slice_nil_ (w : World) (a : Option Addr) (n c : Nat) : (binOp .eql 30 (.slice a n c) (.slice none 0 0)).run Try.prog w = .ok (.bool a.isNone) w := by
  simp only [binOp]
  simp [Op.equal, Op.maxDepth, Lib.run_equalIn_slice_nil w 9999 30 9 a n c 0 0 Try.underlying30]
/-- A row of the call's own is handed back. -/
def RetR {α : Type} (d : Kd α) (e' : Nat) (l : List α) (w : World) (e : Ending) (w' : World) : Prop := ∃ v, e = .returned v ∧ d.R e' w' w.heap.size (fun _ => True) v l ∧ Below w.heap.size w w'
set_option maxHeartbeats 8000000 in
set_option maxRecDepth 100000 in
theorem sclone_any (A : Option Addr) (c : Nat) (l : List ByteArray) (w : World) (h : Kd.C Kd.string w A l.length l) (hlen : l.length ≤ 1000000) :
    Calls Try.prog 43 #[.slice A l.length c] w (RetR Kd.string 9 l w) := by
  have HC := Aside0.mk h
  have HL := Aside0.mk hlen
  cases A with
  | none =>
    have hl0 : l = [] := by
      cases l with
      | nil => rfl
      | cons x r => obtain ⟨ad, e, _⟩ := h.2.2 (by simp); cases e
    subst hl0
    clear h hlen
    have hnil : (binOp .eql 30 (.slice none ([] : List ByteArray).length c) (.slice none 0 0)).run Try.prog w = .ok (.bool true) w := run_eql_slice_nil_ w none _ c
    go_enter Try.func43, Try.ntmps43
    simp only [List.length_nil] at hnil ⊢
    go_wp2
    go_ret
    exact ⟨_, rfl, Kd.R_nil _ _ _ _ _, Below.refl _ _⟩
  | some ad =>
    clear h hlen
    have hnil : (binOp .eql 30 (.slice (some ad) l.length c) (.slice none 0 0)).run Try.prog w = .ok (.bool false) w := run_eql_slice_nil_ w (some ad) _ c
    go_enter Try.func43, Try.ntmps43
    go_wp2_with (first | ((with_reducible refine gate_dst (N := 5) rfl ?_); refine Kd.R_lit Kd.string w.heap.size 9 ?hg (N := 5) ?hd (xs := ([] : List ByteArray)) (inner := []) (ok := fun _ => True) (okp := fun _ => True) ?hr ?hp (fun _ hk => hk) trivial (Below.refl _ _) (Nat.le_refl _) (by simp) ?_; (case hd => rfl); (case hg => rfl); (case hr => first | (go_simp; done) | (go_simp; rfl)); (case hp => exact (Reps.none _ _)); intro v5 w5 ho hb hg_ hn_; have HO := Aside0.mk ho; have HB := Aside0.mk hb; clear ho hb hg_ hn_) | (at_builtin; refine Kd.R_append_rows Kd.string (w0 := w) w.heap.size rfl (.tmp 5) (.tmp 6) 30 9 _ 16 rfl Try.underlying30 info9 rfl (by decide) (by omega) v5 [] l _ _ _ (fun _ => True) (fun _ => False) rfl rfl ?aO ?aR (fun _ _ h => h) (fun _ h => h.elim) (fun _ _ => trivial) ?aB ?aS ?aL ?_; (case aR => exact (Kd.C_below HC.out HB.out)); (case aB => exact HB.out); (case aO => exact HO.out); (case aS => exact (below_size HB.out)); (case aL => have := HL.out; simp only [List.length_nil]; omega); intro v6 w6 ho hb hgr hat; rw [List.nil_append] at ho; replace HO := Aside0.mk ho; replace HB := Aside0.mk hb; clear ho hb hgr hat))
    go_ret
    exact ⟨_, rfl, HO.out, HB.out⟩
set_option maxHeartbeats 16000000 in
set_option maxRecDepth 100000 in
theorem shead_any (m : S34) (cs : List Value) (w : World) (h : k34.K w m cs) (hsm : m.f1.length ≤ 1000 ∧ m.f2.length ≤ 1000) :
    Calls Try.prog 27 #[.agg cs.toArray] w (RetR Kd.string 9 (headS m) w) := by
  obtain ⟨A1, c1, A2, c2, A3, c3, rfl, hl1, hC1, hl2, hC2, hl3, hC3⟩ := k34_open h
  have HC2 := Aside0.mk hC2
  have hm2 : m.f2.length ≤ 9223372036854775807 := hC2.2.1
  have HSM := Aside0.mk hsm
  have HB : Aside0 (Below w.heap.size w w) := ⟨Below.refl _ _⟩
  have K1 := Aside0.mk (fun w' (hb : Below w.heap.size w w') => sclone_any A1 c1 m.f1 w' (Kd.C_below hC1 hb) (by omega))
  obtain ⟨L, hL⟩ : ∃ L, headS m = L := ⟨_, rfl⟩
  have HL := Aside0.mk hL
  rw [hL]
  clear h hl1 hC1 hl2 hC2 hl3 hC3 hsm hL
  go_enter Try.func27, Try.ntmps27
  go_wp2_with (first | ((with_reducible refine gate_dst (N := 1) rfl ?_); refine box_event ?hg (N := 1) ?hd (cs := #[.string m.f0, .slice A1 m.f1.length c1, .slice A2 m.f2.length c2, .slice A3 m.f3.length c3]) (t := 34) ?hr ?_; (case hd => rfl); (case hg => rfl); (case hr => first | (go_simp; done) | (go_simp; rfl)); intro g1 hg_ w1 hbox_ hb_; have BK1 := Aside0.mk (hbox_); have GBK1 : Aside0 (w.heap.size ≤ g1) := ⟨by rw [hg_]; exact below_size HB.out⟩; replace HB : Aside0 (Below w.heap.size w w1) := ⟨below_step HB.out hb_⟩; clear hg_ hbox_ hb_; have hk1 : w1.cell? ⟨g1, 1, none⟩ = some (.slice A1 m.f1.length c1) := blk_cell BK1.out 1))
  refine (K1.out _ HB.out).mono ?_
  rintro e w4 ⟨v4, rfl, ho, hb⟩
  replace BK1 := Aside0.mk (blk_below BK1.out hb)
  have HO : Aside0 (Kd.string.R 9 w4 w.heap.size (fun _ => True) v4 (m.f1 ++ (m.f2.take 0).map (·.f1))) := ⟨by rw [List.take_zero, List.map_nil, List.append_nil]; exact Kd.R_lower ho (below_size HB.out)⟩
  replace HB := Aside0.mk (below_step HB.out hb)
  clear ho hb hk1
  have hk2 : w4.cell? ⟨g1, 2, none⟩ = some (.slice A2 m.f2.length c2) := blk_cell BK1.out 2
  go_wp2
  clear hk2
  go_loopw [3, 12] (fun a b wr => ∃ i : Nat, b = .int .i64 (i : Int) ∧ i ≤ m.f2.length ∧ Aside0 (Kd.string.R 9 wr w.heap.size (fun _ => True) a (m.f1 ++ (m.f2.take i).map (·.f1))) ∧ Aside0 (wr.heap[g1]? = some (.cells #[.string m.f0, .slice A1 m.f1.length c1, .slice A2 m.f2.length c2, .slice A3 m.f3.length c3] 34 (0, 0))) ∧ Aside0 (Below w.heap.size w wr)) (fun _ b _ => m.f2.length - (intOf b).toNat)
  case atStart => exact ⟨0, rfl, Nat.zero_le _, HO, BK1, HB⟩
  case round =>
    clear HO BK1 HB
    obtain ⟨i, rfl, hi, HO, BK1, HB⟩ := hrel
    by_cases hlt : i < m.f2.length
    · obtain ⟨ad, rfl, hx0, hx1, hx2, hx3⟩ := at59 (Kd.C_below HC2.out HB.out) i hlt
      have hi0 : (0 : Int) ≤ (i : Int) := by omega
      have hi1 : (i : Int) < (m.f2.length : Int) := by omega
      have hst : m.f1 ++ (m.f2.take (i + 1)).map (·.f1) = (m.f1 ++ (m.f2.take i).map (·.f1)) ++ [m.f2[i].f1] := by rw [List.take_succ_eq_append_getElem hlt, List.map_append, List.append_assoc]; rfl
      have hll : (m.f1 ++ (m.f2.take i).map (·.f1)).length = m.f1.length + i := by rw [List.length_append, List.length_map, List.length_take]; omega
      obtain ⟨p, hp⟩ : ∃ p, m.f2[i] = p := ⟨_, rfl⟩
      rw [hp] at hx0 hx1 hx2 hx3 hst
      obtain ⟨T, hT⟩ : ∃ T, m.f1 ++ (m.f2.take i).map (·.f1) = T := ⟨_, rfl⟩
      rw [hT] at HO hst hll
      have HST := Aside0.mk hst
      have HTL : Aside0 ((T.length + 1) * 16 ≤ 140737488355328) := ⟨by have := HSM.out; omega⟩
      clear hp hT hst hll
      go_wp2_with (first | ((with_reducible refine gate_dst (N := 5) rfl ?_); refine box_event ?hg (N := 5) ?hd (cs := #[.bool false, .string ⟨#[]⟩, .string ⟨#[]⟩, .int .i64 0]) (t := 59) ?hr ?_; (case hd => rfl); (case hg => rfl); (case hr => first | (go_simp; done) | (go_simp; rfl)); intro gv hg_ wv0 hbox_ hb_; replace BK1 := Aside0.mk (blk_below BK1.out hb_); have BZgv := Aside0.mk (hbox_); have GBZgv : Aside0 (w.heap.size ≤ gv) := ⟨by rw [hg_]; exact below_size HB.out⟩; replace HB : Aside0 (Below w.heap.size w wv0) := ⟨below_step HB.out hb_⟩; have HVgv : Aside0 (wr.heap.size ≤ gv ∧ Below wr.heap.size wr wv0) := ⟨Nat.le_of_eq hg_.symm, hb_⟩; clear hg_ hbox_ hb_) | ((with_reducible refine gate_ (.store 59 (.tmp 5) (.tmp 15)) rfl ?_); refine wpList_store_box rfl rfl 59 (.tmp 5) (.tmp 15) rfl (g := gv) (e := 59) [.bool p.f0, .string p.f1, .string p.f2.f0, .int .i64 p.f2.f1] rfl rfl BZgv.out rfl ?hi ?h1 ?_; (case hi => kernel_rfl); (case h1 => simp [Value.oneCell']); intro wv hbx_ hfar_ hsz_ hbel_; replace BK1 := Aside0.mk ((hfar_ _ (blk_ne BK1.out BZgv.out (by decide))).trans BK1.out); have BKv := Aside0.mk (hbx_); replace HB : Aside0 (Below w.heap.size w wv) := ⟨hbel_ _ GBZgv.out w HB.out⟩; replace HO := Aside0.mk (Kd.R_below HO.out (hbel_ _ HVgv.out.1 _ HVgv.out.2)); have hv1 : wv.cell? ⟨gv, 1, none⟩ = some (.string p.f1) := blk_cell hbx_ 1; clear HVgv hbx_ hfar_ hsz_ hbel_ BZgv) | (at_builtin; refine Kd.R_append Kd.string (w0 := w) w.heap.size rfl (.tmp 16) (.tmp 19) 30 9 _ 16 rfl Try.underlying30 info9 rfl (by decide) (by omega) u3 T p.f1 [.string p.f1] (fun _ => True) (fun _ => False) rfl rfl ?hp (fun _ h => h.elim) (fun _ _ => trivial) ?hO ?hB ?hs ?hl ?_; (case hp => exact rfl); (case hO => exact HO.out); (case hB => exact HB.out); (case hs => exact below_size (HB.out)); (case hl => exact HTL.out); intro v1 w2 ho hb hgr hat; have HO2 := Aside0.mk ho; have BK12 : Aside0 (w2.heap[g1]? = some (.cells #[.string m.f0, .slice A1 m.f1.length c1, .slice (some ad) m.f2.length c2, .slice A3 m.f3.length c3] 34 (0, 0))) := ⟨blk_grown BK1.out hgr (Kd.R_ne (HO.out) BK1.out (by decide))⟩; have HB2 := Aside0.mk hb; clear ho hb hgr hat))
      go_roundw
      case rel => exact ⟨i + 1, by go_num, by omega, ⟨by rw [HST.out]; exact HO2.out⟩, BK12, HB2⟩
      case measure => simp [intOf]; omega
    · obtain rfl : i = m.f2.length := by omega
      rw [List.take_length] at HO
      replace HO : Aside0 (Kd.string.R 9 wr w.heap.size (fun _ => True) u3 L) := ⟨by rw [← HL.out]; exact HO.out⟩
      go_wp2
      go_ret
      exact ⟨_, rfl, HO.out, HB.out⟩
set_option maxHeartbeats 32000000 in
set_option maxRecDepth 100000 in
theorem smodule_any (A0 : Option Addr) (c0 : Nat) (l : List S34) (m : S34) (cs : List Value) (n : Nat) (hnl : n < l.length) (w : World) (h : LookAt w A0 c0 l m cs) (hsm : m.f1.length ≤ 1000 ∧ m.f2.length ≤ 1000) :
    Calls Try.prog 26 #[.agg cs.toArray, .int .i64 (n : Int)] w fun e w' => e = .returned (.int .i64 (moduleS l n m)) ∧ Below w.heap.size w w' := by
  obtain ⟨hc0, A1, c1, A2, c2, A3, c3, rfl, hKm, hl1, hC1, hl2, hC2, hl3, hC3⟩ := h
  have HC := Aside0.mk hc0
  have HMK := Aside0.mk hKm
  have HC1 := Aside0.mk hC1
  have HC2 := Aside0.mk hC2
  have HC3 := Aside0.mk hC3
  have HB : Aside0 (Below w.heap.size w w) := ⟨Below.refl _ _⟩
  have hm2 : m.f2.length ≤ 9223372036854775807 := hC2.2.1
  have hlm : l.length ≤ 9223372036854775807 := hc0.2.1
  have HSM := Aside0.mk hsm
  have HLE := Aside0.mk (And.intro hl1 (And.intro hl2 hl3))
  have K1 := Aside0.mk (fun w' hD => sfind_any A0 c0 l m.f0 w' hD)
  have K2 := Aside0.mk (fun w' (hb : Below w.heap.size w w') => shead_any m _ w' (k34.K_below hb hKm) hsm)
  obtain ⟨r, hr⟩ : ∃ r, moduleS l n m = r := ⟨_, rfl⟩
  rw [hr]
  unfold moduleS twiceS at hr
  obtain ⟨k, hk⟩ : ∃ k, findS l m.f0 = k := ⟨_, rfl⟩
  obtain ⟨L, hL⟩ : ∃ L, headS m = L := ⟨_, rfl⟩
  obtain ⟨P, hP⟩ : ∃ P, m.f2.map (·.f2) = P := ⟨_, rfl⟩
  rw [hk] at K1 hr
  rw [hL] at K2 hr
  rw [hP, show (fst (gTw L) L 0).isSome = twiceS L from rfl, ← dims_fst] at hr
  have HP := Aside0.mk hP
  have K4 := Aside0.mk (fun (cs' : List Value) w' (hLK : LookAt w' A0 c0 l m cs') (DA : Option Addr) dc hd => sdims_any A0 c0 l m cs' DA dc P w' hLK hd)
  obtain ⟨d, hd⟩ : ∃ d, dimsS m.f1 P = d := ⟨_, rfl⟩
  rw [hd] at K4 hr
  obtain ⟨tw, htw⟩ : ∃ b, twiceS L = b := ⟨_, rfl⟩
  have HTW := Aside0.mk htw
  rw [htw] at hr
  have HR := Aside0.mk hr
  clear hr hk hL hP hd htw hsm
  clear hc0 hKm hl1 hC1 hl2 hC2 hl3 hC3
  go_enter Try.func26, Try.ntmps26
  go_wp2_with (first | ((with_reducible refine gate_dst (N := 2) rfl ?_); refine box_event ?hg (N := 2) ?hd (cs := #[.slice A0 l.length c0, .string m.f0, .slice A1 m.f1.length c1, .slice A2 m.f2.length c2, .slice A3 m.f3.length c3]) (t := 67) ?hr ?_; (case hd => rfl); (case hg => rfl); (case hr => first | (go_simp; done) | (go_simp; rfl)); intro g2 hg_ w1 hbox_ hb_; have BK2 := Aside0.mk (hbox_); have GBK2 : Aside0 (w.heap.size ≤ g2) := ⟨by rw [hg_]; exact below_size HB.out⟩; replace HB : Aside0 (Below w.heap.size w w1) := ⟨below_step HB.out hb_⟩; clear hg_ hbox_ hb_; have hk3 : w1.cell? ⟨g2, 3, none⟩ = some (.slice A2 m.f2.length c2) := blk_cell BK2.out 3))
  clear hk3
  have HO : Aside0 (k42.R 42 w1 w.heap.size (fun _ => True) (.slice none 0 0) ((m.f2.take 0).map (·.f2))) := ⟨Kd.R_nil _ _ _ _ _⟩
  go_loopw [5, 12] (fun a b wr => ∃ i : Nat, b = .int .i64 (i : Int) ∧ i ≤ m.f2.length ∧ Aside0 (k42.R 42 wr w.heap.size (fun _ => True) a ((m.f2.take i).map (·.f2))) ∧ Aside0 (wr.heap[g2]? = some (.cells #[.slice A0 l.length c0, .string m.f0, .slice A1 m.f1.length c1, .slice A2 m.f2.length c2, .slice A3 m.f3.length c3] 67 (0, 0))) ∧ Aside0 (Below w.heap.size w wr)) (fun _ b _ => m.f2.length - (intOf b).toNat)
  case atStart => exact ⟨0, rfl, Nat.zero_le _, HO, BK2, HB⟩
  case round =>
    clear HO BK2 HB
    obtain ⟨i, rfl, hi, HO, BK2, HB⟩ := hrel
    by_cases hlt : i < m.f2.length
    · obtain ⟨ad, rfl, hx0, hx1, hx2, hx3⟩ := at59 (Kd.C_below HC2.out HB.out) i hlt
      have hi0 : (0 : Int) ≤ (i : Int) := by omega
      have hi1 : (i : Int) < (m.f2.length : Int) := by omega
      have hst : (m.f2.take (i + 1)).map (·.f2) = (m.f2.take i).map (·.f2) ++ [m.f2[i].f2] := by rw [List.take_succ_eq_append_getElem hlt, List.map_append]; rfl
      have hll : ((m.f2.take i).map (·.f2)).length = i := by rw [List.length_map, List.length_take]; omega
      obtain ⟨q, hq⟩ : ∃ q, m.f2[i].f2 = q := ⟨_, rfl⟩
      rw [hq] at hx2 hx3 hst
      generalize m.f2[i].f0 = x0 at hx0
      generalize m.f2[i].f1 = x1 at hx1
      obtain ⟨T, hT⟩ : ∃ T, (m.f2.take i).map (·.f2) = T := ⟨_, rfl⟩
      rw [hT] at HO hst hll
      have HST := Aside0.mk hst
      have HTL : Aside0 ((T.length + 1) * 24 ≤ 140737488355328) := ⟨by have := HSM.out; omega⟩
      clear hq hT hst hll
      go_wp2_with (first | ((with_reducible refine gate_dst (N := 7) rfl ?_); refine box_event ?hg (N := 7) ?hd (cs := #[.bool false, .string ⟨#[]⟩, .string ⟨#[]⟩, .int .i64 0]) (t := 59) ?hr ?_; (case hd => rfl); (case hg => rfl); (case hr => first | (go_simp; done) | (go_simp; rfl)); intro gv hg_ wv0 hbox_ hb_; replace BK2 := Aside0.mk (blk_below BK2.out hb_); have BZgv := Aside0.mk (hbox_); have GBZgv : Aside0 (w.heap.size ≤ gv) := ⟨by rw [hg_]; exact below_size HB.out⟩; replace HB : Aside0 (Below w.heap.size w wv0) := ⟨below_step HB.out hb_⟩; have HVgv : Aside0 (wr.heap.size ≤ gv ∧ Below wr.heap.size wr wv0) := ⟨Nat.le_of_eq hg_.symm, hb_⟩; clear hg_ hbox_ hb_) | ((with_reducible refine gate_ (.store 59 (.tmp 7) (.tmp 15)) rfl ?_); refine wpList_store_box rfl rfl 59 (.tmp 7) (.tmp 15) rfl (g := gv) (e := 59) [.bool x0, .string x1, .string q.f0, .int .i64 q.f1] rfl rfl BZgv.out rfl ?hi ?h1 ?_; (case hi => kernel_rfl); (case h1 => simp [Value.oneCell']); intro wv hbx_ hfar_ hsz_ hbel_; replace BK2 := Aside0.mk ((hfar_ _ (blk_ne BK2.out BZgv.out (by decide))).trans BK2.out); have BKv := Aside0.mk (hbx_); replace HB : Aside0 (Below w.heap.size w wv) := ⟨hbel_ _ GBZgv.out w HB.out⟩; replace HO := Aside0.mk (Kd.R_below HO.out (hbel_ _ HVgv.out.1 _ HVgv.out.2)); have hv2 : wv.cell? ⟨gv, 2, none⟩ = some (.string q.f0) := blk_cell hbx_ 2; have hv3 : wv.cell? ⟨gv, 3, none⟩ = some (.int .i64 q.f1) := blk_cell hbx_ 3; clear HVgv hbx_ hfar_ hsz_ hbel_ BZgv) | (at_builtin; refine Kd.R_append k42 (w0 := w) w.heap.size rfl (.tmp 16) (.tmp 19) 43 42 _ 24 rfl Try.underlying43 info42 rfl (show 0 < 2 by decide) (by omega) u5 T q [.string q.f0, .int .i64 q.f1] (fun _ => True) (fun _ => False) rfl rfl ?hp (fun _ h => h.elim) (fun _ _ => trivial) ?hO ?hB ?hs ?hl ?_; (case hp => exact (k42_mkM _ _ _ _)); (case hO => exact HO.out); (case hB => exact HB.out); (case hs => exact below_size HB.out); (case hl => exact HTL.out); intro v1 w2 ho hb hgr hat; have HO2 := Aside0.mk ho; have BK22 : Aside0 (w2.heap[g2]? = some (.cells #[.slice A0 l.length c0, .string m.f0, .slice A1 m.f1.length c1, .slice (some ad) m.f2.length c2, .slice A3 m.f3.length c3] 67 (0, 0))) := ⟨blk_grown BK2.out hgr (Kd.R_ne HO.out BK2.out (by decide))⟩; have HB2 := Aside0.mk hb; clear ho hb hgr hat))
      go_roundw
      case rel => exact ⟨i + 1, by go_num, by omega, ⟨by rw [HST.out]; exact HO2.out⟩, BK22, HB2⟩
      case measure => simp [intOf]; omega
    · obtain rfl : i = m.f2.length := by omega
      rw [List.take_length, HP.out] at HO
      obtain ⟨wo, rfl⟩ : ∃ wo : World, wo = wr := ⟨_, rfl⟩
      obtain ⟨PA, pc, rfl, hpl, hpC⟩ := Kd.R_reads HO.out
      have HPC := Aside0.mk (fun w' (hb : Below wo.heap.size wo w') => Kd.C_below hpC hb)
      have HWB : Aside0 (Below wo.heap.size wo wo) := ⟨Below.refl _ _⟩
      clear hpl hpC HO
      have hk0 : wo.cell? ⟨g2, 0, none⟩ = some (.slice A0 l.length c0) := blk_cell BK2.out 0
      have hk1 : wo.cell? ⟨g2, 1, none⟩ = some (.string m.f0) := blk_cell BK2.out 1
      have hk2 : wo.cell? ⟨g2, 2, none⟩ = some (.slice A1 m.f1.length c1) := blk_cell BK2.out 2
      have hk3 : wo.cell? ⟨g2, 3, none⟩ = some (.slice A2 m.f2.length c2) := blk_cell BK2.out 3
      have hk4 : wo.cell? ⟨g2, 4, none⟩ = some (.slice A3 m.f3.length c3) := blk_cell BK2.out 4
      go_wp2_with fail
      refine (K1.out _ (Kd.C_below HC.out HB.out)).mono ?_
      rintro e w5 ⟨rfl, hb⟩
      replace BK2 := Aside0.mk (blk_below BK2.out hb)
      replace HB := Aside0.mk (below_step HB.out hb)
      replace HWB := Aside0.mk (below_step HWB.out hb)
      clear hb
      clear hk0 hk1 hk2 hk3 hk4
      have hk0 : w5.cell? ⟨g2, 0, none⟩ = some (.slice A0 l.length c0) := blk_cell BK2.out 0
      have hk1 : w5.cell? ⟨g2, 1, none⟩ = some (.string m.f0) := blk_cell BK2.out 1
      have hk2 : w5.cell? ⟨g2, 2, none⟩ = some (.slice A1 m.f1.length c1) := blk_cell BK2.out 2
      have hk3 : w5.cell? ⟨g2, 3, none⟩ = some (.slice A2 m.f2.length c2) := blk_cell BK2.out 3
      have hk4 : w5.cell? ⟨g2, 4, none⟩ = some (.slice A3 m.f3.length c3) := blk_cell BK2.out 4
      by_cases hkn : k < n
      · have HE : Aside0 (r = 50) := ⟨by rw [← HR.out, if_pos hkn]⟩
        go_wp2
        go_ret
        exact ⟨by rw [HE.out]; rfl, HB.out⟩
      have hkn' : (n : Int) ≤ k := by omega
      have hr := HR.out
      rw [if_neg hkn] at hr
      replace HR := Aside0.mk hr
      clear hr hkn
      go_wp2_with fail
      refine (K2.out _ HB.out).mono ?_
      rintro e w6 ⟨v6, rfl, ho, hb⟩
      obtain ⟨LA, lc, rfl, hle, hLC⟩ := Kd.R_reads ho
      have KT := stwice_any LA lc L w6 hLC hle
      rw [HTW.out] at KT
      have HKT := Aside0.mk KT
      replace BK2 := Aside0.mk (blk_below BK2.out hb)
      replace HB := Aside0.mk (below_step HB.out hb)
      replace HWB := Aside0.mk (below_step HWB.out hb)
      clear hb ho hle hLC KT
      clear hk0 hk1 hk2 hk3 hk4
      go_wp2_with fail
      refine HKT.out.mono ?_
      rintro e w7 ⟨rfl, hb⟩
      replace BK2 := Aside0.mk (blk_below BK2.out hb)
      replace HB := Aside0.mk (below_step HB.out hb)
      replace HWB := Aside0.mk (below_step HWB.out hb)
      clear hb
      have hk0 : w7.cell? ⟨g2, 0, none⟩ = some (.slice A0 l.length c0) := blk_cell BK2.out 0
      have hk1 : w7.cell? ⟨g2, 1, none⟩ = some (.string m.f0) := blk_cell BK2.out 1
      have hk2 : w7.cell? ⟨g2, 2, none⟩ = some (.slice A1 m.f1.length c1) := blk_cell BK2.out 2
      have hk3 : w7.cell? ⟨g2, 3, none⟩ = some (.slice A2 m.f2.length c2) := blk_cell BK2.out 3
      have hk4 : w7.cell? ⟨g2, 4, none⟩ = some (.slice A3 m.f3.length c3) := blk_cell BK2.out 4
      cases tw
      rotate_left
      · have HE : Aside0 (r = 50) := ⟨HR.out.symm⟩
        go_wp2
        go_ret
        exact ⟨by rw [HE.out]; rfl, HB.out⟩
      have hr := HR.out
      rw [if_neg (by decide)] at hr
      by_cases hlast : (n : Int) = (l.length : Int) - 1 ∧ 0 < m.f1.length
      · have HE3 : Aside0 (r = 1) := ⟨by rw [← hr, if_pos hlast]⟩
        have h1 : ((n : Int) == (l.length : Int) - 1) = true := by simp; exact hlast.1
        have h2 : 0 < m.f1.length := hlast.2
        have h3 : (0 : Int) < (m.f1.length : Int) := by omega
        clear hr hlast HR
        go_wp2
        go_ret
        exact ⟨by rw [HE3.out]; rfl, HB.out⟩
      rw [if_neg hlast] at hr
      have hcond : ((n : Int) == (l.length : Int) - 1) = false ∨ (((n : Int) == (l.length : Int) - 1) = true ∧ (m.f1.length : Int) = 0) := by
        by_cases hh : (n : Int) = (l.length : Int) - 1
        · right; exact ⟨by simp; exact hh, by omega⟩
        · left; simp; exact hh
      obtain rfl := hr
      clear hlast HR
      rcases hcond with h1 | ⟨h1, h2⟩
      all_goals (
        go_wp2_with fail
        refine (K4.out _ _ ⟨Kd.C_below HC.out HB.out, A1, c1, A2, c2, A3, c3, rfl, k34.K_below HB.out HMK.out, HLE.out.1, Kd.C_below HC1.out HB.out, HLE.out.2.1, Kd.C_below HC2.out HB.out, HLE.out.2.2, Kd.C_below HC3.out HB.out⟩ PA pc (HPC.out _ HWB.out)).mono ?_
        rintro e w8 ⟨rfl, hb⟩
        go_wp2
        go_ret
        exact ⟨rfl, below_step HB.out hb⟩)
structure AsksS (K : Nat) (caps : Array Value) (w : World) (l : List ByteArray) (p : ByteArray → Bool) : Prop where
  mk :: (out : ∀ (i : Nat) (hi : i < l.length) (w' : World), Below w.heap.size w w' → Calls Try.prog K (#[.string l[i]] ++ caps) w' fun e w'' => e = .returned (.bool (p l[i])) ∧ Below w'.heap.size w' w'')
set_option maxHeartbeats 16000000 in
set_option maxRecDepth 100000 in
theorem indexFuncS (K : Nat) (caps : Array Value) (p : ByteArray → Bool) (A0 : Option Addr) (c0 : Nat) (l : List ByteArray) (w : World) (h : Kd.C Kd.string w A0 l.length l)
    (ha : AsksS K caps w l p) (eg : ∀ args w, (callFunc K args).run Try.prog w = .ok (.enter K args) w) :
    Calls Try.prog 69 #[.slice A0 l.length c0, .func (.func K) #[] caps] w fun e w' => e = .returned (.int .i64 ((fst (gP p) l 0).getD (-1))) ∧ Below w.heap.size w w' := by
  have HC := Aside0.mk h
  have hm : l.length ≤ 9223372036854775807 := h.2.1
  obtain ⟨z, hz⟩ : ∃ z, fst (gP p) l 0 = z := ⟨_, rfl⟩
  rw [hz]
  have HZ := Aside0.mk hz
  have HA := Aside0.mk ha
  clear hz h ha
  go_enter Try.func69, Try.ntmps69
  go_wp2
  go_loopw [5, 8] (fun _ v wr => ∃ i : Nat, v = .int .i64 (i : Int) ∧ i ≤ l.length ∧ Aside0 (fst (gP p) (l.drop i) i = z) ∧ Aside0 (Below w.heap.size w wr)) (fun _ v _ => l.length - (intOf v).toNat)
  case atStart => exact ⟨0, rfl, Nat.zero_le _, HZ, ⟨Below.refl _ _⟩⟩
  case round =>
    obtain ⟨i, rfl, hi, HI, HB⟩ := hrel
    by_cases hlt : i < l.length
    · obtain ⟨ad, rfl, hx0⟩ := atStr (Kd.C_below HC.out HB.out) i hlt
      have hi0 : (0 : Int) ≤ (i : Int) := by omega
      have hi1 : (i : Int) < (l.length : Int) := by omega
      have hp := HA.out.out i hlt
      obtain ⟨b, hb0⟩ : ∃ b, p l[i] = b := ⟨_, rfl⟩
      rw [hb0] at hp
      have HPB := Aside0.mk hb0
      have HP := Aside0.mk hp
      clear hp hb0
      go_wp2_with fail
      refine (HP.out _ HB.out).mono ?_
      rintro e w1 ⟨rfl, hb⟩
      replace HB := Aside0.mk (below_step HB.out hb)
      clear hb hx0
      cases b
      · have HE := (fst_miss (gP p) l i hlt (by unfold gP; rw [HPB.out]; rfl)).symm.trans HI.out
        go_wp2
        go_roundw
        case rel => exact ⟨i + 1, by go_num, by omega, ⟨HE⟩, HB⟩
        case measure => simp [intOf]; omega
      · have HE := (fst_hit (gP p) l i hlt (b := (i : Int)) (by unfold gP; rw [HPB.out]; rfl)).symm.trans HI.out
        go_wp2
        go_ret
        exact ⟨by rw [← HE]; rfl, HB.out⟩
    · have HE := (fst_end (gP p) l i (by omega)).symm.trans HI.out
      go_wp2
      go_ret
      exact ⟨by rw [← HE]; rfl, HB.out⟩
theorem gP_any {α : Type} (p : α → Bool) (l : List α) : decide (0 ≤ (fst (gP p) l 0).getD (-1)) = (fst (gP p) l 0).isSome := by
  cases h : fst (gP p) l 0 with
  | none => rfl
  | some b => obtain ⟨n, rfl, _⟩ := gP_some h; simp
set_option maxHeartbeats 8000000 in
theorem containsFuncS (K : Nat) (caps : Array Value) (p : ByteArray → Bool) (A0 : Option Addr) (c0 : Nat) (l : List ByteArray) (w : World) (h : Kd.C Kd.string w A0 l.length l)
    (ha : AsksS K caps w l p) (eg : ∀ args w, (callFunc K args).run Try.prog w = .ok (.enter K args) w) :
    Calls Try.prog 64 #[.slice A0 l.length c0, .func (.func K) #[] caps] w fun e w' => e = .returned (.bool (fst (gP p) l 0).isSome) ∧ Below w.heap.size w w' := by
  have K1 := Aside0.mk (indexFuncS K caps p A0 c0 l w h ha eg)
  rw [← gP_any]
  generalize (fst (gP p) l 0).getD (-1) = z at K1 ⊢
  clear h ha
  go_enter Try.func64, Try.ntmps64
  go_wp2_with fail
  refine K1.out.mono ?_
  rintro e w1 ⟨rfl, hb⟩
  go_wp2
  go_ret
  exact ⟨rfl, hb⟩
theorem enter63 : ∀ args w, (callFunc 63 args).run Try.prog w = .ok (.enter 63 args) w := enters_my Try.func63 (by kernel_rfl) rfl
set_option maxHeartbeats 8000000 in
theorem clo63 (p : Addr) (WA : Option Addr) (wc : Nat) (W : List ByteArray) (nm : ByteArray) (w : World) (hp : w.cell? p = some (.slice WA W.length wc)) (h : Kd.C Kd.string w WA W.length W) :
    Calls Try.prog 63 #[.string nm, .pointer (some p)] w fun e w' => e = .returned (.bool (!hasStr W nm)) ∧ Below w.heap.size w w' := by
  have K1 := Aside0.mk (containsStr WA wc W nm w h)
  generalize hasStr W nm = b at K1 ⊢
  clear h
  go_enter Try.func63, Try.ntmps63
  go_wp2_with fail
  refine K1.out.mono ?_
  rintro e w1 ⟨rfl, hb⟩
  cases b
  · go_wp2
    go_ret
    exact ⟨rfl, hb⟩
  · go_wp2
    go_ret
    exact ⟨rfl, hb⟩
theorem fst_isSome {α β : Type} {g : α → Nat → Option β} : ∀ (l : List α) (i : Nat), (fst g l i).isSome = true ↔ ∃ j, ∃ h : j < l.length, (g l[j] (i + j)).isSome = true
  | [], i => by simp [fst]
  | x :: r, i => by
    rw [fst]
    cases hq : g x i with
    | some b => exact ⟨fun _ => ⟨0, by simp, by simp [hq]⟩, fun _ => rfl⟩
    | none =>
      simp only
      rw [fst_isSome r (i + 1)]
      constructor
      · rintro ⟨j, h, hj⟩
        exact ⟨j + 1, by simp; omega, by simpa [Nat.add_assoc, Nat.add_comm 1] using hj⟩
      · rintro ⟨j, h, hj⟩
        cases j with
        | zero => simp [hq] at hj
        | succ j => exact ⟨j, by simp at h; omega, by simpa [Nat.add_assoc, Nat.add_comm 1] using hj⟩
/-- The ports of In, by name. -/
def wantS (m : S34) : List ByteArray := (m.f2.filter (·.f0)).map (·.f1)
theorem has_iff (l : List ByteArray) (nm : ByteArray) : hasStr l nm = true ↔ ∃ x ∈ l, eqS x nm = true := by
  unfold hasStr
  rw [fst_isSome]
  constructor
  · rintro ⟨j, h, hj⟩
    refine ⟨l[j], List.getElem_mem h, ?_⟩
    unfold gName at hj
    by_cases e : eqS l[j] nm = true
    · exact e
    · rw [if_neg e] at hj; cases hj
  · rintro ⟨x, hx, e⟩
    obtain ⟨j, h, rfl⟩ := List.getElem_of_mem hx
    exact ⟨j, h, by unfold gName; rw [if_pos e]; rfl⟩
theorem port_want (m : S34) (nm : ByteArray) : portS m nm = hasStr (wantS m) nm := by
  rw [Bool.eq_iff_iff, has_iff]
  unfold portS wantS
  rw [fst_isSome]
  constructor
  · rintro ⟨j, h, hj⟩
    unfold gIn at hj
    by_cases e : m.f2[j].f0 = true ∧ eqS m.f2[j].f1 nm = true
    · exact ⟨_, List.mem_map.2 ⟨m.f2[j], List.mem_filter.2 ⟨List.getElem_mem h, e.1⟩, rfl⟩, e.2⟩
    · rw [if_neg e] at hj; cases hj
  · rintro ⟨x, hx, e⟩
    obtain ⟨p, hp, rfl⟩ := List.mem_map.1 hx
    obtain ⟨hp1, hp2⟩ := List.mem_filter.1 hp
    obtain ⟨j, h, rfl⟩ := List.getElem_of_mem hp1
    exact ⟨j, h, by unfold gIn; rw [if_pos ⟨hp2, e⟩]; rfl⟩
theorem dup_eq (nm : ByteArray) : ∀ (bs : List S64) (i : Nat), (fst (gDup nm) bs i).isSome = (fst (gEq nm) (bs.map (·.f0)) i).isSome
  | [], _ => rfl
  | b :: r, i => by
    rw [List.map_cons, fst, fst]
    unfold gDup gEq
    by_cases h : eqS b.f0 nm = true
    · rw [if_pos h]
    · rw [if_neg h]; exact dup_eq nm r (i + 1)
theorem bind_eq (m : S34) (bs : List S64) : (fst (gBind m bs) bs 0).isSome = (twiceS (bs.map (·.f0)) || (fst (gP fun s => !hasStr (wantS m) s) (bs.map (·.f0)) 0).isSome) := by
  rw [Bool.eq_iff_iff, Bool.or_eq_true]
  unfold twiceS
  rw [fst_isSome, fst_isSome, fst_isSome]
  constructor
  · rintro ⟨j, h, hj⟩
    rw [Nat.zero_add] at hj
    unfold gBind at hj
    by_cases e : portS m bs[j].f0 = false
    · right
      refine ⟨j, by simpa using h, ?_⟩
      unfold gP
      rw [port_want] at e
      simp [e]
    · rw [if_neg e, dup_eq] at hj
      left
      refine ⟨j, by simpa using h, ?_⟩
      unfold gTw
      rw [Nat.zero_add, ← List.map_take]
      simpa using hj
  · rintro (⟨j, h, hj⟩ | ⟨j, h, hj⟩)
    · have h2 : j < bs.length := by simpa using h
      refine ⟨j, h2, ?_⟩
      rw [Nat.zero_add] at hj ⊢
      unfold gBind
      by_cases e : portS m bs[j].f0 = false
      · rw [if_pos e]; rfl
      · rw [if_neg e, dup_eq]
        unfold gTw at hj
        rw [← List.map_take] at hj
        simpa using hj
    · have h2 : j < bs.length := by simpa using h
      refine ⟨j, h2, ?_⟩
      unfold gP at hj
      unfold gBind
      have e : portS m bs[j].f0 = false := by
        rw [port_want]
        cases hh : hasStr (wantS m) bs[j].f0 with
        | false => rfl
        | true => simp [hh] at hj
      rw [if_pos e]; rfl
end Go.Proofs.Ytnfhlhjbmcofoaa.S
