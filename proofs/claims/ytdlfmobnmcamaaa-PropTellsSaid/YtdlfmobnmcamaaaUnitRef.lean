/- The document's answer for units, and its conflict, walked. Written for this claim. -/
import Derived.Test.YtdlfmobnmcamaaaRefEv
import Derived.Test.YtdlfmobnmcamaaaUnitWalk
import Derived.Outline
import Derived.Test.YtdlfmobnmcamaaaRupRef
namespace Go.Proofs.Ytdlfmobnmcamaaa.Q
open Go.RowKit Go.Proofs.YtdlfmobnmcamaaaW.PrintWords Go.Proofs.YtdlfmobnmcamaaaW.PrintLast Go.Proofs.YtdlfmobnmcamaaaW.PrintMore
set_option linter.unusedVariables false
set_option linter.unusedSimpArgs false
theorem nodup_le : ∀ (ks L : List Int), ks.Nodup → (∀ x ∈ ks, x ∈ L) → ks.length ≤ L.length
  | [], L, _, _ => by simp
  | a :: ks, L, hn, hs => by
    have ha := hs a List.mem_cons_self
    have hn' := List.nodup_cons.1 hn
    have := nodup_le ks (L.erase a) hn'.2 fun x hx => (List.mem_erase_of_ne (fun e => by subst e; exact hn'.1 hx)).2 (hs x (List.mem_cons_of_mem _ hx))
    rw [List.length_erase_of_mem ha] at this
    have : 0 < L.length := List.length_pos_of_mem ha
    simp only [List.length_cons]
    omega
/-- A row that cannot be put in order: nothing follows. -/
theorem unit_unclear {l : List (List Int)} {vars : Int} {known : List Int} (hw : ∀ y ∈ known, Wf y) (h : (normOf known).2 = false) : unitOf l vars known = ([], false) := by
  by_cases hr : rightOf l vars = true ∧ rightOf [known] vars = true
  · refine unitOf_conf ?_
    have hlt : ∀ y ∈ known, Lt y := fun y hy => lits_ok (l := [known]) (by simpa using hw) hr.2 known (by simp) y hy
    have hn : ¬ Clear known := fun hc => by
      obtain ⟨out, e, _⟩ := norm_clear hc
      rw [e] at h; cases h
    have : ∃ x ∈ known, ∃ y ∈ known, pvar x = pvar y ∧ x ≠ y := by
      apply Classical.byContradiction
      intro hno
      refine hn ⟨fun x hx => by have := pvar_pos (hlt x hx); omega, fun x hx y hy e => ?_⟩
      apply Classical.byContradiction
      intro hne
      exact hno ⟨x, hx, y, hy, e, hne⟩
    obtain ⟨x, hx, y, hy, e, hne⟩ := this
    rcases pvar_eq (hlt x hx) (hlt y hy) e with e1 | e1
    · exact absurd e1 hne
    · exact .inl ⟨x, .known hx, .known (e1 ▸ hy)⟩
  · exact unitOf_wrong hr
/-- What is taken at the start. -/
theorem inv_norm {l : List (List Int)} {known out : List Int} (hk : ∀ y ∈ known, Lt y) (hc : (normOf known) = (out, true)) : Inv l known (fun _ => True) out out.length ∧ ∀ x ∈ known, x ∈ out := by
  have hcl : Clear known := Classical.byContradiction fun hn => by rw [norm_unclear hn] at hc; cases hc
  obtain ⟨o2, e, hm, hr⟩ := norm_clear hcl
  rw [hc] at e
  obtain rfl : out = o2 := (Prod.mk.inj e).1
  refine ⟨⟨hr.imp fun {x y} h e => by subst e; omega, fun x hx => .known ((hm x).1 hx), fun x hx => hk x ((hm x).1 hx), fun x hx => List.mem_append_left _ ((hm x).1 hx), fun x hx hn => ?_, Nat.le_refl _, fun _ _ _ => .inl trivial⟩, fun x hx => (hm x).2 hx⟩
  have h1 := hk x ((hm x).1 hx)
  have := hcl.2 x ((hm x).1 hx) _ ((hm _).1 hn) (pvar_neg h1).symm
  exact neg_ne h1 this.symm
theorem len_flat' {l : List (List Int)} {c : List Int} (h : c ∈ l) : c.length ≤ l.flatten.length := by
  obtain ⟨s, t, rfl⟩ := List.append_of_mem h
  simp only [List.flatten_append, List.flatten_cons, List.length_append]
  omega
def lenOf : Value → Nat
  | .slice _ n _ => n
  | _ => 0
/-- How much is left to do. -/
def leftOf (N m : Nat) (v8 v10 : Value) : Nat := (N - lenOf v8) * (m + 1) + (m - (intOf v10).toNat)
theorem left_less {N m i : Nat} {ks : List Int} {A A' : Option Addr} {c c' : Nat} (h : ks.length + 1 ≤ N) : leftOf N m (.slice A' (ks.length + 1) c') (.int .i64 0) < leftOf N m (.slice A ks.length c) (.int .i64 (i : Int)) := by
  obtain ⟨q, hq⟩ : ∃ q, N - ks.length = q + 1 := ⟨N - ks.length - 1, by omega⟩
  have hq2 : N - (ks.length + 1) = q := by omega
  simp only [leftOf, lenOf, hq, hq2, Nat.add_mul]
  have e0 : (intOf (.int .i64 (0 : Int))).toNat = 0 := rfl
  rw [e0]
  omega
theorem unit_end {l : List (List Int)} {known ks : List Int} {vars : Int} (h1 : rightOf l vars = true) (h2 : rightOf [known] vars = true) (hL : Lits l) {todo : Nat → Prop} (I : Inv l known todo ks ks.length) (ht : ∀ i, i < l.length → ¬ todo i) (hk : ∀ x ∈ known, x ∈ ks) : unitOf l vars known = normOf ks := by
  have I2 : Inv l known (fun _ => False) ks ks.length := I.fewer fun i c hc hi => absurd hi (ht i (List.getElem?_eq_some_iff.1 hc).1)
  have := I2.last hL (by simp) hk
  exact unitOf_row h1 h2 this.2 ⟨I.nodup, this.1⟩
set_option maxHeartbeats 16000000 in
set_option maxRecDepth 100000 in
theorem refunit_any (A0 : Option Addr) (c0 : Nat) (l0 : List (List Int)) (a1 : Int) (A2 : Option Addr) (c2 : Nat) (l2 : List Int) (w : World) (hr0 : Kd.C (Kd.slice 3 (Kd.int .i64)) w A0 l0.length l0) (hc0 : l0.length ≤ c0) (hr2 : Kd.C (Kd.int .i64) w A2 l2.length l2) (hc2 : l2.length ≤ c2) (hs : Small l0 l2) (hm : l0.length < 17592186044416) :
    Calls Try.prog 28 #[.slice A0 l0.length c0, .int .i64 a1, .slice A2 l2.length c2] w fun e w' => ∃ v0_, e = .returned (.tuple #[v0_, .bool (unitOf l0 a1 l2).2]) ∧ Kd.R (Kd.int .i64) 3 w' w.heap.size (fun _ => True) v0_ (unitOf l0 a1 l2).1 ∧ Below w.heap.size w w' := by
  have HR0 := Aside0.mk hr0
  have HC0 := Aside0.mk hc0
  have HR2 := Aside0.mk hr2
  have HC2 := Aside0.mk hc2
  have HS := Aside0.mk hs
  have HM0 := Aside0.mk hm
  have HM : Aside0 (∀ c ∈ l0, c.length < 17592186044416) := ⟨fun c hc => by have h1 := hs.1; have := len_flat' hc; omega⟩
  obtain ⟨r, hr⟩ : ∃ r, unitOf l0 a1 l2 = r := ⟨_, rfl⟩
  have HE := Aside0.mk hr
  rw [hr]
  obtain ⟨out, ok, hn⟩ : ∃ out ok, normOf l2 = (out, ok) := ⟨_, _, rfl⟩
  have HN := Aside0.mk hn
  obtain ⟨kn, hkn⟩ := Ev.rounds (rnorm_ev l2 (by have := hs.1; omega) hs.2.2)
  rw [hn] at hkn
  have K1 := Aside0.mk (proofmarkref18_Norm.calls kn A2 c2 l2 out ok w hr2 hc2 hkn)
  clear hr0 hc0 hr2 hc2 hs hm hr hn hkn
  cases ok with
  | false =>
    have HT : Aside0 (r = ([], false)) := ⟨by rw [← HE.out]; exact unit_unclear HS.out.2.2 (by rw [HN.out])⟩
    go_enter Try.func28, Try.ntmps28
    go_wp2_with fail
    refine K1.out.mono ?_
    rintro e w1 ⟨v, rfl, ho, hb⟩
    have HB := Aside0.mk hb
    clear hb ho
    go_wp2_with fail
    go_ret2
    exact ⟨_, by rw [HT.out]; rfl, by rw [HT.out]; exact Kd.R_nil _ _ _ _ _, HB.out⟩
  | true =>
    obtain ⟨kr, hkr⟩ := Ev.rounds (rright_ev l0 a1 HM0.out HS.out.2.1 (fun c hc => by have := HM.out c hc; omega))
    have hlen2 : l2.length < 17592186044416 := by have := HS.out.1; omega
    obtain ⟨kq, hkq⟩ := Ev.rounds (rright_ev [l2] a1 (by simp) (by simpa using HS.out.2.2) (fun c hc => by simp at hc; subst hc; omega))
    have HKR := Aside0.mk hkr
    have HKQ := Aside0.mk hkq
    clear hkr hkq hlen2
    cases h1 : rightOf l0 a1 with
    | false =>
      have HT : Aside0 (r = ([], false)) := ⟨by rw [← HE.out]; exact unitOf_wrong (by rw [h1]; simp)⟩
      rw [h1] at HKR
      clear h1
      go_enter Try.func28, Try.ntmps28
      go_wp2_with fail
      refine K1.out.mono ?_
      rintro e w1 ⟨v, rfl, ho, hb⟩
      have HB := Aside0.mk hb
      clear hb ho
      go_wp2_with fail
      refine (proofmarkref18_Right.calls kr A0 c0 l0 a1 false _ (Kd.C_below HR0.out HB.out) HC0.out HKR.out).mono ?_
      rintro e w2 ⟨rfl, ⟨⟨n1, rfl⟩⟩⟩
      go_wp2_with fail
      go_ret2
      exact ⟨_, by rw [HT.out]; rfl, by rw [HT.out]; exact Kd.R_nil _ _ _ _ _, pw_below_drewN HB.out _⟩
    | true =>
      rw [h1] at HKR
      have H1 := Aside0.mk h1
      clear h1
      cases h2 : rightOf [l2] a1 with
      | false =>
        have HT : Aside0 (r = ([], false)) := ⟨by rw [← HE.out]; exact unitOf_wrong (by rw [h2]; simp)⟩
        rw [h2] at HKQ
        clear h2
        go_enter Try.func28, Try.ntmps28
        go_wp2_with fail
        refine K1.out.mono ?_
        rintro e w1 ⟨v, rfl, ho, hb⟩
        have HB := Aside0.mk hb
        clear hb ho
        go_wp2_with fail
        refine (proofmarkref18_Right.calls kr A0 c0 l0 a1 true _ (Kd.C_below HR0.out HB.out) HC0.out HKR.out).mono ?_
        rintro e w2 ⟨rfl, ⟨⟨n1, rfl⟩⟩⟩
        go_wp2_with fail
        have hrow := one_row (w := (w1.drewN n1).alloc (.cells #[.slice A2 l2.length c2] 23)) (Kd.C_below HR2.out (below_alloc (pw_below_drewN HB.out _) _)) HC2.out w1.heap.size 23 (alloc_new (w1.drewN n1) _)
        have KQ := proofmarkref18_Right.calls kq (some ⟨w1.heap.size, 0, none⟩) 1 [l2] a1 false ((w1.drewN n1).alloc (.cells #[.slice A2 l2.length c2] 23)) hrow (by simp) HKQ.out
        rw [show [l2].length = 1 from rfl] at KQ
        refine KQ.mono ?_
        clear KQ
        rintro e w3 ⟨rfl, ⟨⟨n2, rfl⟩⟩⟩
        clear hrow
        go_wp2_with fail
        go_ret2
        exact ⟨_, by rw [HT.out]; rfl, by rw [HT.out]; exact Kd.R_nil _ _ _ _ _, pw_below_drewN (below_alloc (pw_below_drewN HB.out _) _) _⟩
      | true =>
        rw [h2] at HKQ
        have H2 := Aside0.mk h2
        clear h2
        have HLt : Aside0 (∀ y ∈ l2, Lt y) := ⟨fun y hy => lits_ok (l := [l2]) (by simpa using HS.out.2.2) H2.out l2 (by simp) y hy⟩
        have HLits : Aside0 (Lits l0) := ⟨lits_ok HS.out.2.1 H1.out⟩
        have HI0 := Aside0.mk (inv_norm (l := l0) HLt.out HN.out)
        go_enter Try.func28, Try.ntmps28
        go_wp2_with fail
        refine K1.out.mono ?_
        rintro e w1 ⟨v, rfl, ho, hb⟩
        have HB := Aside0.mk hb
        have HO := Aside0.mk ho
        clear hb ho
        go_wp2_with fail
        refine (proofmarkref18_Right.calls kr A0 c0 l0 a1 true _ (Kd.C_below HR0.out HB.out) HC0.out HKR.out).mono ?_
        rintro e w2 ⟨rfl, ⟨⟨n1, rfl⟩⟩⟩
        go_wp2_with fail
        have hrow := one_row (w := (w1.drewN n1).alloc (.cells #[.slice A2 l2.length c2] 23)) (Kd.C_below HR2.out (below_alloc (pw_below_drewN HB.out _) _)) HC2.out w1.heap.size 23 (alloc_new (w1.drewN n1) _)
        have KQ := proofmarkref18_Right.calls kq (some ⟨w1.heap.size, 0, none⟩) 1 [l2] a1 true ((w1.drewN n1).alloc (.cells #[.slice A2 l2.length c2] 23)) hrow (by simp) HKQ.out
        rw [show [l2].length = 1 from rfl] at KQ
        refine KQ.mono ?_
        clear KQ
        rintro e w3 ⟨rfl, ⟨⟨n2, rfl⟩⟩⟩
        clear hrow
        have hob : Kd.R (Kd.int .i64) 3 (((w1.drewN n1).alloc (.cells #[.slice A2 l2.length c2] 23)).drewN n2) w.heap.size (fun _ => True) v out := by (with_reducible repeat (first | apply Kd.R_alloc | apply Kd.R_drewN | apply Kd.R_drew)); exact HO.out
        have HO3 := Aside0.mk hob
        have HB3 := Aside0.mk (pw_below_drewN (below_alloc (pw_below_drewN HB.out n1) (.cells #[.slice A2 l2.length c2] 23)) n2)
        clear hob HO HB
        go_wp2_with fail
        go_loopw [8, 10] (fun v8 v10 w' => ∃ (ks : List Int) (i : Nat), v10 = .int .i64 (i : Int) ∧ i ≤ l0.length ∧ lenOf v8 = ks.length ∧ Aside0 (Inv l0 l2 (fun j => i ≤ j) ks ks.length) ∧ Aside0 (∀ x ∈ l2, x ∈ ks) ∧ Aside0 (Kd.R (Kd.int .i64) 3 w' w.heap.size (fun _ => True) v8 ks) ∧ Aside0 (Below w.heap.size w w')) (fun v8 v10 _ => leftOf (l0.flatten.length + l2.length) l0.length v8 v10)
        case atStart =>
          obtain ⟨A, c, e⟩ := Kd.R_slice HO3.out
          exact ⟨out, 0, rfl, Nat.zero_le _, by rw [e]; rfl, ⟨HI0.out.1.fewer fun i c _ _ => .inl (Nat.zero_le _)⟩, ⟨HI0.out.2⟩, HO3, HB3⟩
        case round =>
          obtain ⟨ks, i, rfl, hi, hle, HI, HK, HO, HB⟩ := hrel
          obtain ⟨A, c, rfl⟩ := Kd.R_slice HO.out
          have hm0 := HM0.out
          have hkl : ks.length ≤ l0.flatten.length + l2.length := by
            have := nodup_le ks (l2 ++ l0.flatten) HI.out.nodup HI.out.of
            rw [List.length_append] at this
            omega
          have hkb : ks.length < 17592186044416 := by have := HS.out.1; omega
          by_cases hlt : i < l0.length
          · obtain ⟨ad, A', c', rfl, hx, hl', hC'⟩ := at_L1 (Kd.C_below HR0.out HB.out) (i : Int) (by omega) (by omega)
            rw [Int.toNat_natCast] at hx
            rw [rdL l0 i hlt] at hx hl' hC'
            have hci := List.getElem_mem hlt
            obtain ⟨y, hy⟩ : ∃ y, l0[i] = y := ⟨_, rfl⟩
            rw [hy] at hx hl' hC' hci
            have hyi : l0[i]? = some y := by rw [List.getElem?_eq_getElem hlt, hy]
            have h0 : ∀ z ∈ y, z ≠ 0 := fun z hz => (HLits.out y hci z hz).1
            obtain ⟨kx, hkx⟩ := Ev.rounds (rnext_ev y ks (HM.out y hci) hkb h0)
            have HY := Aside0.mk hyi
            have HH0 := Aside0.mk h0
            have HCI := Aside0.mk hci
            have hck := Kd.R_reads' HO.out
            unfold nextOf at hkx
            cases hsc : scanOf ks y 0 with
            | none =>
              rw [hsc] at hkx
              have hgood : Good ks y := by
                rcases scan_none ks y 0 hsc with h | ⟨_, _, _, h, _⟩ | h
                · exact .inl h
                · exact absurd rfl h
                · exact .inr h
              have HI2 : Aside0 (Inv l0 l2 (fun j => i + 1 ≤ j) ks ks.length) := ⟨HI.out.fewer fun j d hd hj => by
                by_cases e : j = i
                · subst e
                  rw [HY.out] at hd
                  cases hd
                  exact .inr hgood
                · exact .inl (by omega)⟩
              have KN := Aside0.mk (proofmarkref18_next.calls kx A' c' y A c ks 0 true wr hC' hl' hck.2.2 hck.2.1 hkx)
              clear hkx hsc hgood hck hyi h0 hci hC' hl' hy hkl
              go_wp2_with (refine KN.out.mono ?_; rintro e w' ⟨rfl, ⟨⟨nd, rfl⟩⟩⟩)
              go_roundw
              case rel => exact ⟨ks, i + 1, by go_num, by omega, rfl, HI2, HK, ⟨by (with_reducible repeat (first | apply Kd.R_alloc | apply Kd.R_drewN | apply Kd.R_drew)); exact HO.out⟩, ⟨by repeat (first | exact HB.out | apply pw_below_drewN)⟩⟩
              case measure => simp [leftOf, lenOf, intOf]; omega
            | some z =>
              rw [hsc] at hkx
              obtain ⟨s1, s2, s3⟩ := scan_some ks y 0 z h0 hsc
              by_cases hz : z = 0
              · subst hz
                have HT : Aside0 (r = ([], false)) := ⟨by
                  rw [← HE.out]
                  exact unitOf_conf (.inr ⟨y, hci, fun u hu => HI.out.der _ ((s2 u hu).resolve_right (h0 u hu))⟩)⟩
                have KN := Aside0.mk (proofmarkref18_next.calls kx A' c' y A c ks 0 false wr hC' hl' hck.2.2 hck.2.1 hkx)
                clear hkx hsc hck hyi h0 hci hC' hl' hy hkl hm0 s1 s2 s3
                go_wp2_with (refine KN.out.mono ?_; rintro e w' ⟨rfl, ⟨⟨nd, rfl⟩⟩⟩)
                go_ret2
                exact ⟨_, by rw [HT.out]; rfl, by rw [HT.out]; exact Kd.R_nil _ _ _ _ _, by repeat (first | exact HB.out | apply pw_below_drewN)⟩
              · obtain ⟨hzc, hnz, _⟩ := s3.resolve_left hz
                have hzt : decide (z ≠ 0) = true := decide_eq_true hz
                simp only [hzt] at hkx
                have I2 := HI.out.push HLits.out (s1 z hzc) hnz (.unit hci hzc fun u hu hne => HI.out.der _ ((s2 u hu).resolve_right hne)) (HLits.out y hci z hzc) (List.mem_append_right _ (List.mem_flatten.2 ⟨y, hci, hzc⟩))
                have HI2 : Aside0 (Inv l0 l2 (fun j => 0 ≤ j) (ks ++ [z]) (ks ++ [z]).length) := ⟨⟨I2.nodup, I2.der, I2.lt, I2.of, I2.con, Nat.le_refl _, fun _ _ _ => .inl (Nat.zero_le _)⟩⟩
                have HKZ : Aside0 (∀ x ∈ l2, x ∈ ks ++ [z]) := ⟨fun x hx => List.mem_append_left _ (HK.out x hx)⟩
                have hkl2 : Aside0 (ks.length + 1 ≤ l0.flatten.length + l2.length) := ⟨by
                  have := nodup_le (ks ++ [z]) (l2 ++ l0.flatten) I2.nodup I2.of
                  simp only [List.length_append, List.length_singleton] at this
                  omega⟩
                have hb1 : (z != 0) = true := by simpa using hz
                have KN := Aside0.mk (proofmarkref18_next.calls kx A' c' y A c ks z true wr hC' hl' hck.2.2 hck.2.1 hkx)
                have HKB := Aside0.mk hkb
                clear hkx hsc hck hyi h0 hci hC' hl' hy hkl hm0 s1 s2 s3 hz hzt hzc hnz I2
                go_wp2_with (first | ((with_reducible refine gate_builtin (b := .append) (xs := #[.tmp 54, .tmp 56]) rfl ?_); at_builtin; refine Kd.R_append (Kd.int .i64) (w0 := w) w.heap.size rfl (.tmp 54) (.tmp 56) 23 3 (.int .i64 0) 8 rfl Try.underlying23 info3 rfl (by decide) (by omega) (.slice A ks.length c) ks z [.int .i64 z] (fun _ => True) (fun _ => False) rfl rfl rfl (fun _ hk => hk.elim) (fun _ _ => trivial) (by (with_reducible repeat (first | apply Kd.R_alloc | apply Kd.R_drewN | apply Kd.R_drew)); exact HO.out) (by repeat (first | exact HB.out | apply pw_below_drewN)) (by have := HB.out.size; simpa using this) (by have := HKB.out; omega) ?_; intro v9 w9 ho9 hb9 hg9 hat9; obtain ⟨A9, c9, rfl⟩ := Kd.R_slice ho9; rw [show (ks ++ [z]).length = ks.length + 1 by simp] at ho9; have HO9 := Aside0.mk ho9; have HB9 := Aside0.mk hb9; clear ho9 hb9 hg9 hat9) | (refine KN.out.mono ?_; rintro e w' ⟨rfl, ⟨⟨nd, rfl⟩⟩⟩))
                go_roundw
                case rel => exact ⟨ks ++ [z], 0, by first | rfl | go_num, Nat.zero_le _, by simp [lenOf], HI2, HKZ, HO9, HB9⟩
                case measure =>
                  have h1 := hkl2.out
                  exact left_less (A := A) (A' := A9) (c := c) (c' := c9) (i := i) h1
          · have hi2 : i = l0.length := by omega
            subst hi2
            have HU : Aside0 (normOf ks = r) := ⟨by rw [← HE.out]; exact (unit_end H1.out H2.out HLits.out HI.out (fun j hj => by omega) HK.out).symm⟩
            have hwk : ∀ x ∈ ks, Wf x := fun x hx => by have := HI.out.lt x hx; unfold Lt at this; unfold Wf; omega
            have hcl : Clear ks := ⟨fun x hx => by have := pvar_pos (HI.out.lt x hx); omega, fun x hx u hu e => by
              rcases pvar_eq (HI.out.lt x hx) (HI.out.lt u hu) e with e1 | e1
              · exact e1
              · exact absurd (e1 ▸ hu) (HI.out.con x hx)⟩
            obtain ⟨o, eo, _⟩ := norm_clear hcl
            obtain ⟨kk, hkk⟩ := Ev.rounds (rnorm_ev ks hkb hwk)
            rw [eo] at hkk
            have HR : Aside0 (r = (o, true)) := ⟨by rw [← HU.out, eo]⟩
            have hck := Kd.R_reads' HO.out
            have KN := Aside0.mk (proofmarkref18_Norm.calls kk A c ks o true wr hck.2.2 hck.2.1 hkk)
            clear hkk hck hcl hwk eo hkl hkb hm0
            go_wp2_with (refine KN.out.mono ?_; rintro e w9 ⟨v9, rfl, ho9, hb9⟩; have HO9 := Aside0.mk (Kd.R_lower ho9 HB.out.size); have HB9 := Aside0.mk (below_then HB.out HB.out.size hb9); clear ho9 hb9)
            go_ret2
            exact ⟨_, by rw [HR.out]; rfl, by rw [HR.out]; exact HO9.out, HB9.out⟩
end Go.Proofs.Ytdlfmobnmcamaaa.Q
namespace Go.Proofs.Ytdlfmobnmcamaaa.Q
open Go.RowKit Go.Proofs.YtdlfmobnmcamaaaW.PrintWords Go.Proofs.YtdlfmobnmcamaaaW.PrintLast Go.Proofs.YtdlfmobnmcamaaaW.PrintMore
set_option linter.unusedVariables false
set_option linter.unusedSimpArgs false
set_option maxHeartbeats 16000000 in
set_option maxRecDepth 100000 in
theorem conflict_any (A0 : Option Addr) (c0 : Nat) (l0 : List (List Int)) (a1 : Int) (A2 : Option Addr) (c2 : Nat) (l2 : List Int) (w : World) (hr0 : Kd.C (Kd.slice 3 (Kd.int .i64)) w A0 l0.length l0) (hc0 : l0.length ≤ c0) (hr2 : Kd.C (Kd.int .i64) w A2 l2.length l2) (hc2 : l2.length ≤ c2) (hs : Small l0 l2) (hm : l0.length < 17592186044416) :
    Calls Try.prog 46 #[.slice A0 l0.length c0, .int .i64 a1, .slice A2 l2.length c2] w fun e w' => e = .returned (.bool (refOf l0 a1 l2)) ∧ Below w.heap.size w w' := by
  have HR0 := Aside0.mk hr0
  have HC0 := Aside0.mk hc0
  have HR2 := Aside0.mk hr2
  have HC2 := Aside0.mk hc2
  have HS := Aside0.mk hs
  have HM0 := Aside0.mk hm
  obtain ⟨r, hr⟩ : ∃ r, refOf l0 a1 l2 = r := ⟨_, rfl⟩
  have HE := Aside0.mk hr
  rw [hr]
  obtain ⟨kr, hkr⟩ := Ev.rounds (rright_ev l0 a1 hm hs.2.1 (fun c hc => by have h1 := hs.1; have := len_flat' hc; omega))
  have hlen2 : l2.length < 17592186044416 := by have := hs.1; omega
  obtain ⟨kq, hkq⟩ := Ev.rounds (rright_ev [l2] a1 (by simp) (by simpa using hs.2.2) (fun c hc => by simp at hc; subst hc; omega))
  have HKR := Aside0.mk hkr
  have HKQ := Aside0.mk hkq
  clear hkr hkq hlen2 hr0 hc0 hr2 hc2 hs hm hr
  cases h1 : rightOf l0 a1 with
  | false =>
    have HT : Aside0 (r = false) := ⟨by rw [← HE.out, refOf, h1]; rfl⟩
    rw [h1] at HKR
    clear h1
    go_enter Try.func46, Try.ntmps46
    go_wp2_with fail
    refine (proofmarkref18_Right.calls kr A0 c0 l0 a1 false _ HR0.out HC0.out HKR.out).mono ?_
    rintro e w2 ⟨rfl, ⟨⟨n1, rfl⟩⟩⟩
    go_wp2_with fail
    go_ret
    exact ⟨by rw [HT.out]; rfl, pw_below_drewN (Below.refl _ _) _⟩
  | true =>
    rw [h1] at HKR
    cases h2 : rightOf [l2] a1 with
    | false =>
      have HT : Aside0 (r = false) := ⟨by rw [← HE.out, refOf, h1, h2]; rfl⟩
      rw [h2] at HKQ
      clear h1 h2
      go_enter Try.func46, Try.ntmps46
      go_wp2_with fail
      refine (proofmarkref18_Right.calls kr A0 c0 l0 a1 true _ HR0.out HC0.out HKR.out).mono ?_
      rintro e w2 ⟨rfl, ⟨⟨n1, rfl⟩⟩⟩
      go_wp2_with fail
      have hrow := one_row (w := (w.drewN n1).alloc (.cells #[.slice A2 l2.length c2] 23)) (Kd.C_below HR2.out (below_alloc (pw_below_drewN (Below.refl _ _) _) _)) HC2.out w.heap.size 23 (alloc_new (w.drewN n1) _)
      have KQ := proofmarkref18_Right.calls kq (some ⟨w.heap.size, 0, none⟩) 1 [l2] a1 false ((w.drewN n1).alloc (.cells #[.slice A2 l2.length c2] 23)) hrow (by simp) HKQ.out
      rw [show [l2].length = 1 from rfl] at KQ
      refine KQ.mono ?_
      clear KQ
      rintro e w3 ⟨rfl, ⟨⟨n2, rfl⟩⟩⟩
      clear hrow
      go_wp2_with fail
      go_ret
      exact ⟨by rw [HT.out]; rfl, pw_below_drewN (below_alloc (pw_below_drewN (Below.refl _ _) _) _) _⟩
    | true =>
      have HT : Aside0 ((!(unitOf l0 a1 l2).2) = r) := ⟨by rw [← HE.out, refOf, h1, h2]; rfl⟩
      rw [h2] at HKQ
      clear h1 h2
      go_enter Try.func46, Try.ntmps46
      go_wp2_with fail
      refine (proofmarkref18_Right.calls kr A0 c0 l0 a1 true _ HR0.out HC0.out HKR.out).mono ?_
      rintro e w2 ⟨rfl, ⟨⟨n1, rfl⟩⟩⟩
      go_wp2_with fail
      have hrow := one_row (w := (w.drewN n1).alloc (.cells #[.slice A2 l2.length c2] 23)) (Kd.C_below HR2.out (below_alloc (pw_below_drewN (Below.refl _ _) _) _)) HC2.out w.heap.size 23 (alloc_new (w.drewN n1) _)
      have KQ := proofmarkref18_Right.calls kq (some ⟨w.heap.size, 0, none⟩) 1 [l2] a1 true ((w.drewN n1).alloc (.cells #[.slice A2 l2.length c2] 23)) hrow (by simp) HKQ.out
      rw [show [l2].length = 1 from rfl] at KQ
      refine KQ.mono ?_
      clear KQ
      rintro e w3 ⟨rfl, ⟨⟨n2, rfl⟩⟩⟩
      clear hrow
      obtain ⟨w4, hw4⟩ : ∃ w4, (((w.drewN n1).alloc (.cells #[.slice A2 l2.length c2] 23)).drewN n2) = w4 := ⟨_, rfl⟩
      have HB4 : Aside0 (Below w.heap.size w w4) := ⟨by rw [← hw4]; exact pw_below_drewN (below_alloc (pw_below_drewN (Below.refl _ _) _) _) _⟩
      rw [hw4]
      clear hw4
      go_wp2_with fail
      refine (refunit_any A0 c0 l0 a1 A2 c2 l2 w4 (Kd.C_below HR0.out HB4.out) HC0.out (Kd.C_below HR2.out HB4.out) HC2.out HS.out HM0.out).mono ?_
      rintro e w5 ⟨v, rfl, _, hb⟩
      have HB5 := Aside0.mk (below_then HB4.out HB4.out.size hb)
      clear hb
      go_wp2_with fail
      go_ret
      exact ⟨by rw [HT.out]; rfl, HB5.out⟩
end Go.Proofs.Ytdlfmobnmcamaaa.Q
