/- Scope: the walk of the law's plainly. -/
import Derived.Test.YtnfhlhjbmcofoaaScAp
import Derived.Test.YtnfhlhjbmcofoaaScPu
namespace Go.Proofs.Ytnfhlhjbmcofoaa.S
open Go.RowKit Go.Proofs.YtnfhlhjbmcofoaaW.PrintWords Go.Proofs.YtnfhlhjbmcofoaaW.PrintLast
set_option linter.unusedVariables false
set_option linter.unusedSimpArgs false
theorem expr_open {l : List S34} {m : S34} {op : Int} {val wid hi lo : S42} {nm : ByteArray} {kids : List S47} (h : exprS l m ⟨op, val, wid, hi, lo, nm, kids⟩ = 0) : ownS l m op val wid hi lo nm = 0 ∧ ∀ x ∈ kids, exprS l m x = 0 := by
  rw [exprS] at h
  split at h
  · cases h
  · split at h
    · rename_i h2; exact absurd h h2
    · rename_i h2
      exact ⟨Decidable.not_not.1 h2, kids_clear.1 h⟩
set_option maxHeartbeats 64000000 in
set_option maxRecDepth 100000 in
theorem plainly_any (N : Nat) : ∀ (e : S47), SizeOf.sizeOf e < N → ∀ (A0 : Option Addr) (c0 : Nat) (l : List S34) (m : S34) (cs ces : List Value) (w : World), Kd.C k34 w A0 l.length l → k34.K w m cs → k47.K w e ces → B47 e → exprS l m e = 0 →
    Calls Try.prog 19 #[.agg #[.slice A0 l.length c0], .agg cs.toArray, .agg ces.toArray] w fun e' w' => e' = .returned (.bool true) ∧ Below w.heap.size w w' := by
  induction N with
  | zero => intro e h; omega
  | succ N ih0 =>
  rintro ⟨op, val, wid, hi, lo, nm, kids⟩ hN A0 c0 l m cs ces w h0 h he hB hz
  have ih := fun (x : S47) (hx : SizeOf.sizeOf (⟨op, val, wid, hi, lo, nm, kids⟩ : S47) < N + 1 → SizeOf.sizeOf x < N) => ih0 x (hx hN)
  have HC := Aside0.mk h0
  have HM := Aside0.mk h
  obtain ⟨A1, c1, A2, c2, A3, c3, rfl, hl1, hC1, hl2, hC2, hl3, hC3⟩ := k34_open h
  obtain ⟨A10, c10, rfl, hl10, hC10⟩ := k47_open he
  simp only at hl10 hC10
  have HC10 := Aside0.mk hC10
  have HC3 := Aside0.mk hC3
  have hm : kids.length ≤ 9223372036854775807 := hC10.2.1
  have hml : l.length ≤ 9223372036854775807 := h0.2.1
  obtain ⟨_, hB1, hB2, hB3⟩ := hB
  have HBK := Aside0.mk hB3
  have hs : nm.size ≤ 9223372036854775807 := by have := hB1.2.2.2.2.2; simp at this; omega
  obtain ⟨ho, hzk⟩ := expr_open hz
  have HO := Aside0.mk ho
  have HZK := Aside0.mk hzk
  have KK := Aside0.mk (fun w' cs' (hb : k34.K w' m cs') => skind_any m cs' nm w' hb)
  obtain ⟨kq, hkq⟩ : ∃ k, kindS m nm = k := ⟨_, rfl⟩
  rw [hkq] at KK
  have HKQ := Aside0.mk hkq
  obtain ⟨kq, kz⟩ := kq
  simp only at KK
  have HB : Aside0 (Below w.heap.size w w) := ⟨Below.refl _ _⟩
  clear hB1 hB2 hB3 h0 h he hl1 hC1 hl2 hC2 hl3 hC3 hl10 hC10 ih0 hN ho hzk hz hkq
  by_cases o2 : op = 2
  · subst o2
    have HR : Aside0 (refS l m nm = 0) := ⟨by rw [← ownS_2 l m val wid hi lo nm]; exact HO.out⟩
    clear HO
    go_enter Try.func19, Try.ntmps19
    go_wp2_with (first | ((with_reducible refine gate_dst (N := 3) rfl ?_); refine box_event ?hg (N := 3) ?hd (cs := #[.slice A0 l.length c0]) (t := 24) ?hr ?_; (case hd => rfl); (case hg => rfl); (case hr => first | (go_simp; done) | (go_simp; rfl)); intro g3 hg_ wa hbox_ hb_; have BK3 := Aside0.mk (hbox_); have GBK3_HB : Aside0 (w.heap.size ≤ g3) := ⟨by rw [hg_]; exact below_size HB.out⟩; replace HB : Aside0 (Below w.heap.size w wa) := ⟨below_step HB.out hb_⟩; clear hg_ hbox_ hb_) | ((with_reducible refine gate_dst (N := 4) rfl ?_); refine box_event ?hg (N := 4) ?hd (cs := #[.string m.f0, .slice A1 m.f1.length c1, .slice A2 m.f2.length c2, .slice A3 m.f3.length c3]) (t := 34) ?hr ?_; (case hd => rfl); (case hg => rfl); (case hr => first | (go_simp; done) | (go_simp; rfl)); intro g4 hg_ wb hbox_ hb_; replace BK3 := Aside0.mk (blk_below BK3.out hb_); have BK4 := Aside0.mk (hbox_); have GBK4_HB : Aside0 (w.heap.size ≤ g4) := ⟨by rw [hg_]; exact below_size HB.out⟩; replace HB : Aside0 (Below w.heap.size w wb) := ⟨below_step HB.out hb_⟩; clear hg_ hbox_ hb_) | ((with_reducible refine gate_dst (N := 5) rfl ?_); refine box_event ?hg (N := 5) ?hd (cs := #[.int .i64 2, .string val.f0, .int .i64 val.f1, .string wid.f0, .int .i64 wid.f1, .string hi.f0, .int .i64 hi.f1, .string lo.f0, .int .i64 lo.f1, .string nm, .slice A10 kids.length c10]) (t := 47) ?hr ?_; (case hd => rfl); (case hg => rfl); (case hr => first | (go_simp; done) | (go_simp; rfl)); intro g5 hg_ wc hbox_ hb_; replace BK3 := Aside0.mk (blk_below BK3.out hb_); replace BK4 := Aside0.mk (blk_below BK4.out hb_); have BK5 := Aside0.mk (hbox_); have GBK5_HB : Aside0 (w.heap.size ≤ g5) := ⟨by rw [hg_]; exact below_size HB.out⟩; replace HB : Aside0 (Below w.heap.size w wc) := ⟨below_step HB.out hb_⟩; have hk59 : wc.cell? ⟨g5, 9, none⟩ = some (.string nm) := blk_cell hbox_ 9; clear hg_ hbox_ hb_) | ((with_reducible refine gate_dst (N := 19) rfl ?_); refine wpList_load_row rfl 34 (.tmp 4) rfl g4 rfl 34 #[.string m.f0, .slice A1 m.f1.length c1, .slice A2 m.f2.length c2, .slice A3 m.f3.length c3] (0, 0) _ ?hg Try.underlying34 rfl ?hq9 ?_; (case hg => exact BK4.out); (case hq9 => kernel_rfl)))
    refine (KK.out _ _ (k34.K_below HB.out HM.out)).mono ?_
    rintro e w1 ⟨rfl, hb⟩
    replace BK3 := Aside0.mk (blk_below BK3.out hb)
    replace BK4 := Aside0.mk (blk_below BK4.out hb)
    replace BK5 := Aside0.mk (blk_below BK5.out hb)
    replace HB := Aside0.mk (below_step HB.out hb)
    clear hb hk59
    have hdl : nm.data.toList.length = nm.size := data_length nm
    have hsz : IntKind.i64.wrap ((nm.size : Int) - 1) = (nm.size : Int) - 1 := Go.IntWalk.i64_in _ (by omega)
    have HDL := Aside0.mk hdl
    have hk50 : w1.cell? ⟨g5, 0, none⟩ = some (.int .i64 2) := blk_cell BK5.out 0
    have hk59 : w1.cell? ⟨g5, 9, none⟩ = some (.string nm) := blk_cell BK5.out 9
    go_wp2_with fail
    clear hdl hk50
    go_loopw [9, 10] (fun a b wr => ∃ j : Nat, a = .int .i64 ((fst gDot (nm.data.toList.drop j) j).getD (-1)) ∧ b = .int .i64 ((j : Int) - 1) ∧ j ≤ nm.size ∧ Aside0 (wr = w1)) (fun _ b _ => (intOf b + 1).toNat)
    case atStart => exact ⟨nm.size, by rw [fst_end gDot nm.data.toList nm.size (by rw [HDL.out]; exact Nat.le_refl _)]; rfl, rfl, Nat.le_refl _, ⟨rfl⟩⟩
    case round =>
      clear hk59
      obtain ⟨j, rfl, rfl, hj, HW⟩ := hrel
      obtain rfl := HW.out
      have hk59 : wr.cell? ⟨g5, 9, none⟩ = some (.string nm) := blk_cell BK5.out 9
      cases j with
      | succ j =>
        have hlt2 : j < nm.data.toList.length := by rw [HDL.out]; omega
        have hje : ((j + 1 : Nat) : Int) - 1 = (j : Int) := by omega
        rw [hje]
        have hj0 : (0 : Int) ≤ (j : Int) := by omega
        have hj1 : (j : Int) < (nm.size : Int) := by omega
        have hlt3 : j < nm.size := by omega
        have hjw : IntKind.i64.wrap ((j : Int) - 1) = (j : Int) - 1 := Go.IntWalk.i64_in _ (by omega)
        obtain ⟨D, hD⟩ : ∃ D, fst gDot (nm.data.toList.drop (j + 1)) (j + 1) = D := ⟨_, rfl⟩
        rw [hD]
        have HDD := Aside0.mk hD
        clear hD hje
        go_wp2
        · have hq : gDot nm.data.toList[j] j = some (j : Int) := gDot_hit (by assumption)
          have HE := fst_hit gDot nm.data.toList j hlt2 hq
          go_roundw
          case rel => exact ⟨j, by rw [HE]; rfl, rfl, by omega, ⟨trivial⟩⟩
          case measure => simp [intOf]
        · have hq : gDot nm.data.toList[j] j = none := gDot_miss (by assumption)
          have HE := fst_miss gDot nm.data.toList j hlt2 hq
          go_roundw
          case rel => exact ⟨j, by rw [HE, HDD.out], rfl, by omega, ⟨trivial⟩⟩
          case measure => simp [intOf]
      | zero =>
        have hz1 : (((0 : Nat) : Int) - 1) = -1 := rfl
        rw [hz1]
        have hds : (fst gDot (nm.data.toList.drop 0) 0).getD (-1) = dotS nm := rfl
        rw [hds]
        obtain ⟨d, hd⟩ : ∃ d, dotS nm = d := ⟨_, rfl⟩
        rw [hd]
        have HD := Aside0.mk hd
        clear hds hd hj
        by_cases hd0 : d < 0
        · have hk : kq = 2 ∨ kq = 4 ∨ kq = 5 := by
            have h1 := HR.out
            rw [refS_eq, HD.out, if_pos hd0, HKQ.out] at h1
            unfold amongS at h1
            split at h1
            · cases h1
            · split at h1
              · cases h1
              · rename_i h2; simp only at h2; omega
          rcases hk with rfl | rfl | rfl
          all_goals (go_wp2; go_ret; exact ⟨rfl, HB.out⟩)
        obtain ⟨a, rfl⟩ : ∃ a : Nat, d = (a : Int) := ⟨d.toNat, by omega⟩
        have hda : ¬ ((a : Int) < 0) := by omega
        have ha : a < nm.size := by have := dot_range nm; rw [HD.out] at this; omega
        obtain ⟨u, hu⟩ : ∃ u, nm.extract 0 a = u := ⟨_, rfl⟩
        obtain ⟨p, hp⟩ : ∃ p, nm.extract (a + 1) nm.size = p := ⟨_, rfl⟩
        have HU := Aside0.mk hu
        have HP := Aside0.mk hp
        have h1 := HR.out
        rw [refS_eq, HD.out, if_neg hda, Int.toNat_natCast, hu, hp] at h1
        have h7 : (kindS m u).1 = 7 := by
          split at h1
          · cases h1
          · rename_i h2; exact Decidable.not_not.1 h2
        rw [if_neg (by rw [h7]; decide)] at h1
        obtain ⟨_, _, q, z, _, hqz, _, _, hkq, hmo⟩ := kind_7 h7
        rw [hmo] at h1
        have hout : outS l z.f4 p = true := by
          split at h1
          · assumption
          · cases h1
        unfold outS at hout
        rcases find_cases l z.f4 with ⟨e1, _⟩ | ⟨n, y, e1, hny, hyn, hbe⟩
        · rw [e1, if_pos (by decide)] at hout; cases hout
        rw [e1, if_neg (by omega), Int.toNat_natCast, List.getD_eq_getElem?_getD, hny, Option.getD_some, beq_iff_eq] at hout
        have hql : q < m.f3.length := (List.getElem?_eq_some_iff.1 hqz).1
        have hnl : n < l.length := (List.getElem?_eq_some_iff.1 hny).1
        have K1 := Aside0.mk (fun w' cs' (hb : k34.K w' m cs') => skind_any m cs' u w' hb)
        rw [hkq] at K1
        have K3 := Aside0.mk (fun w' cs' (hb : k34.K w' y cs') => skind_any y cs' p w' hb)
        obtain ⟨k3, hk3e⟩ : ∃ k, kindS y p = k := ⟨_, rfl⟩
        rw [hk3e] at K3 hout
        obtain ⟨k3, kz3⟩ := k3
        simp only at K3 hout
        subst hout
        have HBE := Aside0.mk hbe
        have HYN := Aside0.mk hyn
        have HNY := Aside0.mk hny
        have HQZ := Aside0.mk hqz
        have HNL := Aside0.mk hnl
        have HQL := Aside0.mk hql
        have ha0 : (0 : Int) ≤ (a : Int) := by omega
        have ha1 : (a : Int) ≤ (nm.size : Int) := by omega
        have hwr : IntKind.i64.wrap ((a : Int) + 1) = (a : Int) + 1 := Go.IntWalk.i64_in _ (by omega)
        have hw1 : (0 : Int) ≤ (a : Int) + 1 := by omega
        have hw2 : (a : Int) + 1 ≤ (nm.size : Int) := by omega
        have hw4 : ((a : Int) + 1).toNat = a + 1 := by omega
        have hq0 : (0 : Int) ≤ (q : Int) := by omega
        have hq1 : (q : Int) < (m.f3.length : Int) := by omega
        have hd0' : decide ((a : Int) < 0) = false := by simp
        clear hu hp h1 h7 hkq hmo e1 hny hyn hbe hqz hnl hk3e hd0 hda ha HR HD
        go_wp2_with fail
        have hk40 : wr.cell? ⟨g4, 0, none⟩ = some (.string m.f0) := blk_cell BK4.out 0
        have hk41 : wr.cell? ⟨g4, 1, none⟩ = some (.slice A1 m.f1.length c1) := blk_cell BK4.out 1
        have hk42 : wr.cell? ⟨g4, 2, none⟩ = some (.slice A2 m.f2.length c2) := blk_cell BK4.out 2
        have hk43 : wr.cell? ⟨g4, 3, none⟩ = some (.slice A3 m.f3.length c3) := blk_cell BK4.out 3
        have hg3 : g3 < wr.heap.size := blk_lt BK3.out
        have hg4 : g4 < wr.heap.size := blk_lt BK4.out
        have hg5 : g5 < wr.heap.size := blk_lt BK5.out
        go_region_held3 (fun w' => w'.cell? ⟨g4, 0, none⟩ = some (.string m.f0) ∧ w'.cell? ⟨g4, 1, none⟩ = some (.slice A1 m.f1.length c1) ∧ w'.cell? ⟨g4, 2, none⟩ = some (.slice A2 m.f2.length c2) ∧ w'.cell? ⟨g4, 3, none⟩ = some (.slice A3 m.f3.length c3) ∧ w'.cell? ⟨g5, 9, none⟩ = some (.string nm))
          (go_keep)
          (first | (go_at_call 16; rw [HU.out]; refine (K1.out _ _ (k34.K_below (below_drew HB.out) HM.out)).mono ?_; rintro e w3 ⟨rfl, hb⟩; obtain ⟨hc, hf⟩ := bcell (below_step (below_drew (Below.refl wr.heap.size wr)) hb)))
        rename_i hH_
        clear hH_ hc hf hg3 hg4 hg5 hk40 hk41 hk42 hk43 hk59
        replace BK3 := Aside0.mk (blk_below (blk_drew BK3.out) hb)
        replace BK4 := Aside0.mk (blk_below (blk_drew BK4.out) hb)
        replace BK5 := Aside0.mk (blk_below (blk_drew BK5.out) hb)
        replace HB := Aside0.mk (below_step (below_drew HB.out) hb)
        clear hb
        have hk43 : w3.cell? ⟨g4, 3, none⟩ = some (.slice A3 m.f3.length c3) := blk_cell BK4.out 3
        have hq2 : decide ((q : Int) ≥ (m.f3.length : Int)) = false := by simp; omega
        have hq3 : decide ((q : Int) < 0) = false := by simp
        go_wp2_with fail
        clear hk43 hq2 hq3
        go_loopw [13] (fun v wr => ∃ k : Nat, v = .int .i64 (k : Int) ∧ k ≤ n ∧ Aside0 (wr.heap[g3]? = some (.cells #[.slice A0 l.length c0] 24 (0, 0))) ∧ Aside0 (wr.heap[g4]? = some (.cells #[.string m.f0, .slice A1 m.f1.length c1, .slice A2 m.f2.length c2, .slice A3 m.f3.length c3] 34 (0, 0))) ∧ Aside0 (wr.heap[g5]? = some (.cells #[.int .i64 2, .string val.f0, .int .i64 val.f1, .string wid.f0, .int .i64 wid.f1, .string hi.f0, .int .i64 hi.f1, .string lo.f0, .int .i64 lo.f1, .string nm, .slice A10 kids.length c10] 47 (0, 0))) ∧ Aside0 (Below w.heap.size w wr)) (fun v _ => n + 1 - (intOf v).toNat)
        case atStart => exact ⟨0, rfl, Nat.zero_le _, BK3, BK4, BK5, HB⟩
        case round =>
          clear BK3 BK4 BK5 HB
          obtain ⟨k, rfl, hk, BK3, BK4, BK5, HB⟩ := hrel
          have hkl : k < l.length := by have := HNL.out; omega
          have hk0 : (0 : Int) ≤ (k : Int) := by omega
          have hk1 : (k : Int) < (l.length : Int) := by omega
          obtain ⟨md, N1, f1, N2, f2, N3, f3, rfl, hy0, hy1, hy2, hy3, hl1, hC1, hl2, hC2, hl3, hC3⟩ := at34 (Kd.C_below HC.out HB.out) k hkl
          have HKY := Aside0.mk (k34_mk _ l[k] hl1 hC1 hl2 hC2 hl3 hC3)
          obtain ⟨ax, cx, rfl, hKx, hcx⟩ := el_get HC3.out q HQL.out
          have hxz : m.f3[q]'HQL.out = z := Option.some.inj ((List.getElem?_eq_getElem HQL.out).symm.trans HQZ.out)
          rw [hxz] at hKx
          obtain ⟨X7, p7, X8, p8, X19, p19, X30, p30, X41, p41, rfl, _⟩ := k49_open hKx
          have hx6 : wr.cell? ⟨(ax.add (q * 42)).block, (ax.add (q * 42)).off + 6, none⟩ = some (.string z.f4) := hcx wr HB.out 6 _ rfl
          have hk3 : wr.cell? ⟨g3, 0, none⟩ = some (.slice (some md) l.length c0) := blk_cell BK3.out 0
          have hk43 : wr.cell? ⟨g4, 3, none⟩ = some (.slice (some ax) m.f3.length c3) := blk_cell BK4.out 3
          clear hl1 hC1 hl2 hC2 hl3 hC3 hKx hcx hxz
          go_wp2_with fail
          by_cases hkn : k = n
          · subst hkn
            obtain ⟨yy, hyy⟩ : ∃ y, l[k] = y := ⟨_, rfl⟩
            have hye : yy = y := Option.some.inj ((by rw [← hyy]; exact (List.getElem?_eq_getElem hkl).symm : some yy = l[k]?).trans HNY.out)
            rw [hyy, hye] at hy0 hy1 hy2 hy3 HKY
            have hq2 : (y.f0.toList == z.f4.toList) = true := HYN.out
            clear hyy hye hkl
            go_quiet (fail)
            clear hq2 hx6 hk43
            go_wp2_with fail
            generalize hgw : World.drewN _ _ = wd
            replace BK3 : Aside0 (wd.heap[g3]? = some (.cells #[.slice (some md) l.length c0] 24 (0, 0))) := ⟨by rw [← hgw]; exact BK3.out⟩
            replace BK5 : Aside0 (wd.heap[g5]? = some (.cells #[.int .i64 2, .string val.f0, .int .i64 val.f1, .string wid.f0, .int .i64 wid.f1, .string hi.f0, .int .i64 hi.f1, .string lo.f0, .int .i64 lo.f1, .string nm, .slice A10 kids.length c10] 47 (0, 0))) := ⟨by rw [← hgw]; exact BK5.out⟩
            replace HB : Aside0 (Below w.heap.size w wd) := ⟨by rw [← hgw]; exact pw_below_drewN HB.out _⟩
            replace HKY := Aside0.mk (k34.K_below (show Below wr.heap.size wr wd by rw [← hgw]; exact pw_below_drewN (Below.refl _ _) _) HKY.out)
            replace hk3 : wd.cell? ⟨g3, 0, none⟩ = some (.slice (some md) l.length c0) := blk_cell BK3.out 0
            have hk59 : wd.cell? ⟨g5, 9, none⟩ = some (.string nm) := blk_cell BK5.out 9
            replace hy0 : wd.cell? (md.add (k * 4)) = some (.string y.f0) := by rw [← hgw]; exact hy0
            replace hy1 : wd.cell? ⟨(md.add (k * 4)).block, (md.add (k * 4)).off + 1, none⟩ = some (.slice N1 y.f1.length f1) := by rw [← hgw]; exact hy1
            replace hy2 : wd.cell? ⟨(md.add (k * 4)).block, (md.add (k * 4)).off + 2, none⟩ = some (.slice N2 y.f2.length f2) := by rw [← hgw]; exact hy2
            replace hy3 : wd.cell? ⟨(md.add (k * 4)).block, (md.add (k * 4)).off + 3, none⟩ = some (.slice N3 y.f3.length f3) := by rw [← hgw]; exact hy3
            have hbk : (md.add (k * 4)).block < wd.heap.size := World.block_lt_of_cell? wd _ hy0
            have hg3 : g3 < wd.heap.size := blk_lt BK3.out
            have hg5 : g5 < wd.heap.size := blk_lt BK5.out
            clear hgw
            go_region_held3 (fun w' => w'.cell? ⟨g3, 0, none⟩ = some (.slice (some md) l.length c0) ∧ w'.cell? (md.add (k * 4)) = some (.string y.f0) ∧ w'.cell? ⟨(md.add (k * 4)).block, (md.add (k * 4)).off + 1, none⟩ = some (.slice N1 y.f1.length f1) ∧ w'.cell? ⟨(md.add (k * 4)).block, (md.add (k * 4)).off + 2, none⟩ = some (.slice N2 y.f2.length f2) ∧ w'.cell? ⟨(md.add (k * 4)).block, (md.add (k * 4)).off + 3, none⟩ = some (.slice N3 y.f3.length f3) ∧ w'.cell? ⟨g5, 9, none⟩ = some (.string nm))
              (go_keep)
              (first | (go_at_call 16; rw [HP.out]; refine (K3.out _ _ (k34.K_below (below_drew (Below.refl _ _)) HKY.out)).mono ?_; rintro e w3 ⟨rfl, hb⟩; obtain ⟨hc, hf⟩ := bcell (below_step (below_drew (Below.refl wd.heap.size wd)) hb)))
            rename_i hH_
            clear hH_ hc hf
            go_wp2
            go_ret
            exact ⟨rfl, below_step (below_drew HB.out) hb⟩
          · have hq2 : (l[k].f0.toList == z.f4.toList) = false := HBE.out k l[k] (by omega) (List.getElem?_eq_getElem hkl)
            go_quiet (fail)
            clear hq2 hx6 hk43 hy0 hy1 hy2 hy3 HKY
            go_wp2
            go_roundw
            case rel => exact ⟨k + 1, by go_num, by omega, ⟨BK3.out⟩, ⟨BK4.out⟩, ⟨BK5.out⟩, ⟨pw_below_drewN HB.out _⟩⟩
            case measure => simp [intOf]; omega
  · by_cases o19 : op = 19
    · subst o19
      have h6 : kq = 6 := by
        have h1 := HO.out
        rw [ownS_19] at h1
        have h2 := among_one h1
        rw [HKQ.out] at h2
        exact h2
      subst h6
      go_enter Try.func19, Try.ntmps19
      go_wp2_with (first | ((with_reducible refine gate_dst (N := 3) rfl ?_); refine box_event ?hg (N := 3) ?hd (cs := #[.slice A0 l.length c0]) (t := 24) ?hr ?_; (case hd => rfl); (case hg => rfl); (case hr => first | (go_simp; done) | (go_simp; rfl)); intro g3 hg_ wa hbox_ hb_; have BK3 := Aside0.mk (hbox_); have GBK3_HB : Aside0 (w.heap.size ≤ g3) := ⟨by rw [hg_]; exact below_size HB.out⟩; replace HB : Aside0 (Below w.heap.size w wa) := ⟨below_step HB.out hb_⟩; clear hg_ hbox_ hb_) | ((with_reducible refine gate_dst (N := 4) rfl ?_); refine box_event ?hg (N := 4) ?hd (cs := #[.string m.f0, .slice A1 m.f1.length c1, .slice A2 m.f2.length c2, .slice A3 m.f3.length c3]) (t := 34) ?hr ?_; (case hd => rfl); (case hg => rfl); (case hr => first | (go_simp; done) | (go_simp; rfl)); intro g4 hg_ wb hbox_ hb_; replace BK3 := Aside0.mk (blk_below BK3.out hb_); have BK4 := Aside0.mk (hbox_); have GBK4_HB : Aside0 (w.heap.size ≤ g4) := ⟨by rw [hg_]; exact below_size HB.out⟩; replace HB : Aside0 (Below w.heap.size w wb) := ⟨below_step HB.out hb_⟩; clear hg_ hbox_ hb_) | ((with_reducible refine gate_dst (N := 5) rfl ?_); refine box_event ?hg (N := 5) ?hd (cs := #[.int .i64 19, .string val.f0, .int .i64 val.f1, .string wid.f0, .int .i64 wid.f1, .string hi.f0, .int .i64 hi.f1, .string lo.f0, .int .i64 lo.f1, .string nm, .slice A10 kids.length c10]) (t := 47) ?hr ?_; (case hd => rfl); (case hg => rfl); (case hr => first | (go_simp; done) | (go_simp; rfl)); intro g5 hg_ wc hbox_ hb_; replace BK3 := Aside0.mk (blk_below BK3.out hb_); replace BK4 := Aside0.mk (blk_below BK4.out hb_); have BK5 := Aside0.mk (hbox_); have GBK5_HB : Aside0 (w.heap.size ≤ g5) := ⟨by rw [hg_]; exact below_size HB.out⟩; replace HB : Aside0 (Below w.heap.size w wc) := ⟨below_step HB.out hb_⟩; have hk59 : wc.cell? ⟨g5, 9, none⟩ = some (.string nm) := blk_cell hbox_ 9; clear hg_ hbox_ hb_) | ((with_reducible refine gate_dst (N := 19) rfl ?_); refine wpList_load_row rfl 34 (.tmp 4) rfl g4 rfl 34 #[.string m.f0, .slice A1 m.f1.length c1, .slice A2 m.f2.length c2, .slice A3 m.f3.length c3] (0, 0) _ ?hg Try.underlying34 rfl ?hq9 ?_; (case hg => exact BK4.out); (case hq9 => kernel_rfl)))
      refine (KK.out _ _ (k34.K_below HB.out HM.out)).mono ?_
      rintro e w1 ⟨rfl, hb⟩
      replace BK3 := Aside0.mk (blk_below BK3.out hb)
      replace BK4 := Aside0.mk (blk_below BK4.out hb)
      replace BK5 := Aside0.mk (blk_below BK5.out hb)
      replace HB := Aside0.mk (below_step HB.out hb)
      clear hb hk59
      have hk50 : w1.cell? ⟨g5, 0, none⟩ = some (.int .i64 19) := blk_cell BK5.out 0
      go_wp2_with fail
      clear hk50
      go_loopw [16] (fun v wr => ∃ n : Nat, v = .int .i64 (n : Int) ∧ n ≤ kids.length ∧ Aside0 (wr.heap[g3]? = some (.cells #[.slice A0 l.length c0] 24 (0, 0))) ∧ Aside0 (wr.heap[g4]? = some (.cells #[.string m.f0, .slice A1 m.f1.length c1, .slice A2 m.f2.length c2, .slice A3 m.f3.length c3] 34 (0, 0))) ∧ Aside0 (wr.heap[g5]? = some (.cells #[.int .i64 19, .string val.f0, .int .i64 val.f1, .string wid.f0, .int .i64 wid.f1, .string hi.f0, .int .i64 hi.f1, .string lo.f0, .int .i64 lo.f1, .string nm, .slice A10 kids.length c10] 47 (0, 0))) ∧ Aside0 (Below w.heap.size w wr)) (fun v _ => kids.length - (intOf v).toNat)
      case atStart => exact ⟨0, rfl, Nat.zero_le _, BK3, BK4, BK5, HB⟩
      case round =>
        clear BK3 BK4 BK5 HB
        obtain ⟨n, rfl, hn, BK3, BK4, BK5, HB⟩ := hrel
        have hk510 : wr.cell? ⟨g5, 10, none⟩ = some (.slice A10 kids.length c10) := blk_cell BK5.out 10
        by_cases hlt : n < kids.length
        · have hn0 : (0 : Int) ≤ (n : Int) := by omega
          have hn1 : (n : Int) < (kids.length : Int) := by omega
          obtain ⟨ae, E10, e10, rfl, hx0, hx1, hx2, hx3, hx4, hx5, hx6, hx7, hx8, hx9, hx10, hle, hCe⟩ := at47 (Kd.C_below HC10.out HB.out) n hlt
          have HKE := Aside0.mk (k47_mk wr kids[n] hle hCe)
          have IHX := Aside0.mk (fun w' ces (hb : Below w.heap.size w w') (hE : k47.K w' kids[n] ces) => ih kids[n] (kid_size (List.getElem_mem hlt)) A0 c0 l m _ ces w' (Kd.C_below HC.out hb) (k34.K_below hb HM.out) hE (HBK.out kids[n] (List.getElem_mem hlt)) (HZK.out kids[n] (List.getElem_mem hlt)))
          obtain ⟨x, hx⟩ : ∃ x, kids[n] = x := ⟨_, rfl⟩
          rw [hx] at hx0 hx1 hx2 hx3 hx4 hx5 hx6 hx7 hx8 hx9 hx10 HKE IHX
          have hbk : (ae.add (n * 11)).block < wr.heap.size := World.block_lt_of_cell? wr _ hx0
          have hk3 : wr.cell? ⟨g3, 0, none⟩ = some (.slice A0 l.length c0) := blk_cell BK3.out 0
          have hk40 : wr.cell? ⟨g4, 0, none⟩ = some (.string m.f0) := blk_cell BK4.out 0
          have hk41 : wr.cell? ⟨g4, 1, none⟩ = some (.slice A1 m.f1.length c1) := blk_cell BK4.out 1
          have hk42 : wr.cell? ⟨g4, 2, none⟩ = some (.slice A2 m.f2.length c2) := blk_cell BK4.out 2
          have hk43 : wr.cell? ⟨g4, 3, none⟩ = some (.slice A3 m.f3.length c3) := blk_cell BK4.out 3
          have hg3 : g3 < wr.heap.size := blk_lt BK3.out
          have hg4 : g4 < wr.heap.size := blk_lt BK4.out
          have hg5 : g5 < wr.heap.size := blk_lt BK5.out
          clear hx hle hCe hlt
          go_wp2_with fail
          go_region_held3 (fun w' => w'.cell? ⟨g3, 0, none⟩ = some (.slice A0 l.length c0) ∧ w'.cell? ⟨g4, 0, none⟩ = some (.string m.f0) ∧ w'.cell? ⟨g4, 1, none⟩ = some (.slice A1 m.f1.length c1) ∧ w'.cell? ⟨g4, 2, none⟩ = some (.slice A2 m.f2.length c2) ∧ w'.cell? ⟨g4, 3, none⟩ = some (.slice A3 m.f3.length c3) ∧ w'.cell? ⟨g5, 10, none⟩ = some (.slice (some ae) kids.length c10) ∧ w'.cell? (ae.add (n * 11)) = some (.int .i64 x.f0) ∧ w'.cell? ⟨(ae.add (n * 11)).block, (ae.add (n * 11)).off + 1, none⟩ = some (.string x.f1.f0) ∧ w'.cell? ⟨(ae.add (n * 11)).block, (ae.add (n * 11)).off + 2, none⟩ = some (.int .i64 x.f1.f1) ∧ w'.cell? ⟨(ae.add (n * 11)).block, (ae.add (n * 11)).off + 3, none⟩ = some (.string x.f2.f0) ∧ w'.cell? ⟨(ae.add (n * 11)).block, (ae.add (n * 11)).off + 4, none⟩ = some (.int .i64 x.f2.f1) ∧ w'.cell? ⟨(ae.add (n * 11)).block, (ae.add (n * 11)).off + 5, none⟩ = some (.string x.f3.f0) ∧ w'.cell? ⟨(ae.add (n * 11)).block, (ae.add (n * 11)).off + 6, none⟩ = some (.int .i64 x.f3.f1) ∧ w'.cell? ⟨(ae.add (n * 11)).block, (ae.add (n * 11)).off + 7, none⟩ = some (.string x.f4.f0) ∧ w'.cell? ⟨(ae.add (n * 11)).block, (ae.add (n * 11)).off + 8, none⟩ = some (.int .i64 x.f4.f1) ∧ w'.cell? ⟨(ae.add (n * 11)).block, (ae.add (n * 11)).off + 9, none⟩ = some (.string x.f5) ∧ w'.cell? ⟨(ae.add (n * 11)).block, (ae.add (n * 11)).off + 10, none⟩ = some (.slice E10 x.f6.length e10))
            (go_keep)
            (first | (go_at_call 19; refine (IHX.out _ _ (below_drew HB.out) (k47.K_below (below_drew (Below.refl _ _)) HKE.out)).mono ?_; rintro e w2 ⟨rfl, hb⟩; obtain ⟨hc, hf⟩ := bcell (below_step (below_drew (Below.refl wr.heap.size wr)) hb)))
          rename_i hH_
          clear hH_ hc hf hx0 hx1 hx2 hx3 hx4 hx5 hx6 hx7 hx8 hx9 hx10 hbk hg3 hg4 hg5 hk3 hk40 hk41 hk42 hk43 hk510 HKE IHX
          replace BK3 := Aside0.mk (blk_below (blk_drew BK3.out) hb)
          replace BK4 := Aside0.mk (blk_below (blk_drew BK4.out) hb)
          replace BK5 := Aside0.mk (blk_below (blk_drew BK5.out) hb)
          replace HB := Aside0.mk (below_step (below_drew HB.out) hb)
          clear hb
          go_wp2
          go_roundw
          case rel => exact ⟨n + 1, by go_num, by omega, BK3, BK4, BK5, HB⟩
          case measure => simp [intOf]; omega
        · go_wp2
          go_ret
          exact ⟨rfl, HB.out⟩
    · have o2' : (op == 2) = false := by rw [beq_eq_false_iff_ne]; exact o2
      have o19' : (op == 19) = false := by rw [beq_eq_false_iff_ne]; exact o19
      go_enter Try.func19, Try.ntmps19
      go_wp2_with (first | ((with_reducible refine gate_dst (N := 3) rfl ?_); refine box_event ?hg (N := 3) ?hd (cs := #[.slice A0 l.length c0]) (t := 24) ?hr ?_; (case hd => rfl); (case hg => rfl); (case hr => first | (go_simp; done) | (go_simp; rfl)); intro g3 hg_ wa hbox_ hb_; have BK3 := Aside0.mk (hbox_); have GBK3_HB : Aside0 (w.heap.size ≤ g3) := ⟨by rw [hg_]; exact below_size HB.out⟩; replace HB : Aside0 (Below w.heap.size w wa) := ⟨below_step HB.out hb_⟩; clear hg_ hbox_ hb_) | ((with_reducible refine gate_dst (N := 4) rfl ?_); refine box_event ?hg (N := 4) ?hd (cs := #[.string m.f0, .slice A1 m.f1.length c1, .slice A2 m.f2.length c2, .slice A3 m.f3.length c3]) (t := 34) ?hr ?_; (case hd => rfl); (case hg => rfl); (case hr => first | (go_simp; done) | (go_simp; rfl)); intro g4 hg_ wb hbox_ hb_; replace BK3 := Aside0.mk (blk_below BK3.out hb_); have BK4 := Aside0.mk (hbox_); have GBK4_HB : Aside0 (w.heap.size ≤ g4) := ⟨by rw [hg_]; exact below_size HB.out⟩; replace HB : Aside0 (Below w.heap.size w wb) := ⟨below_step HB.out hb_⟩; clear hg_ hbox_ hb_) | ((with_reducible refine gate_dst (N := 5) rfl ?_); refine box_event ?hg (N := 5) ?hd (cs := #[.int .i64 op, .string val.f0, .int .i64 val.f1, .string wid.f0, .int .i64 wid.f1, .string hi.f0, .int .i64 hi.f1, .string lo.f0, .int .i64 lo.f1, .string nm, .slice A10 kids.length c10]) (t := 47) ?hr ?_; (case hd => rfl); (case hg => rfl); (case hr => first | (go_simp; done) | (go_simp; rfl)); intro g5 hg_ wc hbox_ hb_; replace BK3 := Aside0.mk (blk_below BK3.out hb_); replace BK4 := Aside0.mk (blk_below BK4.out hb_); have BK5 := Aside0.mk (hbox_); have GBK5_HB : Aside0 (w.heap.size ≤ g5) := ⟨by rw [hg_]; exact below_size HB.out⟩; replace HB : Aside0 (Below w.heap.size w wc) := ⟨below_step HB.out hb_⟩; have hk59 : wc.cell? ⟨g5, 9, none⟩ = some (.string nm) := blk_cell hbox_ 9; clear hg_ hbox_ hb_) | ((with_reducible refine gate_dst (N := 19) rfl ?_); refine wpList_load_row rfl 34 (.tmp 4) rfl g4 rfl 34 #[.string m.f0, .slice A1 m.f1.length c1, .slice A2 m.f2.length c2, .slice A3 m.f3.length c3] (0, 0) _ ?hg Try.underlying34 rfl ?hq9 ?_; (case hg => exact BK4.out); (case hq9 => kernel_rfl)))
      refine (KK.out _ _ (k34.K_below HB.out HM.out)).mono ?_
      rintro e w1 ⟨rfl, hb⟩
      replace BK3 := Aside0.mk (blk_below BK3.out hb)
      replace BK4 := Aside0.mk (blk_below BK4.out hb)
      replace BK5 := Aside0.mk (blk_below BK5.out hb)
      replace HB := Aside0.mk (below_step HB.out hb)
      clear hb hk59
      have hk50 : w1.cell? ⟨g5, 0, none⟩ = some (.int .i64 op) := blk_cell BK5.out 0
      go_wp2_with fail
      clear hk50
      go_loopw [16] (fun v wr => ∃ n : Nat, v = .int .i64 (n : Int) ∧ n ≤ kids.length ∧ Aside0 (wr.heap[g3]? = some (.cells #[.slice A0 l.length c0] 24 (0, 0))) ∧ Aside0 (wr.heap[g4]? = some (.cells #[.string m.f0, .slice A1 m.f1.length c1, .slice A2 m.f2.length c2, .slice A3 m.f3.length c3] 34 (0, 0))) ∧ Aside0 (wr.heap[g5]? = some (.cells #[.int .i64 op, .string val.f0, .int .i64 val.f1, .string wid.f0, .int .i64 wid.f1, .string hi.f0, .int .i64 hi.f1, .string lo.f0, .int .i64 lo.f1, .string nm, .slice A10 kids.length c10] 47 (0, 0))) ∧ Aside0 (Below w.heap.size w wr)) (fun v _ => kids.length - (intOf v).toNat)
      case atStart => exact ⟨0, rfl, Nat.zero_le _, BK3, BK4, BK5, HB⟩
      case round =>
        clear BK3 BK4 BK5 HB
        obtain ⟨n, rfl, hn, BK3, BK4, BK5, HB⟩ := hrel
        have hk510 : wr.cell? ⟨g5, 10, none⟩ = some (.slice A10 kids.length c10) := blk_cell BK5.out 10
        by_cases hlt : n < kids.length
        · have hn0 : (0 : Int) ≤ (n : Int) := by omega
          have hn1 : (n : Int) < (kids.length : Int) := by omega
          obtain ⟨ae, E10, e10, rfl, hx0, hx1, hx2, hx3, hx4, hx5, hx6, hx7, hx8, hx9, hx10, hle, hCe⟩ := at47 (Kd.C_below HC10.out HB.out) n hlt
          have HKE := Aside0.mk (k47_mk wr kids[n] hle hCe)
          have IHX := Aside0.mk (fun w' ces (hb : Below w.heap.size w w') (hE : k47.K w' kids[n] ces) => ih kids[n] (kid_size (List.getElem_mem hlt)) A0 c0 l m _ ces w' (Kd.C_below HC.out hb) (k34.K_below hb HM.out) hE (HBK.out kids[n] (List.getElem_mem hlt)) (HZK.out kids[n] (List.getElem_mem hlt)))
          obtain ⟨x, hx⟩ : ∃ x, kids[n] = x := ⟨_, rfl⟩
          rw [hx] at hx0 hx1 hx2 hx3 hx4 hx5 hx6 hx7 hx8 hx9 hx10 HKE IHX
          have hbk : (ae.add (n * 11)).block < wr.heap.size := World.block_lt_of_cell? wr _ hx0
          have hk3 : wr.cell? ⟨g3, 0, none⟩ = some (.slice A0 l.length c0) := blk_cell BK3.out 0
          have hk40 : wr.cell? ⟨g4, 0, none⟩ = some (.string m.f0) := blk_cell BK4.out 0
          have hk41 : wr.cell? ⟨g4, 1, none⟩ = some (.slice A1 m.f1.length c1) := blk_cell BK4.out 1
          have hk42 : wr.cell? ⟨g4, 2, none⟩ = some (.slice A2 m.f2.length c2) := blk_cell BK4.out 2
          have hk43 : wr.cell? ⟨g4, 3, none⟩ = some (.slice A3 m.f3.length c3) := blk_cell BK4.out 3
          have hg3 : g3 < wr.heap.size := blk_lt BK3.out
          have hg4 : g4 < wr.heap.size := blk_lt BK4.out
          have hg5 : g5 < wr.heap.size := blk_lt BK5.out
          clear hx hle hCe hlt
          go_wp2_with fail
          go_region_held3 (fun w' => w'.cell? ⟨g3, 0, none⟩ = some (.slice A0 l.length c0) ∧ w'.cell? ⟨g4, 0, none⟩ = some (.string m.f0) ∧ w'.cell? ⟨g4, 1, none⟩ = some (.slice A1 m.f1.length c1) ∧ w'.cell? ⟨g4, 2, none⟩ = some (.slice A2 m.f2.length c2) ∧ w'.cell? ⟨g4, 3, none⟩ = some (.slice A3 m.f3.length c3) ∧ w'.cell? ⟨g5, 10, none⟩ = some (.slice (some ae) kids.length c10) ∧ w'.cell? (ae.add (n * 11)) = some (.int .i64 x.f0) ∧ w'.cell? ⟨(ae.add (n * 11)).block, (ae.add (n * 11)).off + 1, none⟩ = some (.string x.f1.f0) ∧ w'.cell? ⟨(ae.add (n * 11)).block, (ae.add (n * 11)).off + 2, none⟩ = some (.int .i64 x.f1.f1) ∧ w'.cell? ⟨(ae.add (n * 11)).block, (ae.add (n * 11)).off + 3, none⟩ = some (.string x.f2.f0) ∧ w'.cell? ⟨(ae.add (n * 11)).block, (ae.add (n * 11)).off + 4, none⟩ = some (.int .i64 x.f2.f1) ∧ w'.cell? ⟨(ae.add (n * 11)).block, (ae.add (n * 11)).off + 5, none⟩ = some (.string x.f3.f0) ∧ w'.cell? ⟨(ae.add (n * 11)).block, (ae.add (n * 11)).off + 6, none⟩ = some (.int .i64 x.f3.f1) ∧ w'.cell? ⟨(ae.add (n * 11)).block, (ae.add (n * 11)).off + 7, none⟩ = some (.string x.f4.f0) ∧ w'.cell? ⟨(ae.add (n * 11)).block, (ae.add (n * 11)).off + 8, none⟩ = some (.int .i64 x.f4.f1) ∧ w'.cell? ⟨(ae.add (n * 11)).block, (ae.add (n * 11)).off + 9, none⟩ = some (.string x.f5) ∧ w'.cell? ⟨(ae.add (n * 11)).block, (ae.add (n * 11)).off + 10, none⟩ = some (.slice E10 x.f6.length e10))
            (go_keep)
            (first | (go_at_call 19; refine (IHX.out _ _ (below_drew HB.out) (k47.K_below (below_drew (Below.refl _ _)) HKE.out)).mono ?_; rintro e w2 ⟨rfl, hb⟩; obtain ⟨hc, hf⟩ := bcell (below_step (below_drew (Below.refl wr.heap.size wr)) hb)))
          rename_i hH_
          clear hH_ hc hf hx0 hx1 hx2 hx3 hx4 hx5 hx6 hx7 hx8 hx9 hx10 hbk hg3 hg4 hg5 hk3 hk40 hk41 hk42 hk43 hk510 HKE IHX
          replace BK3 := Aside0.mk (blk_below (blk_drew BK3.out) hb)
          replace BK4 := Aside0.mk (blk_below (blk_drew BK4.out) hb)
          replace BK5 := Aside0.mk (blk_below (blk_drew BK5.out) hb)
          replace HB := Aside0.mk (below_step (below_drew HB.out) hb)
          clear hb
          go_wp2
          go_roundw
          case rel => exact ⟨n + 1, by go_num, by omega, BK3, BK4, BK5, HB⟩
          case measure => simp [intOf]; omega
        · go_wp2
          go_ret
          exact ⟨rfl, HB.out⟩
end Go.Proofs.Ytnfhlhjbmcofoaa.S
