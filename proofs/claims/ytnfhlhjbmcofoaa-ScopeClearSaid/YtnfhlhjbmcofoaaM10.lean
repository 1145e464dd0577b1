/- Scope: walks and plain laws of this seat's functions, merged out of smaller texts of this session (ScAa, ScAb). -/
import Derived.Test.YtnfhlhjbmcofoaaM09
import Derived.Test.YtnfhlhjbmcofoaaM07
namespace Go.Proofs.Ytnfhlhjbmcofoaa.S
open Go.RowKit Go.Proofs.YtnfhlhjbmcofoaaW.PrintWords Go.Proofs.YtnfhlhjbmcofoaaW.PrintLast
set_option linter.unusedVariables false
set_option linter.unusedSimpArgs false
set_option maxHeartbeats 64000000 in
set_option maxRecDepth 100000 in
theorem sexpr_any (N : Nat) : ∀ (e : S47), SizeOf.sizeOf e < N → ∀ (A0 : Option Addr) (c0 : Nat) (l : List S34) (m : S34) (cs ces : List Value) (w : World), LookAt w A0 c0 l m cs → k47.K w e ces → B47 e →
    Calls Try.prog 47 #[.agg cs.toArray, .agg ces.toArray] w fun e' w' => e' = .returned (.int .i64 (exprS l m e)) ∧ Below w.heap.size w w' := by
  induction N with
  | zero => intro e h; omega
  | succ N ih0 =>
  rintro ⟨op, vl, wd, eh, el, nm, kids⟩ hN A0 c0 l m cs ces w h he hB
  have ih := fun (x : S47) (hx : SizeOf.sizeOf (⟨op, vl, wd, eh, el, nm, kids⟩ : S47) < N + 1 → SizeOf.sizeOf x < N) => ih0 x (hx hN)
  obtain ⟨hc0, A1, c1, A2, c2, A3, c3, rfl, hKm, hl1, hC1, hl2, hC2, hl3, hC3⟩ := h
  have HC := Aside0.mk hc0
  have HMK := Aside0.mk hKm
  have HC1 := Aside0.mk hC1
  have HC2 := Aside0.mk hC2
  have HC3 := Aside0.mk hC3
  have HB : Aside0 (Below w.heap.size w w) := ⟨Below.refl _ _⟩
  have HLE := Aside0.mk (And.intro hl1 (And.intro hl2 hl3))
  obtain ⟨A10, c10, rfl, hl10, hC10⟩ := k47_open he
  simp only at hl10 hC10
  have HC10 := Aside0.mk hC10
  have hm : kids.length ≤ 9223372036854775807 := hC10.2.1
  obtain ⟨_, hB1, hB2, hB3⟩ := hB
  have HBK := Aside0.mk hB3
  have hs : nm.size ≤ 9223372036854775807 := by have := hB1.2.2.2.2.2; simp at this; omega
  obtain ⟨z, hz⟩ : ∃ z, exprS l m ⟨op, vl, wd, eh, el, nm, kids⟩ = z := ⟨_, rfl⟩
  rw [hz]
  rw [exprS] at hz
  obtain ⟨t, ht⟩ : ∃ t, takesS op = t := ⟨_, rfl⟩
  have KT := Aside0.mk (fun w' => stakes_any op w')
  rw [ht] at KT hz
  have HS := Aside0.mk hs
  clear ht hB1 hB2 hB3 he hl10 hC10 hs ih0 hN
  clear hc0 hKm hl1 hC1 hl2 hC2 hl3 hC3
  by_cases h1 : (kids.length : Int) ≠ t
  · rw [if_pos h1] at hz
    have HE : Aside0 (z = 1) := ⟨hz.symm⟩
    clear hz
    go_enter Try.func47, Try.ntmps47
    go_wp2_with (first | ((with_reducible refine gate_dst (N := 2) rfl ?_); refine box_event ?hg (N := 2) ?hd (cs := #[.slice A0 l.length c0, .string m.f0, .slice A1 m.f1.length c1, .slice A2 m.f2.length c2, .slice A3 m.f3.length c3]) (t := 67) ?hr ?_; (case hd => rfl); (case hg => rfl); (case hr => first | (go_simp; done) | (go_simp; rfl)); intro g2 hg_ w2 hbox_ hb_; have BK2 := Aside0.mk (hbox_); have GBK2 : Aside0 (w.heap.size ≤ g2) := ⟨by rw [hg_]; exact below_size HB.out⟩; replace HB : Aside0 (Below w.heap.size w w2) := ⟨below_step HB.out hb_⟩; clear hg_ hbox_ hb_) | ((with_reducible refine gate_dst (N := 3) rfl ?_); refine box_event ?hg (N := 3) ?hd (cs := #[.int .i64 op, .string vl.f0, .int .i64 vl.f1, .string wd.f0, .int .i64 wd.f1, .string eh.f0, .int .i64 eh.f1, .string el.f0, .int .i64 el.f1, .string nm, .slice A10 kids.length c10]) (t := 47) ?hr ?_; (case hd => rfl); (case hg => rfl); (case hr => first | (go_simp; done) | (go_simp; rfl)); intro g3 hg_ w3 hbox_ hb_; replace BK2 := Aside0.mk (blk_below BK2.out hb_); have BK3 := Aside0.mk (hbox_); have GBK3 : Aside0 (w.heap.size ≤ g3) := ⟨by rw [hg_]; exact below_size HB.out⟩; replace HB : Aside0 (Below w.heap.size w w3) := ⟨below_step HB.out hb_⟩; clear hg_ hbox_ hb_))
    have hk30 : w3.cell? ⟨g3, 0, none⟩ = some (.int .i64 op) := blk_cell BK3.out 0
    have hk310 : w3.cell? ⟨g3, 10, none⟩ = some (.slice A10 kids.length c10) := blk_cell BK3.out 10
    have hg3 : g3 < w3.heap.size := blk_lt BK3.out
    go_region_held3 (fun w' => w'.cell? ⟨g3, 0, none⟩ = some (.int .i64 op) ∧ w'.cell? ⟨g3, 10, none⟩ = some (.slice A10 kids.length c10))
      (go_keep)
      (first | (go_at_call 57; refine (KT.out _).mono ?_; rintro e w4 ⟨rfl, hb⟩; obtain ⟨hc, hf⟩ := bcell (below_step (below_drew (Below.refl w3.heap.size w3)) hb)))
    replace BK2 := Aside0.mk (blk_below (blk_drew BK2.out) hb)
    replace BK3 := Aside0.mk (blk_below (blk_drew BK3.out) hb)
    replace HB := Aside0.mk (below_step (below_drew HB.out) hb)
    clear hc hf hb hk30 hk310 hg3 KT
    have hk0 : w4.cell? ⟨g3, 0, none⟩ = some (.int .i64 op) := blk_cell BK3.out 0
    go_wp2
    go_ret
    exact ⟨by rw [HE.out]; rfl, HB.out⟩
  rw [if_neg h1] at hz
  have h1' : (kids.length : Int) = t := by simpa using h1
  subst h1'
  clear h1
  by_cases o1 : op = 1
  · subst o1
    rw [ownS_1 l m vl wd eh el nm] at hz
    have K1 := Aside0.mk (fun (cs' : List Value) w' (hLK : LookAt w' A0 c0 l m cs') DA dc hd => sdims_any A0 c0 l m cs' DA dc [wd, vl] w' hLK hd)
    obtain ⟨b, hb0⟩ : ∃ b, dimsS m.f1 [wd, vl] = b := ⟨_, rfl⟩
    rw [hb0] at K1 hz
    have HZ : Aside0 ((if b ≠ 0 then b else kidsS l m (kids.drop 0)) = z) := ⟨hz⟩
    clear hz hb0

    go_enter Try.func47, Try.ntmps47
    go_wp2_with (first | ((with_reducible refine gate_dst (N := 2) rfl ?_); refine box_event ?hg (N := 2) ?hd (cs := #[.slice A0 l.length c0, .string m.f0, .slice A1 m.f1.length c1, .slice A2 m.f2.length c2, .slice A3 m.f3.length c3]) (t := 67) ?hr ?_; (case hd => rfl); (case hg => rfl); (case hr => first | (go_simp; done) | (go_simp; rfl)); intro g2 hg_ w2 hbox_ hb_; have BK2 := Aside0.mk (hbox_); have GBK2 : Aside0 (w.heap.size ≤ g2) := ⟨by rw [hg_]; exact below_size HB.out⟩; replace HB : Aside0 (Below w.heap.size w w2) := ⟨below_step HB.out hb_⟩; clear hg_ hbox_ hb_) | ((with_reducible refine gate_dst (N := 3) rfl ?_); refine box_event ?hg (N := 3) ?hd (cs := #[.int .i64 1, .string vl.f0, .int .i64 vl.f1, .string wd.f0, .int .i64 wd.f1, .string eh.f0, .int .i64 eh.f1, .string el.f0, .int .i64 el.f1, .string nm, .slice A10 kids.length c10]) (t := 47) ?hr ?_; (case hd => rfl); (case hg => rfl); (case hr => first | (go_simp; done) | (go_simp; rfl)); intro g3 hg_ w3 hbox_ hb_; replace BK2 := Aside0.mk (blk_below BK2.out hb_); have BK3 := Aside0.mk (hbox_); have GBK3 : Aside0 (w.heap.size ≤ g3) := ⟨by rw [hg_]; exact below_size HB.out⟩; replace HB : Aside0 (Below w.heap.size w w3) := ⟨below_step HB.out hb_⟩; clear hg_ hbox_ hb_))
    have hk30 : w3.cell? ⟨g3, 0, none⟩ = some (.int .i64 1) := blk_cell BK3.out 0
    have hk310 : w3.cell? ⟨g3, 10, none⟩ = some (.slice A10 kids.length c10) := blk_cell BK3.out 10
    have hg3 : g3 < w3.heap.size := blk_lt BK3.out
    go_region_held3 (fun w' => w'.cell? ⟨g3, 0, none⟩ = some (.int .i64 1) ∧ w'.cell? ⟨g3, 10, none⟩ = some (.slice A10 kids.length c10))
      (go_keep)
      (first | (go_at_call 57; refine (KT.out _).mono ?_; rintro e w4 ⟨rfl, hb⟩; obtain ⟨hc, hf⟩ := bcell (below_step (below_drew (Below.refl w3.heap.size w3)) hb)))
    replace BK2 := Aside0.mk (blk_below (blk_drew BK2.out) hb)
    replace BK3 := Aside0.mk (blk_below (blk_drew BK3.out) hb)
    replace HB := Aside0.mk (below_step (below_drew HB.out) hb)
    clear hc hf hb hk30 hk310 hg3 KT
    have hk0 : w4.cell? ⟨g3, 0, none⟩ = some (.int .i64 1) := blk_cell BK3.out 0
    have hk1 : w4.cell? ⟨g3, 1, none⟩ = some (.string vl.f0) := blk_cell BK3.out 1
    have hk2 : w4.cell? ⟨g3, 2, none⟩ = some (.int .i64 vl.f1) := blk_cell BK3.out 2
    have hk3 : w4.cell? ⟨g3, 3, none⟩ = some (.string wd.f0) := blk_cell BK3.out 3
    have hk4 : w4.cell? ⟨g3, 4, none⟩ = some (.int .i64 wd.f1) := blk_cell BK3.out 4

    go_wp2_with (first | ((with_reducible refine gate_dst (N := 18) rfl ?_); refine wpList_load_row rfl 67 (.tmp 2) rfl g2 rfl 67 #[.slice A0 l.length c0, .string m.f0, .slice A1 m.f1.length c1, .slice A2 m.f2.length c2, .slice A3 m.f3.length c3] (0, 0) _ ?hg Try.underlying67 rfl ?hq9 ?_; (case hg => exact BK2.out); (case hq9 => kernel_rfl)) | ((with_reducible refine gate_dst (N := 23) rfl ?_); refine Kd.R_lit k42 _ 42 ?hg (N := 23) ?hd (xs := [wd, vl]) (inner := [.string wd.f0, .int .i64 wd.f1, .string vl.f0, .int .i64 vl.f1]) (ok := fun _ => True) (okp := fun _ => True) ?hr ?hp (fun _ hk => hk) trivial (Below.refl _ _) (Nat.le_refl _) (by simp) ?_; (case hd => rfl); (case hg => rfl); (case hr => first | (go_simp; done) | (go_simp; rfl)); (case hp => exact (Reps.snoc (Reps.snoc (Reps.none _ _) (k42_mkM _ _ _ wd) rfl) (k42_mkM _ _ _ vl) rfl)); intro v_ wl ho_ hb_ hg_ hn_; obtain ⟨KA, kc, rfl, hkl_, hkC_⟩ := Kd.R_reads ho_; have KL := Aside0.mk hkC_; replace BK2 := Aside0.mk (blk_below BK2.out hb_); replace BK3 := Aside0.mk (blk_below BK3.out hb_); replace HB := Aside0.mk (below_step HB.out hb_); clear ho_ hb_ hg_ hn_ hkl_ hkC_))
    refine (K1.out _ _ ⟨Kd.C_below HC.out HB.out, A1, c1, A2, c2, A3, c3, rfl, k34.K_below HB.out HMK.out, HLE.out.1, Kd.C_below HC1.out HB.out, HLE.out.2.1, Kd.C_below HC2.out HB.out, HLE.out.2.2, Kd.C_below HC3.out HB.out⟩ KA kc KL.out).mono ?_
    rintro e w5 ⟨rfl, hb⟩
    clear hk0 hk1 hk2 hk3 hk4
    replace BK2 := Aside0.mk (blk_below BK2.out hb)
    replace BK3 := Aside0.mk (blk_below BK3.out hb)
    replace HB := Aside0.mk (below_step HB.out hb)
    clear hb
    go_wp2
    go_loopw [5, 6] (fun a b wr => ∃ (i : Nat) (v : Int), a = .int .i64 v ∧ b = .int .i64 (i : Int) ∧ i ≤ kids.length ∧ Aside0 ((if v ≠ 0 then v else kidsS l m (kids.drop i)) = z) ∧ Aside0 (wr.heap[g2]? = some (.cells #[.slice A0 l.length c0, .string m.f0, .slice A1 m.f1.length c1, .slice A2 m.f2.length c2, .slice A3 m.f3.length c3] 67 (0, 0))) ∧ Aside0 (wr.heap[g3]? = some (.cells #[.int .i64 1, .string vl.f0, .int .i64 vl.f1, .string wd.f0, .int .i64 wd.f1, .string eh.f0, .int .i64 eh.f1, .string el.f0, .int .i64 el.f1, .string nm, .slice A10 kids.length c10] 47 (0, 0))) ∧ Aside0 (Below w.heap.size w wr)) (fun _ b _ => kids.length - (intOf b).toNat)
    case atStart => exact ⟨0, b, rfl, rfl, Nat.zero_le _, HZ, BK2, BK3, HB⟩
    case round =>
      clear BK2 BK3 HB HZ
      obtain ⟨i, v, rfl, rfl, hi, HI, BK2, BK3, HB⟩ := hrel
      have hk310 : wr.cell? ⟨g3, 10, none⟩ = some (.slice A10 kids.length c10) := blk_cell BK3.out 10
      by_cases hlt : i < kids.length
      · have hi0 : (0 : Int) ≤ (i : Int) := by omega
        have hi1 : (i : Int) < (kids.length : Int) := by omega
        by_cases hv : v = 0
        · subst hv
          obtain ⟨ad, E10, e10, rfl, hx0, hx1, hx2, hx3, hx4, hx5, hx6, hx7, hx8, hx9, hx10, hle, hCe⟩ := at47 (Kd.C_below HC10.out HB.out) i hlt
          have HKE := Aside0.mk (k47_mk wr kids[i] hle hCe)
          have IHX := Aside0.mk (fun w' cs' ces (hD : LookAt w' A0 c0 l m cs') (hE : k47.K w' kids[i] ces) => ih kids[i] (kid_size (List.getElem_mem hlt)) A0 c0 l m cs' ces w' hD hE (HBK.out kids[i] (List.getElem_mem hlt)))
          have hks := kids_step l m kids i hlt
          obtain ⟨x, hx⟩ : ∃ x, kids[i] = x := ⟨_, rfl⟩
          rw [hx] at hx0 hx1 hx2 hx3 hx4 hx5 hx6 hx7 hx8 hx9 hx10 HKE IHX hks
          obtain ⟨b, hb0⟩ : ∃ b, exprS l m x = b := ⟨_, rfl⟩
          rw [hb0] at IHX hks
          have HKS : Aside0 ((if b ≠ 0 then b else kidsS l m (kids.drop (i + 1))) = z) := ⟨by rw [← hks, ← HI.out]; rfl⟩
          have hbk : (ad.add (i * 11)).block < wr.heap.size := World.block_lt_of_cell? wr _ hx0
          have hk0 : wr.cell? ⟨g2, 0, none⟩ = some (.slice A0 l.length c0) := blk_cell BK2.out 0
          have hk1 : wr.cell? ⟨g2, 1, none⟩ = some (.string m.f0) := blk_cell BK2.out 1
          have hk2 : wr.cell? ⟨g2, 2, none⟩ = some (.slice A1 m.f1.length c1) := blk_cell BK2.out 2
          have hk3 : wr.cell? ⟨g2, 3, none⟩ = some (.slice A2 m.f2.length c2) := blk_cell BK2.out 3
          have hk4 : wr.cell? ⟨g2, 4, none⟩ = some (.slice A3 m.f3.length c3) := blk_cell BK2.out 4
          have hg2 : g2 < wr.heap.size := blk_lt BK2.out
          have hg3 : g3 < wr.heap.size := blk_lt BK3.out
          clear hks hb0 hx hle hCe
          go_wp2
          go_region_held3 (fun w' => w'.cell? ⟨g2, 0, none⟩ = some (.slice A0 l.length c0) ∧ w'.cell? ⟨g2, 1, none⟩ = some (.string m.f0) ∧ w'.cell? ⟨g2, 2, none⟩ = some (.slice A1 m.f1.length c1) ∧ w'.cell? ⟨g2, 3, none⟩ = some (.slice A2 m.f2.length c2) ∧ w'.cell? ⟨g2, 4, none⟩ = some (.slice A3 m.f3.length c3) ∧ w'.cell? ⟨g3, 10, none⟩ = some (.slice (some ad) kids.length c10) ∧ w'.cell? (ad.add (i * 11)) = some (.int .i64 x.f0) ∧ w'.cell? ⟨(ad.add (i * 11)).block, (ad.add (i * 11)).off + 1, none⟩ = some (.string x.f1.f0) ∧ w'.cell? ⟨(ad.add (i * 11)).block, (ad.add (i * 11)).off + 2, none⟩ = some (.int .i64 x.f1.f1) ∧ w'.cell? ⟨(ad.add (i * 11)).block, (ad.add (i * 11)).off + 3, none⟩ = some (.string x.f2.f0) ∧ w'.cell? ⟨(ad.add (i * 11)).block, (ad.add (i * 11)).off + 4, none⟩ = some (.int .i64 x.f2.f1) ∧ w'.cell? ⟨(ad.add (i * 11)).block, (ad.add (i * 11)).off + 5, none⟩ = some (.string x.f3.f0) ∧ w'.cell? ⟨(ad.add (i * 11)).block, (ad.add (i * 11)).off + 6, none⟩ = some (.int .i64 x.f3.f1) ∧ w'.cell? ⟨(ad.add (i * 11)).block, (ad.add (i * 11)).off + 7, none⟩ = some (.string x.f4.f0) ∧ w'.cell? ⟨(ad.add (i * 11)).block, (ad.add (i * 11)).off + 8, none⟩ = some (.int .i64 x.f4.f1) ∧ w'.cell? ⟨(ad.add (i * 11)).block, (ad.add (i * 11)).off + 9, none⟩ = some (.string x.f5) ∧ w'.cell? ⟨(ad.add (i * 11)).block, (ad.add (i * 11)).off + 10, none⟩ = some (.slice E10 x.f6.length e10))
            (go_keep)
            (first | (go_at_call 47; refine (IHX.out _ _ _ ⟨Kd.C_below HC.out (below_drew HB.out), A1, c1, A2, c2, A3, c3, rfl, k34.K_below (below_drew HB.out) HMK.out, HLE.out.1, Kd.C_below HC1.out (below_drew HB.out), HLE.out.2.1, Kd.C_below HC2.out (below_drew HB.out), HLE.out.2.2, Kd.C_below HC3.out (below_drew HB.out)⟩ (k47.K_below (below_drew (Below.refl _ _)) HKE.out)).mono ?_; rintro e w2 ⟨rfl, hb⟩; obtain ⟨hc, hf⟩ := bcell (below_step (below_drew (Below.refl wr.heap.size wr)) hb)))
          replace BK2 : Aside0 (w2.heap[g2]? = some (.cells #[.slice A0 l.length c0, .string m.f0, .slice A1 m.f1.length c1, .slice A2 m.f2.length c2, .slice A3 m.f3.length c3] 67 (0, 0))) := Aside0.mk (blk_below (blk_drew BK2.out) hb)
          replace BK3 : Aside0 (w2.heap[g3]? = some (.cells #[.int .i64 1, .string vl.f0, .int .i64 vl.f1, .string wd.f0, .int .i64 wd.f1, .string eh.f0, .int .i64 eh.f1, .string el.f0, .int .i64 el.f1, .string nm, .slice (some ad) kids.length c10] 47 (0, 0))) := Aside0.mk (blk_below (blk_drew BK3.out) hb)
          replace HB := Aside0.mk (below_step (below_drew HB.out) hb)
          clear hc hf hb hx0 hx1 hx2 hx3 hx4 hx5 hx6 hx7 hx8 hx9 hx10 hbk hg2 hg3 hk0 hk1 hk2 hk3 hk4 hk310
          go_wp2
          go_roundw
          case rel => exact ⟨i + 1, b, rfl, by go_num, by omega, HKS, BK2, BK3, HB⟩
          case measure => simp [intOf]; omega
        · have hv1 : (v == 0) = false := by simpa using hv
          have HE : Aside0 (z = v) := ⟨by rw [← HI.out, if_pos hv]⟩
          go_wp2
          go_ret
          exact ⟨by rw [HE.out]; rfl, HB.out⟩
      · have HE : Aside0 (z = v) := ⟨by rw [← HI.out, List.drop_eq_nil_of_le (by omega)]; simp [kidsS]; intro h9; exact h9.symm⟩
        go_wp2
        go_ret
        exact ⟨by rw [HE.out]; rfl, HB.out⟩
  by_cases o18 : op = 18
  · subst o18
    rw [ownS_18 l m vl wd eh el nm] at hz
    have K1 := Aside0.mk (fun (cs' : List Value) w' (hLK : LookAt w' A0 c0 l m cs') DA dc hd => sdims_any A0 c0 l m cs' DA dc [eh, el] w' hLK hd)
    obtain ⟨b, hb0⟩ : ∃ b, dimsS m.f1 [eh, el] = b := ⟨_, rfl⟩
    rw [hb0] at K1 hz
    have HZ : Aside0 ((if b ≠ 0 then b else kidsS l m (kids.drop 0)) = z) := ⟨hz⟩
    clear hz hb0

    go_enter Try.func47, Try.ntmps47
    go_wp2_with (first | ((with_reducible refine gate_dst (N := 2) rfl ?_); refine box_event ?hg (N := 2) ?hd (cs := #[.slice A0 l.length c0, .string m.f0, .slice A1 m.f1.length c1, .slice A2 m.f2.length c2, .slice A3 m.f3.length c3]) (t := 67) ?hr ?_; (case hd => rfl); (case hg => rfl); (case hr => first | (go_simp; done) | (go_simp; rfl)); intro g2 hg_ w2 hbox_ hb_; have BK2 := Aside0.mk (hbox_); have GBK2 : Aside0 (w.heap.size ≤ g2) := ⟨by rw [hg_]; exact below_size HB.out⟩; replace HB : Aside0 (Below w.heap.size w w2) := ⟨below_step HB.out hb_⟩; clear hg_ hbox_ hb_) | ((with_reducible refine gate_dst (N := 3) rfl ?_); refine box_event ?hg (N := 3) ?hd (cs := #[.int .i64 18, .string vl.f0, .int .i64 vl.f1, .string wd.f0, .int .i64 wd.f1, .string eh.f0, .int .i64 eh.f1, .string el.f0, .int .i64 el.f1, .string nm, .slice A10 kids.length c10]) (t := 47) ?hr ?_; (case hd => rfl); (case hg => rfl); (case hr => first | (go_simp; done) | (go_simp; rfl)); intro g3 hg_ w3 hbox_ hb_; replace BK2 := Aside0.mk (blk_below BK2.out hb_); have BK3 := Aside0.mk (hbox_); have GBK3 : Aside0 (w.heap.size ≤ g3) := ⟨by rw [hg_]; exact below_size HB.out⟩; replace HB : Aside0 (Below w.heap.size w w3) := ⟨below_step HB.out hb_⟩; clear hg_ hbox_ hb_))
    have hk30 : w3.cell? ⟨g3, 0, none⟩ = some (.int .i64 18) := blk_cell BK3.out 0
    have hk310 : w3.cell? ⟨g3, 10, none⟩ = some (.slice A10 kids.length c10) := blk_cell BK3.out 10
    have hg3 : g3 < w3.heap.size := blk_lt BK3.out
    go_region_held3 (fun w' => w'.cell? ⟨g3, 0, none⟩ = some (.int .i64 18) ∧ w'.cell? ⟨g3, 10, none⟩ = some (.slice A10 kids.length c10))
      (go_keep)
      (first | (go_at_call 57; refine (KT.out _).mono ?_; rintro e w4 ⟨rfl, hb⟩; obtain ⟨hc, hf⟩ := bcell (below_step (below_drew (Below.refl w3.heap.size w3)) hb)))
    replace BK2 := Aside0.mk (blk_below (blk_drew BK2.out) hb)
    replace BK3 := Aside0.mk (blk_below (blk_drew BK3.out) hb)
    replace HB := Aside0.mk (below_step (below_drew HB.out) hb)
    clear hc hf hb hk30 hk310 hg3 KT
    have hk0 : w4.cell? ⟨g3, 0, none⟩ = some (.int .i64 18) := blk_cell BK3.out 0
    have hk5 : w4.cell? ⟨g3, 5, none⟩ = some (.string eh.f0) := blk_cell BK3.out 5
    have hk6 : w4.cell? ⟨g3, 6, none⟩ = some (.int .i64 eh.f1) := blk_cell BK3.out 6
    have hk7 : w4.cell? ⟨g3, 7, none⟩ = some (.string el.f0) := blk_cell BK3.out 7
    have hk8 : w4.cell? ⟨g3, 8, none⟩ = some (.int .i64 el.f1) := blk_cell BK3.out 8

    go_wp2_with (first | ((with_reducible refine gate_dst (N := 27) rfl ?_); refine wpList_load_row rfl 67 (.tmp 2) rfl g2 rfl 67 #[.slice A0 l.length c0, .string m.f0, .slice A1 m.f1.length c1, .slice A2 m.f2.length c2, .slice A3 m.f3.length c3] (0, 0) _ ?hg Try.underlying67 rfl ?hq9 ?_; (case hg => exact BK2.out); (case hq9 => kernel_rfl)) | ((with_reducible refine gate_dst (N := 32) rfl ?_); refine Kd.R_lit k42 _ 42 ?hg (N := 32) ?hd (xs := [eh, el]) (inner := [.string eh.f0, .int .i64 eh.f1, .string el.f0, .int .i64 el.f1]) (ok := fun _ => True) (okp := fun _ => True) ?hr ?hp (fun _ hk => hk) trivial (Below.refl _ _) (Nat.le_refl _) (by simp) ?_; (case hd => rfl); (case hg => rfl); (case hr => first | (go_simp; done) | (go_simp; rfl)); (case hp => exact (Reps.snoc (Reps.snoc (Reps.none _ _) (k42_mkM _ _ _ eh) rfl) (k42_mkM _ _ _ el) rfl)); intro v_ wl ho_ hb_ hg_ hn_; obtain ⟨KA, kc, rfl, hkl_, hkC_⟩ := Kd.R_reads ho_; have KL := Aside0.mk hkC_; replace BK2 := Aside0.mk (blk_below BK2.out hb_); replace BK3 := Aside0.mk (blk_below BK3.out hb_); replace HB := Aside0.mk (below_step HB.out hb_); clear ho_ hb_ hg_ hn_ hkl_ hkC_))
    refine (K1.out _ _ ⟨Kd.C_below HC.out HB.out, A1, c1, A2, c2, A3, c3, rfl, k34.K_below HB.out HMK.out, HLE.out.1, Kd.C_below HC1.out HB.out, HLE.out.2.1, Kd.C_below HC2.out HB.out, HLE.out.2.2, Kd.C_below HC3.out HB.out⟩ KA kc KL.out).mono ?_
    rintro e w5 ⟨rfl, hb⟩
    clear hk0 hk5 hk6 hk7 hk8
    replace BK2 := Aside0.mk (blk_below BK2.out hb)
    replace BK3 := Aside0.mk (blk_below BK3.out hb)
    replace HB := Aside0.mk (below_step HB.out hb)
    clear hb
    go_wp2
    go_loopw [5, 6] (fun a b wr => ∃ (i : Nat) (v : Int), a = .int .i64 v ∧ b = .int .i64 (i : Int) ∧ i ≤ kids.length ∧ Aside0 ((if v ≠ 0 then v else kidsS l m (kids.drop i)) = z) ∧ Aside0 (wr.heap[g2]? = some (.cells #[.slice A0 l.length c0, .string m.f0, .slice A1 m.f1.length c1, .slice A2 m.f2.length c2, .slice A3 m.f3.length c3] 67 (0, 0))) ∧ Aside0 (wr.heap[g3]? = some (.cells #[.int .i64 18, .string vl.f0, .int .i64 vl.f1, .string wd.f0, .int .i64 wd.f1, .string eh.f0, .int .i64 eh.f1, .string el.f0, .int .i64 el.f1, .string nm, .slice A10 kids.length c10] 47 (0, 0))) ∧ Aside0 (Below w.heap.size w wr)) (fun _ b _ => kids.length - (intOf b).toNat)
    case atStart => exact ⟨0, b, rfl, rfl, Nat.zero_le _, HZ, BK2, BK3, HB⟩
    case round =>
      clear BK2 BK3 HB HZ
      obtain ⟨i, v, rfl, rfl, hi, HI, BK2, BK3, HB⟩ := hrel
      have hk310 : wr.cell? ⟨g3, 10, none⟩ = some (.slice A10 kids.length c10) := blk_cell BK3.out 10
      by_cases hlt : i < kids.length
      · have hi0 : (0 : Int) ≤ (i : Int) := by omega
        have hi1 : (i : Int) < (kids.length : Int) := by omega
        by_cases hv : v = 0
        · subst hv
          obtain ⟨ad, E10, e10, rfl, hx0, hx1, hx2, hx3, hx4, hx5, hx6, hx7, hx8, hx9, hx10, hle, hCe⟩ := at47 (Kd.C_below HC10.out HB.out) i hlt
          have HKE := Aside0.mk (k47_mk wr kids[i] hle hCe)
          have IHX := Aside0.mk (fun w' cs' ces (hD : LookAt w' A0 c0 l m cs') (hE : k47.K w' kids[i] ces) => ih kids[i] (kid_size (List.getElem_mem hlt)) A0 c0 l m cs' ces w' hD hE (HBK.out kids[i] (List.getElem_mem hlt)))
          have hks := kids_step l m kids i hlt
          obtain ⟨x, hx⟩ : ∃ x, kids[i] = x := ⟨_, rfl⟩
          rw [hx] at hx0 hx1 hx2 hx3 hx4 hx5 hx6 hx7 hx8 hx9 hx10 HKE IHX hks
          obtain ⟨b, hb0⟩ : ∃ b, exprS l m x = b := ⟨_, rfl⟩
          rw [hb0] at IHX hks
          have HKS : Aside0 ((if b ≠ 0 then b else kidsS l m (kids.drop (i + 1))) = z) := ⟨by rw [← hks, ← HI.out]; rfl⟩
          have hbk : (ad.add (i * 11)).block < wr.heap.size := World.block_lt_of_cell? wr _ hx0
          have hk0 : wr.cell? ⟨g2, 0, none⟩ = some (.slice A0 l.length c0) := blk_cell BK2.out 0
          have hk1 : wr.cell? ⟨g2, 1, none⟩ = some (.string m.f0) := blk_cell BK2.out 1
          have hk2 : wr.cell? ⟨g2, 2, none⟩ = some (.slice A1 m.f1.length c1) := blk_cell BK2.out 2
          have hk3 : wr.cell? ⟨g2, 3, none⟩ = some (.slice A2 m.f2.length c2) := blk_cell BK2.out 3
          have hk4 : wr.cell? ⟨g2, 4, none⟩ = some (.slice A3 m.f3.length c3) := blk_cell BK2.out 4
          have hg2 : g2 < wr.heap.size := blk_lt BK2.out
          have hg3 : g3 < wr.heap.size := blk_lt BK3.out
          clear hks hb0 hx hle hCe
          go_wp2
          go_region_held3 (fun w' => w'.cell? ⟨g2, 0, none⟩ = some (.slice A0 l.length c0) ∧ w'.cell? ⟨g2, 1, none⟩ = some (.string m.f0) ∧ w'.cell? ⟨g2, 2, none⟩ = some (.slice A1 m.f1.length c1) ∧ w'.cell? ⟨g2, 3, none⟩ = some (.slice A2 m.f2.length c2) ∧ w'.cell? ⟨g2, 4, none⟩ = some (.slice A3 m.f3.length c3) ∧ w'.cell? ⟨g3, 10, none⟩ = some (.slice (some ad) kids.length c10) ∧ w'.cell? (ad.add (i * 11)) = some (.int .i64 x.f0) ∧ w'.cell? ⟨(ad.add (i * 11)).block, (ad.add (i * 11)).off + 1, none⟩ = some (.string x.f1.f0) ∧ w'.cell? ⟨(ad.add (i * 11)).block, (ad.add (i * 11)).off + 2, none⟩ = some (.int .i64 x.f1.f1) ∧ w'.cell? ⟨(ad.add (i * 11)).block, (ad.add (i * 11)).off + 3, none⟩ = some (.string x.f2.f0) ∧ w'.cell? ⟨(ad.add (i * 11)).block, (ad.add (i * 11)).off + 4, none⟩ = some (.int .i64 x.f2.f1) ∧ w'.cell? ⟨(ad.add (i * 11)).block, (ad.add (i * 11)).off + 5, none⟩ = some (.string x.f3.f0) ∧ w'.cell? ⟨(ad.add (i * 11)).block, (ad.add (i * 11)).off + 6, none⟩ = some (.int .i64 x.f3.f1) ∧ w'.cell? ⟨(ad.add (i * 11)).block, (ad.add (i * 11)).off + 7, none⟩ = some (.string x.f4.f0) ∧ w'.cell? ⟨(ad.add (i * 11)).block, (ad.add (i * 11)).off + 8, none⟩ = some (.int .i64 x.f4.f1) ∧ w'.cell? ⟨(ad.add (i * 11)).block, (ad.add (i * 11)).off + 9, none⟩ = some (.string x.f5) ∧ w'.cell? ⟨(ad.add (i * 11)).block, (ad.add (i * 11)).off + 10, none⟩ = some (.slice E10 x.f6.length e10))
            (go_keep)
            (first | (go_at_call 47; refine (IHX.out _ _ _ ⟨Kd.C_below HC.out (below_drew HB.out), A1, c1, A2, c2, A3, c3, rfl, k34.K_below (below_drew HB.out) HMK.out, HLE.out.1, Kd.C_below HC1.out (below_drew HB.out), HLE.out.2.1, Kd.C_below HC2.out (below_drew HB.out), HLE.out.2.2, Kd.C_below HC3.out (below_drew HB.out)⟩ (k47.K_below (below_drew (Below.refl _ _)) HKE.out)).mono ?_; rintro e w2 ⟨rfl, hb⟩; obtain ⟨hc, hf⟩ := bcell (below_step (below_drew (Below.refl wr.heap.size wr)) hb)))
          replace BK2 : Aside0 (w2.heap[g2]? = some (.cells #[.slice A0 l.length c0, .string m.f0, .slice A1 m.f1.length c1, .slice A2 m.f2.length c2, .slice A3 m.f3.length c3] 67 (0, 0))) := Aside0.mk (blk_below (blk_drew BK2.out) hb)
          replace BK3 : Aside0 (w2.heap[g3]? = some (.cells #[.int .i64 18, .string vl.f0, .int .i64 vl.f1, .string wd.f0, .int .i64 wd.f1, .string eh.f0, .int .i64 eh.f1, .string el.f0, .int .i64 el.f1, .string nm, .slice (some ad) kids.length c10] 47 (0, 0))) := Aside0.mk (blk_below (blk_drew BK3.out) hb)
          replace HB := Aside0.mk (below_step (below_drew HB.out) hb)
          clear hc hf hb hx0 hx1 hx2 hx3 hx4 hx5 hx6 hx7 hx8 hx9 hx10 hbk hg2 hg3 hk0 hk1 hk2 hk3 hk4 hk310
          go_wp2
          go_roundw
          case rel => exact ⟨i + 1, b, rfl, by go_num, by omega, HKS, BK2, BK3, HB⟩
          case measure => simp [intOf]; omega
        · have hv1 : (v == 0) = false := by simpa using hv
          have HE : Aside0 (z = v) := ⟨by rw [← HI.out, if_pos hv]⟩
          go_wp2
          go_ret
          exact ⟨by rw [HE.out]; rfl, HB.out⟩
      · have HE : Aside0 (z = v) := ⟨by rw [← HI.out, List.drop_eq_nil_of_le (by omega)]; simp [kidsS]; intro h9; exact h9.symm⟩
        go_wp2
        go_ret
        exact ⟨by rw [HE.out]; rfl, HB.out⟩
  by_cases o19 : op = 19
  · subst o19
    rw [ownS_19 l m vl wd eh el nm] at hz
    have K1 := Aside0.mk (fun (cs' : List Value) w' (hLK : LookAt w' A0 c0 l m cs') DA dc hd => sis_any A0 c0 l m cs' nm DA dc [6] w' hLK hd)
    rw [is_1] at K1
    obtain ⟨b, hb0⟩ : ∃ b, amongS (kindS m nm).1 6 6 6 = b := ⟨_, rfl⟩
    rw [hb0] at K1 hz
    have HZ : Aside0 ((if b ≠ 0 then b else kidsS l m (kids.drop 0)) = z) := ⟨hz⟩
    clear hz hb0

    go_enter Try.func47, Try.ntmps47
    go_wp2_with (first | ((with_reducible refine gate_dst (N := 2) rfl ?_); refine box_event ?hg (N := 2) ?hd (cs := #[.slice A0 l.length c0, .string m.f0, .slice A1 m.f1.length c1, .slice A2 m.f2.length c2, .slice A3 m.f3.length c3]) (t := 67) ?hr ?_; (case hd => rfl); (case hg => rfl); (case hr => first | (go_simp; done) | (go_simp; rfl)); intro g2 hg_ w2 hbox_ hb_; have BK2 := Aside0.mk (hbox_); have GBK2 : Aside0 (w.heap.size ≤ g2) := ⟨by rw [hg_]; exact below_size HB.out⟩; replace HB : Aside0 (Below w.heap.size w w2) := ⟨below_step HB.out hb_⟩; clear hg_ hbox_ hb_) | ((with_reducible refine gate_dst (N := 3) rfl ?_); refine box_event ?hg (N := 3) ?hd (cs := #[.int .i64 19, .string vl.f0, .int .i64 vl.f1, .string wd.f0, .int .i64 wd.f1, .string eh.f0, .int .i64 eh.f1, .string el.f0, .int .i64 el.f1, .string nm, .slice A10 kids.length c10]) (t := 47) ?hr ?_; (case hd => rfl); (case hg => rfl); (case hr => first | (go_simp; done) | (go_simp; rfl)); intro g3 hg_ w3 hbox_ hb_; replace BK2 := Aside0.mk (blk_below BK2.out hb_); have BK3 := Aside0.mk (hbox_); have GBK3 : Aside0 (w.heap.size ≤ g3) := ⟨by rw [hg_]; exact below_size HB.out⟩; replace HB : Aside0 (Below w.heap.size w w3) := ⟨below_step HB.out hb_⟩; clear hg_ hbox_ hb_))
    have hk30 : w3.cell? ⟨g3, 0, none⟩ = some (.int .i64 19) := blk_cell BK3.out 0
    have hk310 : w3.cell? ⟨g3, 10, none⟩ = some (.slice A10 kids.length c10) := blk_cell BK3.out 10
    have hg3 : g3 < w3.heap.size := blk_lt BK3.out
    go_region_held3 (fun w' => w'.cell? ⟨g3, 0, none⟩ = some (.int .i64 19) ∧ w'.cell? ⟨g3, 10, none⟩ = some (.slice A10 kids.length c10))
      (go_keep)
      (first | (go_at_call 57; refine (KT.out _).mono ?_; rintro e w4 ⟨rfl, hb⟩; obtain ⟨hc, hf⟩ := bcell (below_step (below_drew (Below.refl w3.heap.size w3)) hb)))
    replace BK2 := Aside0.mk (blk_below (blk_drew BK2.out) hb)
    replace BK3 := Aside0.mk (blk_below (blk_drew BK3.out) hb)
    replace HB := Aside0.mk (below_step (below_drew HB.out) hb)
    clear hc hf hb hk30 hk310 hg3 KT
    have hk0 : w4.cell? ⟨g3, 0, none⟩ = some (.int .i64 19) := blk_cell BK3.out 0
    have hk9 : w4.cell? ⟨g3, 9, none⟩ = some (.string nm) := blk_cell BK3.out 9

    go_wp2_with (first | ((with_reducible refine gate_dst (N := 36) rfl ?_); refine wpList_load_row rfl 67 (.tmp 2) rfl g2 rfl 67 #[.slice A0 l.length c0, .string m.f0, .slice A1 m.f1.length c1, .slice A2 m.f2.length c2, .slice A3 m.f3.length c3] (0, 0) _ ?hg Try.underlying67 rfl ?hq9 ?_; (case hg => exact BK2.out); (case hq9 => kernel_rfl)) | ((with_reducible refine gate_dst (N := 39) rfl ?_); refine Kd.R_lit (Kd.int .i64) _ 3 ?hg (N := 39) ?hd (xs := [6]) (inner := [.int .i64 6]) (ok := fun _ => True) (okp := fun _ => True) ?hr ?hp (fun _ hk => hk) trivial (Below.refl _ _) (Nat.le_refl _) (by simp) ?_; (case hd => rfl); (case hg => rfl); (case hr => first | (go_simp; done) | (go_simp; rfl)); (case hp => exact (Reps.snoc (Reps.none _ _) (iM 6 _ _ _) rfl)); intro v_ wl ho_ hb_ hg_ hn_; obtain ⟨KA, kc, rfl, hkl_, hkC_⟩ := Kd.R_reads ho_; have KL := Aside0.mk hkC_; replace BK2 := Aside0.mk (blk_below BK2.out hb_); replace BK3 := Aside0.mk (blk_below BK3.out hb_); replace HB := Aside0.mk (below_step HB.out hb_); clear ho_ hb_ hg_ hn_ hkl_ hkC_))
    refine (K1.out _ _ ⟨Kd.C_below HC.out HB.out, A1, c1, A2, c2, A3, c3, rfl, k34.K_below HB.out HMK.out, HLE.out.1, Kd.C_below HC1.out HB.out, HLE.out.2.1, Kd.C_below HC2.out HB.out, HLE.out.2.2, Kd.C_below HC3.out HB.out⟩ KA kc KL.out).mono ?_
    rintro e w5 ⟨rfl, hb⟩
    clear hk0 hk9
    replace BK2 := Aside0.mk (blk_below BK2.out hb)
    replace BK3 := Aside0.mk (blk_below BK3.out hb)
    replace HB := Aside0.mk (below_step HB.out hb)
    clear hb
    go_wp2
    go_loopw [5, 6] (fun a b wr => ∃ (i : Nat) (v : Int), a = .int .i64 v ∧ b = .int .i64 (i : Int) ∧ i ≤ kids.length ∧ Aside0 ((if v ≠ 0 then v else kidsS l m (kids.drop i)) = z) ∧ Aside0 (wr.heap[g2]? = some (.cells #[.slice A0 l.length c0, .string m.f0, .slice A1 m.f1.length c1, .slice A2 m.f2.length c2, .slice A3 m.f3.length c3] 67 (0, 0))) ∧ Aside0 (wr.heap[g3]? = some (.cells #[.int .i64 19, .string vl.f0, .int .i64 vl.f1, .string wd.f0, .int .i64 wd.f1, .string eh.f0, .int .i64 eh.f1, .string el.f0, .int .i64 el.f1, .string nm, .slice A10 kids.length c10] 47 (0, 0))) ∧ Aside0 (Below w.heap.size w wr)) (fun _ b _ => kids.length - (intOf b).toNat)
    case atStart => exact ⟨0, b, rfl, rfl, Nat.zero_le _, HZ, BK2, BK3, HB⟩
    case round =>
      clear BK2 BK3 HB HZ
      obtain ⟨i, v, rfl, rfl, hi, HI, BK2, BK3, HB⟩ := hrel
      have hk310 : wr.cell? ⟨g3, 10, none⟩ = some (.slice A10 kids.length c10) := blk_cell BK3.out 10
      by_cases hlt : i < kids.length
      · have hi0 : (0 : Int) ≤ (i : Int) := by omega
        have hi1 : (i : Int) < (kids.length : Int) := by omega
        by_cases hv : v = 0
        · subst hv
          obtain ⟨ad, E10, e10, rfl, hx0, hx1, hx2, hx3, hx4, hx5, hx6, hx7, hx8, hx9, hx10, hle, hCe⟩ := at47 (Kd.C_below HC10.out HB.out) i hlt
          have HKE := Aside0.mk (k47_mk wr kids[i] hle hCe)
          have IHX := Aside0.mk (fun w' cs' ces (hD : LookAt w' A0 c0 l m cs') (hE : k47.K w' kids[i] ces) => ih kids[i] (kid_size (List.getElem_mem hlt)) A0 c0 l m cs' ces w' hD hE (HBK.out kids[i] (List.getElem_mem hlt)))
          have hks := kids_step l m kids i hlt
          obtain ⟨x, hx⟩ : ∃ x, kids[i] = x := ⟨_, rfl⟩
          rw [hx] at hx0 hx1 hx2 hx3 hx4 hx5 hx6 hx7 hx8 hx9 hx10 HKE IHX hks
          obtain ⟨b, hb0⟩ : ∃ b, exprS l m x = b := ⟨_, rfl⟩
          rw [hb0] at IHX hks
          have HKS : Aside0 ((if b ≠ 0 then b else kidsS l m (kids.drop (i + 1))) = z) := ⟨by rw [← hks, ← HI.out]; rfl⟩
          have hbk : (ad.add (i * 11)).block < wr.heap.size := World.block_lt_of_cell? wr _ hx0
          have hk0 : wr.cell? ⟨g2, 0, none⟩ = some (.slice A0 l.length c0) := blk_cell BK2.out 0
          have hk1 : wr.cell? ⟨g2, 1, none⟩ = some (.string m.f0) := blk_cell BK2.out 1
          have hk2 : wr.cell? ⟨g2, 2, none⟩ = some (.slice A1 m.f1.length c1) := blk_cell BK2.out 2
          have hk3 : wr.cell? ⟨g2, 3, none⟩ = some (.slice A2 m.f2.length c2) := blk_cell BK2.out 3
          have hk4 : wr.cell? ⟨g2, 4, none⟩ = some (.slice A3 m.f3.length c3) := blk_cell BK2.out 4
          have hg2 : g2 < wr.heap.size := blk_lt BK2.out
          have hg3 : g3 < wr.heap.size := blk_lt BK3.out
          clear hks hb0 hx hle hCe
          go_wp2
          go_region_held3 (fun w' => w'.cell? ⟨g2, 0, none⟩ = some (.slice A0 l.length c0) ∧ w'.cell? ⟨g2, 1, none⟩ = some (.string m.f0) ∧ w'.cell? ⟨g2, 2, none⟩ = some (.slice A1 m.f1.length c1) ∧ w'.cell? ⟨g2, 3, none⟩ = some (.slice A2 m.f2.length c2) ∧ w'.cell? ⟨g2, 4, none⟩ = some (.slice A3 m.f3.length c3) ∧ w'.cell? ⟨g3, 10, none⟩ = some (.slice (some ad) kids.length c10) ∧ w'.cell? (ad.add (i * 11)) = some (.int .i64 x.f0) ∧ w'.cell? ⟨(ad.add (i * 11)).block, (ad.add (i * 11)).off + 1, none⟩ = some (.string x.f1.f0) ∧ w'.cell? ⟨(ad.add (i * 11)).block, (ad.add (i * 11)).off + 2, none⟩ = some (.int .i64 x.f1.f1) ∧ w'.cell? ⟨(ad.add (i * 11)).block, (ad.add (i * 11)).off + 3, none⟩ = some (.string x.f2.f0) ∧ w'.cell? ⟨(ad.add (i * 11)).block, (ad.add (i * 11)).off + 4, none⟩ = some (.int .i64 x.f2.f1) ∧ w'.cell? ⟨(ad.add (i * 11)).block, (ad.add (i * 11)).off + 5, none⟩ = some (.string x.f3.f0) ∧ w'.cell? ⟨(ad.add (i * 11)).block, (ad.add (i * 11)).off + 6, none⟩ = some (.int .i64 x.f3.f1) ∧ w'.cell? ⟨(ad.add (i * 11)).block, (ad.add (i * 11)).off + 7, none⟩ = some (.string x.f4.f0) ∧ w'.cell? ⟨(ad.add (i * 11)).block, (ad.add (i * 11)).off + 8, none⟩ = some (.int .i64 x.f4.f1) ∧ w'.cell? ⟨(ad.add (i * 11)).block, (ad.add (i * 11)).off + 9, none⟩ = some (.string x.f5) ∧ w'.cell? ⟨(ad.add (i * 11)).block, (ad.add (i * 11)).off + 10, none⟩ = some (.slice E10 x.f6.length e10))
            (go_keep)
            (first | (go_at_call 47; refine (IHX.out _ _ _ ⟨Kd.C_below HC.out (below_drew HB.out), A1, c1, A2, c2, A3, c3, rfl, k34.K_below (below_drew HB.out) HMK.out, HLE.out.1, Kd.C_below HC1.out (below_drew HB.out), HLE.out.2.1, Kd.C_below HC2.out (below_drew HB.out), HLE.out.2.2, Kd.C_below HC3.out (below_drew HB.out)⟩ (k47.K_below (below_drew (Below.refl _ _)) HKE.out)).mono ?_; rintro e w2 ⟨rfl, hb⟩; obtain ⟨hc, hf⟩ := bcell (below_step (below_drew (Below.refl wr.heap.size wr)) hb)))
          replace BK2 : Aside0 (w2.heap[g2]? = some (.cells #[.slice A0 l.length c0, .string m.f0, .slice A1 m.f1.length c1, .slice A2 m.f2.length c2, .slice A3 m.f3.length c3] 67 (0, 0))) := Aside0.mk (blk_below (blk_drew BK2.out) hb)
          replace BK3 : Aside0 (w2.heap[g3]? = some (.cells #[.int .i64 19, .string vl.f0, .int .i64 vl.f1, .string wd.f0, .int .i64 wd.f1, .string eh.f0, .int .i64 eh.f1, .string el.f0, .int .i64 el.f1, .string nm, .slice (some ad) kids.length c10] 47 (0, 0))) := Aside0.mk (blk_below (blk_drew BK3.out) hb)
          replace HB := Aside0.mk (below_step (below_drew HB.out) hb)
          clear hc hf hb hx0 hx1 hx2 hx3 hx4 hx5 hx6 hx7 hx8 hx9 hx10 hbk hg2 hg3 hk0 hk1 hk2 hk3 hk4 hk310
          go_wp2
          go_roundw
          case rel => exact ⟨i + 1, b, rfl, by go_num, by omega, HKS, BK2, BK3, HB⟩
          case measure => simp [intOf]; omega
        · have hv1 : (v == 0) = false := by simpa using hv
          have HE : Aside0 (z = v) := ⟨by rw [← HI.out, if_pos hv]⟩
          go_wp2
          go_ret
          exact ⟨by rw [HE.out]; rfl, HB.out⟩
      · have HE : Aside0 (z = v) := ⟨by rw [← HI.out, List.drop_eq_nil_of_le (by omega)]; simp [kidsS]; intro h9; exact h9.symm⟩
        go_wp2
        go_ret
        exact ⟨by rw [HE.out]; rfl, HB.out⟩
  by_cases o2 : op = 2
  · subst o2
    rw [ownS_2 l m vl wd eh el nm] at hz
    have K1 := Aside0.mk (fun (cs' : List Value) w' (hLK : LookAt w' A0 c0 l m cs') => sref_any A0 c0 l m cs' nm w' hLK HS.out)
    obtain ⟨b, hb0⟩ : ∃ b, refS l m nm = b := ⟨_, rfl⟩
    rw [hb0] at K1 hz
    have HZ : Aside0 ((if b ≠ 0 then b else kidsS l m (kids.drop 0)) = z) := ⟨hz⟩
    clear hz hb0

    go_enter Try.func47, Try.ntmps47
    go_wp2_with (first | ((with_reducible refine gate_dst (N := 2) rfl ?_); refine box_event ?hg (N := 2) ?hd (cs := #[.slice A0 l.length c0, .string m.f0, .slice A1 m.f1.length c1, .slice A2 m.f2.length c2, .slice A3 m.f3.length c3]) (t := 67) ?hr ?_; (case hd => rfl); (case hg => rfl); (case hr => first | (go_simp; done) | (go_simp; rfl)); intro g2 hg_ w2 hbox_ hb_; have BK2 := Aside0.mk (hbox_); have GBK2 : Aside0 (w.heap.size ≤ g2) := ⟨by rw [hg_]; exact below_size HB.out⟩; replace HB : Aside0 (Below w.heap.size w w2) := ⟨below_step HB.out hb_⟩; clear hg_ hbox_ hb_) | ((with_reducible refine gate_dst (N := 3) rfl ?_); refine box_event ?hg (N := 3) ?hd (cs := #[.int .i64 2, .string vl.f0, .int .i64 vl.f1, .string wd.f0, .int .i64 wd.f1, .string eh.f0, .int .i64 eh.f1, .string el.f0, .int .i64 el.f1, .string nm, .slice A10 kids.length c10]) (t := 47) ?hr ?_; (case hd => rfl); (case hg => rfl); (case hr => first | (go_simp; done) | (go_simp; rfl)); intro g3 hg_ w3 hbox_ hb_; replace BK2 := Aside0.mk (blk_below BK2.out hb_); have BK3 := Aside0.mk (hbox_); have GBK3 : Aside0 (w.heap.size ≤ g3) := ⟨by rw [hg_]; exact below_size HB.out⟩; replace HB : Aside0 (Below w.heap.size w w3) := ⟨below_step HB.out hb_⟩; clear hg_ hbox_ hb_))
    have hk30 : w3.cell? ⟨g3, 0, none⟩ = some (.int .i64 2) := blk_cell BK3.out 0
    have hk310 : w3.cell? ⟨g3, 10, none⟩ = some (.slice A10 kids.length c10) := blk_cell BK3.out 10
    have hg3 : g3 < w3.heap.size := blk_lt BK3.out
    go_region_held3 (fun w' => w'.cell? ⟨g3, 0, none⟩ = some (.int .i64 2) ∧ w'.cell? ⟨g3, 10, none⟩ = some (.slice A10 kids.length c10))
      (go_keep)
      (first | (go_at_call 57; refine (KT.out _).mono ?_; rintro e w4 ⟨rfl, hb⟩; obtain ⟨hc, hf⟩ := bcell (below_step (below_drew (Below.refl w3.heap.size w3)) hb)))
    replace BK2 := Aside0.mk (blk_below (blk_drew BK2.out) hb)
    replace BK3 := Aside0.mk (blk_below (blk_drew BK3.out) hb)
    replace HB := Aside0.mk (below_step (below_drew HB.out) hb)
    clear hc hf hb hk30 hk310 hg3 KT
    have hk0 : w4.cell? ⟨g3, 0, none⟩ = some (.int .i64 2) := blk_cell BK3.out 0
    have hk9 : w4.cell? ⟨g3, 9, none⟩ = some (.string nm) := blk_cell BK3.out 9

    go_wp2_with (first | ((with_reducible refine gate_dst (N := 43) rfl ?_); refine wpList_load_row rfl 67 (.tmp 2) rfl g2 rfl 67 #[.slice A0 l.length c0, .string m.f0, .slice A1 m.f1.length c1, .slice A2 m.f2.length c2, .slice A3 m.f3.length c3] (0, 0) _ ?hg Try.underlying67 rfl ?hq9 ?_; (case hg => exact BK2.out); (case hq9 => kernel_rfl)))
    refine (K1.out _ _ ⟨Kd.C_below HC.out HB.out, A1, c1, A2, c2, A3, c3, rfl, k34.K_below HB.out HMK.out, HLE.out.1, Kd.C_below HC1.out HB.out, HLE.out.2.1, Kd.C_below HC2.out HB.out, HLE.out.2.2, Kd.C_below HC3.out HB.out⟩).mono ?_
    rintro e w5 ⟨rfl, hb⟩
    clear hk0 hk9
    replace BK2 := Aside0.mk (blk_below BK2.out hb)
    replace BK3 := Aside0.mk (blk_below BK3.out hb)
    replace HB := Aside0.mk (below_step HB.out hb)
    clear hb
    go_wp2
    go_loopw [5, 6] (fun a b wr => ∃ (i : Nat) (v : Int), a = .int .i64 v ∧ b = .int .i64 (i : Int) ∧ i ≤ kids.length ∧ Aside0 ((if v ≠ 0 then v else kidsS l m (kids.drop i)) = z) ∧ Aside0 (wr.heap[g2]? = some (.cells #[.slice A0 l.length c0, .string m.f0, .slice A1 m.f1.length c1, .slice A2 m.f2.length c2, .slice A3 m.f3.length c3] 67 (0, 0))) ∧ Aside0 (wr.heap[g3]? = some (.cells #[.int .i64 2, .string vl.f0, .int .i64 vl.f1, .string wd.f0, .int .i64 wd.f1, .string eh.f0, .int .i64 eh.f1, .string el.f0, .int .i64 el.f1, .string nm, .slice A10 kids.length c10] 47 (0, 0))) ∧ Aside0 (Below w.heap.size w wr)) (fun _ b _ => kids.length - (intOf b).toNat)
    case atStart => exact ⟨0, b, rfl, rfl, Nat.zero_le _, HZ, BK2, BK3, HB⟩
    case round =>
      clear BK2 BK3 HB HZ
      obtain ⟨i, v, rfl, rfl, hi, HI, BK2, BK3, HB⟩ := hrel
      have hk310 : wr.cell? ⟨g3, 10, none⟩ = some (.slice A10 kids.length c10) := blk_cell BK3.out 10
      by_cases hlt : i < kids.length
      · have hi0 : (0 : Int) ≤ (i : Int) := by omega
        have hi1 : (i : Int) < (kids.length : Int) := by omega
        by_cases hv : v = 0
        · subst hv
          obtain ⟨ad, E10, e10, rfl, hx0, hx1, hx2, hx3, hx4, hx5, hx6, hx7, hx8, hx9, hx10, hle, hCe⟩ := at47 (Kd.C_below HC10.out HB.out) i hlt
          have HKE := Aside0.mk (k47_mk wr kids[i] hle hCe)
          have IHX := Aside0.mk (fun w' cs' ces (hD : LookAt w' A0 c0 l m cs') (hE : k47.K w' kids[i] ces) => ih kids[i] (kid_size (List.getElem_mem hlt)) A0 c0 l m cs' ces w' hD hE (HBK.out kids[i] (List.getElem_mem hlt)))
          have hks := kids_step l m kids i hlt
          obtain ⟨x, hx⟩ : ∃ x, kids[i] = x := ⟨_, rfl⟩
          rw [hx] at hx0 hx1 hx2 hx3 hx4 hx5 hx6 hx7 hx8 hx9 hx10 HKE IHX hks
          obtain ⟨b, hb0⟩ : ∃ b, exprS l m x = b := ⟨_, rfl⟩
          rw [hb0] at IHX hks
          have HKS : Aside0 ((if b ≠ 0 then b else kidsS l m (kids.drop (i + 1))) = z) := ⟨by rw [← hks, ← HI.out]; rfl⟩
          have hbk : (ad.add (i * 11)).block < wr.heap.size := World.block_lt_of_cell? wr _ hx0
          have hk0 : wr.cell? ⟨g2, 0, none⟩ = some (.slice A0 l.length c0) := blk_cell BK2.out 0
          have hk1 : wr.cell? ⟨g2, 1, none⟩ = some (.string m.f0) := blk_cell BK2.out 1
          have hk2 : wr.cell? ⟨g2, 2, none⟩ = some (.slice A1 m.f1.length c1) := blk_cell BK2.out 2
          have hk3 : wr.cell? ⟨g2, 3, none⟩ = some (.slice A2 m.f2.length c2) := blk_cell BK2.out 3
          have hk4 : wr.cell? ⟨g2, 4, none⟩ = some (.slice A3 m.f3.length c3) := blk_cell BK2.out 4
          have hg2 : g2 < wr.heap.size := blk_lt BK2.out
          have hg3 : g3 < wr.heap.size := blk_lt BK3.out
          clear hks hb0 hx hle hCe
          go_wp2
          go_region_held3 (fun w' => w'.cell? ⟨g2, 0, none⟩ = some (.slice A0 l.length c0) ∧ w'.cell? ⟨g2, 1, none⟩ = some (.string m.f0) ∧ w'.cell? ⟨g2, 2, none⟩ = some (.slice A1 m.f1.length c1) ∧ w'.cell? ⟨g2, 3, none⟩ = some (.slice A2 m.f2.length c2) ∧ w'.cell? ⟨g2, 4, none⟩ = some (.slice A3 m.f3.length c3) ∧ w'.cell? ⟨g3, 10, none⟩ = some (.slice (some ad) kids.length c10) ∧ w'.cell? (ad.add (i * 11)) = some (.int .i64 x.f0) ∧ w'.cell? ⟨(ad.add (i * 11)).block, (ad.add (i * 11)).off + 1, none⟩ = some (.string x.f1.f0) ∧ w'.cell? ⟨(ad.add (i * 11)).block, (ad.add (i * 11)).off + 2, none⟩ = some (.int .i64 x.f1.f1) ∧ w'.cell? ⟨(ad.add (i * 11)).block, (ad.add (i * 11)).off + 3, none⟩ = some (.string x.f2.f0) ∧ w'.cell? ⟨(ad.add (i * 11)).block, (ad.add (i * 11)).off + 4, none⟩ = some (.int .i64 x.f2.f1) ∧ w'.cell? ⟨(ad.add (i * 11)).block, (ad.add (i * 11)).off + 5, none⟩ = some (.string x.f3.f0) ∧ w'.cell? ⟨(ad.add (i * 11)).block, (ad.add (i * 11)).off + 6, none⟩ = some (.int .i64 x.f3.f1) ∧ w'.cell? ⟨(ad.add (i * 11)).block, (ad.add (i * 11)).off + 7, none⟩ = some (.string x.f4.f0) ∧ w'.cell? ⟨(ad.add (i * 11)).block, (ad.add (i * 11)).off + 8, none⟩ = some (.int .i64 x.f4.f1) ∧ w'.cell? ⟨(ad.add (i * 11)).block, (ad.add (i * 11)).off + 9, none⟩ = some (.string x.f5) ∧ w'.cell? ⟨(ad.add (i * 11)).block, (ad.add (i * 11)).off + 10, none⟩ = some (.slice E10 x.f6.length e10))
            (go_keep)
            (first | (go_at_call 47; refine (IHX.out _ _ _ ⟨Kd.C_below HC.out (below_drew HB.out), A1, c1, A2, c2, A3, c3, rfl, k34.K_below (below_drew HB.out) HMK.out, HLE.out.1, Kd.C_below HC1.out (below_drew HB.out), HLE.out.2.1, Kd.C_below HC2.out (below_drew HB.out), HLE.out.2.2, Kd.C_below HC3.out (below_drew HB.out)⟩ (k47.K_below (below_drew (Below.refl _ _)) HKE.out)).mono ?_; rintro e w2 ⟨rfl, hb⟩; obtain ⟨hc, hf⟩ := bcell (below_step (below_drew (Below.refl wr.heap.size wr)) hb)))
          replace BK2 : Aside0 (w2.heap[g2]? = some (.cells #[.slice A0 l.length c0, .string m.f0, .slice A1 m.f1.length c1, .slice A2 m.f2.length c2, .slice A3 m.f3.length c3] 67 (0, 0))) := Aside0.mk (blk_below (blk_drew BK2.out) hb)
          replace BK3 : Aside0 (w2.heap[g3]? = some (.cells #[.int .i64 2, .string vl.f0, .int .i64 vl.f1, .string wd.f0, .int .i64 wd.f1, .string eh.f0, .int .i64 eh.f1, .string el.f0, .int .i64 el.f1, .string nm, .slice (some ad) kids.length c10] 47 (0, 0))) := Aside0.mk (blk_below (blk_drew BK3.out) hb)
          replace HB := Aside0.mk (below_step (below_drew HB.out) hb)
          clear hc hf hb hx0 hx1 hx2 hx3 hx4 hx5 hx6 hx7 hx8 hx9 hx10 hbk hg2 hg3 hk0 hk1 hk2 hk3 hk4 hk310
          go_wp2
          go_roundw
          case rel => exact ⟨i + 1, b, rfl, by go_num, by omega, HKS, BK2, BK3, HB⟩
          case measure => simp [intOf]; omega
        · have hv1 : (v == 0) = false := by simpa using hv
          have HE : Aside0 (z = v) := ⟨by rw [← HI.out, if_pos hv]⟩
          go_wp2
          go_ret
          exact ⟨by rw [HE.out]; rfl, HB.out⟩
      · have HE : Aside0 (z = v) := ⟨by rw [← HI.out, List.drop_eq_nil_of_le (by omega)]; simp [kidsS]; intro h9; exact h9.symm⟩
        go_wp2
        go_ret
        exact ⟨by rw [HE.out]; rfl, HB.out⟩
  have HZ : Aside0 ((if (0 : Int) ≠ 0 then 0 else kidsS l m (kids.drop 0)) = z) := ⟨by rw [← hz]; unfold ownS; rw [if_neg o1, if_neg o18, if_neg o19, if_neg o2]; rfl⟩
  have e1 : (op == 1) = false := by simpa using o1
  have e18 : (op == 18) = false := by simpa using o18
  have e19 : (op == 19) = false := by simpa using o19
  have e2 : (op == 2) = false := by simpa using o2
  clear hz o1 o18 o19 o2
  go_enter Try.func47, Try.ntmps47
  go_wp2_with (first | ((with_reducible refine gate_dst (N := 2) rfl ?_); refine box_event ?hg (N := 2) ?hd (cs := #[.slice A0 l.length c0, .string m.f0, .slice A1 m.f1.length c1, .slice A2 m.f2.length c2, .slice A3 m.f3.length c3]) (t := 67) ?hr ?_; (case hd => rfl); (case hg => rfl); (case hr => first | (go_simp; done) | (go_simp; rfl)); intro g2 hg_ w2 hbox_ hb_; have BK2 := Aside0.mk (hbox_); have GBK2 : Aside0 (w.heap.size ≤ g2) := ⟨by rw [hg_]; exact below_size HB.out⟩; replace HB : Aside0 (Below w.heap.size w w2) := ⟨below_step HB.out hb_⟩; clear hg_ hbox_ hb_) | ((with_reducible refine gate_dst (N := 3) rfl ?_); refine box_event ?hg (N := 3) ?hd (cs := #[.int .i64 op, .string vl.f0, .int .i64 vl.f1, .string wd.f0, .int .i64 wd.f1, .string eh.f0, .int .i64 eh.f1, .string el.f0, .int .i64 el.f1, .string nm, .slice A10 kids.length c10]) (t := 47) ?hr ?_; (case hd => rfl); (case hg => rfl); (case hr => first | (go_simp; done) | (go_simp; rfl)); intro g3 hg_ w3 hbox_ hb_; replace BK2 := Aside0.mk (blk_below BK2.out hb_); have BK3 := Aside0.mk (hbox_); have GBK3 : Aside0 (w.heap.size ≤ g3) := ⟨by rw [hg_]; exact below_size HB.out⟩; replace HB : Aside0 (Below w.heap.size w w3) := ⟨below_step HB.out hb_⟩; clear hg_ hbox_ hb_))
  have hk30 : w3.cell? ⟨g3, 0, none⟩ = some (.int .i64 op) := blk_cell BK3.out 0
  have hk310 : w3.cell? ⟨g3, 10, none⟩ = some (.slice A10 kids.length c10) := blk_cell BK3.out 10
  have hg3 : g3 < w3.heap.size := blk_lt BK3.out
  go_region_held3 (fun w' => w'.cell? ⟨g3, 0, none⟩ = some (.int .i64 op) ∧ w'.cell? ⟨g3, 10, none⟩ = some (.slice A10 kids.length c10))
    (go_keep)
    (first | (go_at_call 57; refine (KT.out _).mono ?_; rintro e w4 ⟨rfl, hb⟩; obtain ⟨hc, hf⟩ := bcell (below_step (below_drew (Below.refl w3.heap.size w3)) hb)))
  replace BK2 := Aside0.mk (blk_below (blk_drew BK2.out) hb)
  replace BK3 := Aside0.mk (blk_below (blk_drew BK3.out) hb)
  replace HB := Aside0.mk (below_step (below_drew HB.out) hb)
  clear hc hf hb hk30 hk310 hg3 KT
  have hk0 : w4.cell? ⟨g3, 0, none⟩ = some (.int .i64 op) := blk_cell BK3.out 0
  go_wp2
  clear hk0
  go_loopw [5, 6] (fun a b wr => ∃ (i : Nat) (v : Int), a = .int .i64 v ∧ b = .int .i64 (i : Int) ∧ i ≤ kids.length ∧ Aside0 ((if v ≠ 0 then v else kidsS l m (kids.drop i)) = z) ∧ Aside0 (wr.heap[g2]? = some (.cells #[.slice A0 l.length c0, .string m.f0, .slice A1 m.f1.length c1, .slice A2 m.f2.length c2, .slice A3 m.f3.length c3] 67 (0, 0))) ∧ Aside0 (wr.heap[g3]? = some (.cells #[.int .i64 op, .string vl.f0, .int .i64 vl.f1, .string wd.f0, .int .i64 wd.f1, .string eh.f0, .int .i64 eh.f1, .string el.f0, .int .i64 el.f1, .string nm, .slice A10 kids.length c10] 47 (0, 0))) ∧ Aside0 (Below w.heap.size w wr)) (fun _ b _ => kids.length - (intOf b).toNat)
  case atStart => exact ⟨0, 0, rfl, rfl, Nat.zero_le _, HZ, BK2, BK3, HB⟩
  case round =>
    clear BK2 BK3 HB HZ
    obtain ⟨i, v, rfl, rfl, hi, HI, BK2, BK3, HB⟩ := hrel
    have hk310 : wr.cell? ⟨g3, 10, none⟩ = some (.slice A10 kids.length c10) := blk_cell BK3.out 10
    by_cases hlt : i < kids.length
    · have hi0 : (0 : Int) ≤ (i : Int) := by omega
      have hi1 : (i : Int) < (kids.length : Int) := by omega
      by_cases hv : v = 0
      · subst hv
        obtain ⟨ad, E10, e10, rfl, hx0, hx1, hx2, hx3, hx4, hx5, hx6, hx7, hx8, hx9, hx10, hle, hCe⟩ := at47 (Kd.C_below HC10.out HB.out) i hlt
        have HKE := Aside0.mk (k47_mk wr kids[i] hle hCe)
        have IHX := Aside0.mk (fun w' cs' ces (hD : LookAt w' A0 c0 l m cs') (hE : k47.K w' kids[i] ces) => ih kids[i] (kid_size (List.getElem_mem hlt)) A0 c0 l m cs' ces w' hD hE (HBK.out kids[i] (List.getElem_mem hlt)))
        have hks := kids_step l m kids i hlt
        obtain ⟨x, hx⟩ : ∃ x, kids[i] = x := ⟨_, rfl⟩
        rw [hx] at hx0 hx1 hx2 hx3 hx4 hx5 hx6 hx7 hx8 hx9 hx10 HKE IHX hks
        obtain ⟨b, hb0⟩ : ∃ b, exprS l m x = b := ⟨_, rfl⟩
        rw [hb0] at IHX hks
        have HKS : Aside0 ((if b ≠ 0 then b else kidsS l m (kids.drop (i + 1))) = z) := ⟨by rw [← hks, ← HI.out]; rfl⟩
        have hbk : (ad.add (i * 11)).block < wr.heap.size := World.block_lt_of_cell? wr _ hx0
        have hk0 : wr.cell? ⟨g2, 0, none⟩ = some (.slice A0 l.length c0) := blk_cell BK2.out 0
        have hk1 : wr.cell? ⟨g2, 1, none⟩ = some (.string m.f0) := blk_cell BK2.out 1
        have hk2 : wr.cell? ⟨g2, 2, none⟩ = some (.slice A1 m.f1.length c1) := blk_cell BK2.out 2
        have hk3 : wr.cell? ⟨g2, 3, none⟩ = some (.slice A2 m.f2.length c2) := blk_cell BK2.out 3
        have hk4 : wr.cell? ⟨g2, 4, none⟩ = some (.slice A3 m.f3.length c3) := blk_cell BK2.out 4
        have hg2 : g2 < wr.heap.size := blk_lt BK2.out
        have hg3 : g3 < wr.heap.size := blk_lt BK3.out
        clear hks hb0 hx hle hCe
        go_wp2
        go_region_held3 (fun w' => w'.cell? ⟨g2, 0, none⟩ = some (.slice A0 l.length c0) ∧ w'.cell? ⟨g2, 1, none⟩ = some (.string m.f0) ∧ w'.cell? ⟨g2, 2, none⟩ = some (.slice A1 m.f1.length c1) ∧ w'.cell? ⟨g2, 3, none⟩ = some (.slice A2 m.f2.length c2) ∧ w'.cell? ⟨g2, 4, none⟩ = some (.slice A3 m.f3.length c3) ∧ w'.cell? ⟨g3, 10, none⟩ = some (.slice (some ad) kids.length c10) ∧ w'.cell? (ad.add (i * 11)) = some (.int .i64 x.f0) ∧ w'.cell? ⟨(ad.add (i * 11)).block, (ad.add (i * 11)).off + 1, none⟩ = some (.string x.f1.f0) ∧ w'.cell? ⟨(ad.add (i * 11)).block, (ad.add (i * 11)).off + 2, none⟩ = some (.int .i64 x.f1.f1) ∧ w'.cell? ⟨(ad.add (i * 11)).block, (ad.add (i * 11)).off + 3, none⟩ = some (.string x.f2.f0) ∧ w'.cell? ⟨(ad.add (i * 11)).block, (ad.add (i * 11)).off + 4, none⟩ = some (.int .i64 x.f2.f1) ∧ w'.cell? ⟨(ad.add (i * 11)).block, (ad.add (i * 11)).off + 5, none⟩ = some (.string x.f3.f0) ∧ w'.cell? ⟨(ad.add (i * 11)).block, (ad.add (i * 11)).off + 6, none⟩ = some (.int .i64 x.f3.f1) ∧ w'.cell? ⟨(ad.add (i * 11)).block, (ad.add (i * 11)).off + 7, none⟩ = some (.string x.f4.f0) ∧ w'.cell? ⟨(ad.add (i * 11)).block, (ad.add (i * 11)).off + 8, none⟩ = some (.int .i64 x.f4.f1) ∧ w'.cell? ⟨(ad.add (i * 11)).block, (ad.add (i * 11)).off + 9, none⟩ = some (.string x.f5) ∧ w'.cell? ⟨(ad.add (i * 11)).block, (ad.add (i * 11)).off + 10, none⟩ = some (.slice E10 x.f6.length e10))
          (go_keep)
          (first | (go_at_call 47; refine (IHX.out _ _ _ ⟨Kd.C_below HC.out (below_drew HB.out), A1, c1, A2, c2, A3, c3, rfl, k34.K_below (below_drew HB.out) HMK.out, HLE.out.1, Kd.C_below HC1.out (below_drew HB.out), HLE.out.2.1, Kd.C_below HC2.out (below_drew HB.out), HLE.out.2.2, Kd.C_below HC3.out (below_drew HB.out)⟩ (k47.K_below (below_drew (Below.refl _ _)) HKE.out)).mono ?_; rintro e w2 ⟨rfl, hb⟩; obtain ⟨hc, hf⟩ := bcell (below_step (below_drew (Below.refl wr.heap.size wr)) hb)))
        replace BK2 : Aside0 (w2.heap[g2]? = some (.cells #[.slice A0 l.length c0, .string m.f0, .slice A1 m.f1.length c1, .slice A2 m.f2.length c2, .slice A3 m.f3.length c3] 67 (0, 0))) := Aside0.mk (blk_below (blk_drew BK2.out) hb)
        replace BK3 : Aside0 (w2.heap[g3]? = some (.cells #[.int .i64 op, .string vl.f0, .int .i64 vl.f1, .string wd.f0, .int .i64 wd.f1, .string eh.f0, .int .i64 eh.f1, .string el.f0, .int .i64 el.f1, .string nm, .slice (some ad) kids.length c10] 47 (0, 0))) := Aside0.mk (blk_below (blk_drew BK3.out) hb)
        replace HB := Aside0.mk (below_step (below_drew HB.out) hb)
        clear hc hf hb hx0 hx1 hx2 hx3 hx4 hx5 hx6 hx7 hx8 hx9 hx10 hbk hg2 hg3 hk0 hk1 hk2 hk3 hk4 hk310
        go_wp2
        go_roundw
        case rel => exact ⟨i + 1, b, rfl, by go_num, by omega, HKS, BK2, BK3, HB⟩
        case measure => simp [intOf]; omega
      · have hv1 : (v == 0) = false := by simpa using hv
        have HE : Aside0 (z = v) := ⟨by rw [← HI.out, if_pos hv]⟩
        go_wp2
        go_ret
        exact ⟨by rw [HE.out]; rfl, HB.out⟩
    · have HE : Aside0 (z = v) := ⟨by rw [← HI.out, List.drop_eq_nil_of_le (by omega)]; simp [kidsS]; intro h9; exact h9.symm⟩
      go_wp2
      go_ret
      exact ⟨by rw [HE.out]; rfl, HB.out⟩
/-- What is wrong first with an item, behind some names. -/
def sitemS (l : List S34) (n : Int) (m : S34) (L : List ByteArray) (x : S49) : Int :=
  if namedS x.f0 = true ∧ hasStr L x.f1 = true then 50 else if skindS l n m x ≠ 0 then skindS l n m x else kidsS l m (exprsL x)
set_option maxHeartbeats 32000000 in
set_option maxRecDepth 100000 in
theorem sitem_any (A0 : Option Addr) (c0 : Nat) (l : List S34) (m : S34) (cs cx : List Value) (x : S49) (n : Int) (HA : Option Addr) (hcap : Nat) (L : List ByteArray) (w : World) (h : LookAt w A0 c0 l m cs) (hx : k49.K w x cx) (hL : Kd.C Kd.string w HA L.length L) (hsm : ∀ m ∈ l, m.f2.length ≤ 1000) (hB : B49 x) :
    Calls Try.prog 28 #[.agg cs.toArray, .agg cx.toArray, .int .i64 n, .slice HA L.length hcap] w fun e w' => e = .returned (.int .i64 (sitemS l n m L x)) ∧ Below w.heap.size w w' := by
  have hbl : x.f6.length * 160 ≤ 140737488351232 := by have := hB.2.2.2.2.2.2.1.1; exact this
  obtain ⟨hc0, A1, c1, A2, c2, A3, c3, rfl, hKm, hl1, hC1, hl2, hC2, hl3, hC3⟩ := h
  have HC := Aside0.mk hc0
  have HMK := Aside0.mk hKm
  have HC1 := Aside0.mk hC1
  have HC2 := Aside0.mk hC2
  have HC3 := Aside0.mk hC3
  have HB : Aside0 (Below w.heap.size w w) := ⟨Below.refl _ _⟩
  have HLE := Aside0.mk (And.intro hl1 (And.intro hl2 hl3))
  have HXK := Aside0.mk hx
  have HL := Aside0.mk hL
  have KK := Aside0.mk (fun cs' cx' w' (hLK : LookAt w' A0 c0 l m cs') hx' => skindOf_any A0 c0 l m cs' cx' x n w' hLK hx' hsm hbl)
  have KH := Aside0.mk (fun w' (hb : Below w.heap.size w w') => containsStr HA hcap L x.f1 w' (Kd.C_below hL hb))
  have KE := Aside0.mk (fun cs w' hk => sexprs_any x cs w' hk hbl)
  have HEB := Aside0.mk (exprs_B hB)
  have KN := Aside0.mk (fun w' => snamed_any x.f0 w')
  obtain ⟨X7, y7, X8, y8, X19, y19, X30, y30, X41, y41, rfl, _⟩ := k49_open hx
  obtain ⟨r, hr⟩ : ∃ r, sitemS l n m L x = r := ⟨_, rfl⟩
  rw [hr]
  unfold sitemS at hr
  obtain ⟨nb, hnb⟩ : ∃ b, namedS x.f0 = b := ⟨_, rfl⟩
  obtain ⟨ab, hab⟩ : ∃ b, hasStr L x.f1 = b := ⟨_, rfl⟩
  obtain ⟨kb, hkb⟩ : ∃ b, skindS l n m x = b := ⟨_, rfl⟩
  obtain ⟨el, hel⟩ : ∃ el, exprsL x = el := ⟨_, rfl⟩
  obtain ⟨q, hq⟩ : ∃ q, kidsS l m el = q := ⟨_, rfl⟩
  have HEB' := HEB.out
  have KE' := KE.out
  rw [hel] at hr KE' HEB'
  rw [hq] at hr
  rw [hnb] at KN hr
  rw [hab] at KH hr
  simp only [hkb] at KK hr
  replace HEB := Aside0.mk HEB'
  replace KE := Aside0.mk KE'
  have HQ := Aside0.mk hq
  have HR := Aside0.mk hr
  clear hx hr hnb hab hkb hL hsm hB hbl hel hq HEB' KE'
  clear hc0 hKm hl1 hC1 hl2 hC2 hl3 hC3
  go_enter Try.func28, Try.ntmps28
  go_wp2_with (first | ((with_reducible refine gate_dst (N := 4) rfl ?_); refine box_event ?hg (N := 4) ?hd (cs := #[.slice A0 l.length c0, .string m.f0, .slice A1 m.f1.length c1, .slice A2 m.f2.length c2, .slice A3 m.f3.length c3]) (t := 67) ?hr ?_; (case hd => rfl); (case hg => rfl); (case hr => first | (go_simp; done) | (go_simp; rfl)); intro g4 hg_ w4 hbox_ hb_; have BK4 := Aside0.mk (hbox_); have GBK4 : Aside0 (w.heap.size ≤ g4) := ⟨by rw [hg_]; exact below_size HB.out⟩; replace HB : Aside0 (Below w.heap.size w w4) := ⟨below_step HB.out hb_⟩; clear hg_ hbox_ hb_) | ((with_reducible refine gate_dst (N := 5) rfl ?_); refine box_event ?hg (N := 5) ?hd (cs := #[.int .i64 x.f0, .string x.f1, .string x.f2.f0, .int .i64 x.f2.f1, .string x.f3.f0, .int .i64 x.f3.f1, .string x.f4, .slice X7 x.f5.length y7, .slice X8 x.f6.length y8, .int .i64 x.f7.f0, .string x.f7.f1.f0, .int .i64 x.f7.f1.f1, .string x.f7.f2.f0, .int .i64 x.f7.f2.f1, .string x.f7.f3.f0, .int .i64 x.f7.f3.f1, .string x.f7.f4.f0, .int .i64 x.f7.f4.f1, .string x.f7.f5, .slice X19 x.f7.f6.length y19, .int .i64 x.f8.f0, .string x.f8.f1.f0, .int .i64 x.f8.f1.f1, .string x.f8.f2.f0, .int .i64 x.f8.f2.f1, .string x.f8.f3.f0, .int .i64 x.f8.f3.f1, .string x.f8.f4.f0, .int .i64 x.f8.f4.f1, .string x.f8.f5, .slice X30 x.f8.f6.length y30, .int .i64 x.f9.f0, .string x.f9.f1.f0, .int .i64 x.f9.f1.f1, .string x.f9.f2.f0, .int .i64 x.f9.f2.f1, .string x.f9.f3.f0, .int .i64 x.f9.f3.f1, .string x.f9.f4.f0, .int .i64 x.f9.f4.f1, .string x.f9.f5, .slice X41 x.f9.f6.length y41]) (t := 49) ?hr ?_; (case hd => rfl); (case hg => rfl); (case hr => first | (go_simp; done) | (go_simp; rfl)); intro g5 hg_ w5 hbox_ hb_; replace BK4 := Aside0.mk (blk_below BK4.out hb_); have BK5 := Aside0.mk (hbox_); have GBK5 : Aside0 (w.heap.size ≤ g5) := ⟨by rw [hg_]; exact below_size HB.out⟩; replace HB : Aside0 (Below w.heap.size w w5) := ⟨below_step HB.out hb_⟩; clear hg_ hbox_ hb_; have hk0 : w5.cell? ⟨g5, 0, none⟩ = some (.int .i64 x.f0) := blk_cell BK5.out 0; have hk1 : w5.cell? ⟨g5, 1, none⟩ = some (.string x.f1) := blk_cell BK5.out 1))
  refine (KN.out _).mono ?_
  rintro e w' ⟨rfl, rfl⟩
  cases nb
  · have hr := HR.out
    rw [if_neg (by simp)] at hr
    replace HR := Aside0.mk hr
    clear hr
    go_wp2_with (first | ((with_reducible refine gate_dst (N := 21) rfl ?_); refine wpList_load_row rfl 67 (.tmp 4) rfl g4 rfl 67 #[.slice A0 l.length c0, .string m.f0, .slice A1 m.f1.length c1, .slice A2 m.f2.length c2, .slice A3 m.f3.length c3] (0, 0) _ ?hg Try.underlying67 rfl ?hq9 ?_; (case hg => exact BK4.out); (case hq9 => kernel_rfl)) | ((with_reducible refine gate_dst (N := 22) rfl ?_); refine wpList_load_row rfl 49 (.tmp 5) rfl g5 rfl 49 #[.int .i64 x.f0, .string x.f1, .string x.f2.f0, .int .i64 x.f2.f1, .string x.f3.f0, .int .i64 x.f3.f1, .string x.f4, .slice X7 x.f5.length y7, .slice X8 x.f6.length y8, .int .i64 x.f7.f0, .string x.f7.f1.f0, .int .i64 x.f7.f1.f1, .string x.f7.f2.f0, .int .i64 x.f7.f2.f1, .string x.f7.f3.f0, .int .i64 x.f7.f3.f1, .string x.f7.f4.f0, .int .i64 x.f7.f4.f1, .string x.f7.f5, .slice X19 x.f7.f6.length y19, .int .i64 x.f8.f0, .string x.f8.f1.f0, .int .i64 x.f8.f1.f1, .string x.f8.f2.f0, .int .i64 x.f8.f2.f1, .string x.f8.f3.f0, .int .i64 x.f8.f3.f1, .string x.f8.f4.f0, .int .i64 x.f8.f4.f1, .string x.f8.f5, .slice X30 x.f8.f6.length y30, .int .i64 x.f9.f0, .string x.f9.f1.f0, .int .i64 x.f9.f1.f1, .string x.f9.f2.f0, .int .i64 x.f9.f2.f1, .string x.f9.f3.f0, .int .i64 x.f9.f3.f1, .string x.f9.f4.f0, .int .i64 x.f9.f4.f1, .string x.f9.f5, .slice X41 x.f9.f6.length y41] (0, 0) _ ?hg Try.underlying49 rfl ?hq9 ?_; (case hg => exact BK5.out); (case hq9 => kernel_rfl)))
    refine (KK.out _ _ _ ⟨Kd.C_below HC.out HB.out, A1, c1, A2, c2, A3, c3, rfl, k34.K_below HB.out HMK.out, HLE.out.1, Kd.C_below HC1.out HB.out, HLE.out.2.1, Kd.C_below HC2.out HB.out, HLE.out.2.2, Kd.C_below HC3.out HB.out⟩ (k49.K_below HB.out HXK.out)).mono ?_
    rintro e wc ⟨rfl, hb⟩
    replace BK4 := Aside0.mk (blk_below BK4.out hb)
    replace BK5 := Aside0.mk (blk_below BK5.out hb)
    replace HB := Aside0.mk (below_step HB.out hb)
    clear hb

    have HZ : Aside0 ((if kb ≠ 0 then kb else kidsS l m (el.drop 0)) = r) := ⟨by rw [← HR.out, ← HQ.out]; rfl⟩
    go_wp2_with (first | ((with_reducible refine gate_dst (N := 25) rfl ?_); refine wpList_load_row rfl 49 (.tmp 5) rfl g5 rfl 49 #[.int .i64 x.f0, .string x.f1, .string x.f2.f0, .int .i64 x.f2.f1, .string x.f3.f0, .int .i64 x.f3.f1, .string x.f4, .slice X7 x.f5.length y7, .slice X8 x.f6.length y8, .int .i64 x.f7.f0, .string x.f7.f1.f0, .int .i64 x.f7.f1.f1, .string x.f7.f2.f0, .int .i64 x.f7.f2.f1, .string x.f7.f3.f0, .int .i64 x.f7.f3.f1, .string x.f7.f4.f0, .int .i64 x.f7.f4.f1, .string x.f7.f5, .slice X19 x.f7.f6.length y19, .int .i64 x.f8.f0, .string x.f8.f1.f0, .int .i64 x.f8.f1.f1, .string x.f8.f2.f0, .int .i64 x.f8.f2.f1, .string x.f8.f3.f0, .int .i64 x.f8.f3.f1, .string x.f8.f4.f0, .int .i64 x.f8.f4.f1, .string x.f8.f5, .slice X30 x.f8.f6.length y30, .int .i64 x.f9.f0, .string x.f9.f1.f0, .int .i64 x.f9.f1.f1, .string x.f9.f2.f0, .int .i64 x.f9.f2.f1, .string x.f9.f3.f0, .int .i64 x.f9.f3.f1, .string x.f9.f4.f0, .int .i64 x.f9.f4.f1, .string x.f9.f5, .slice X41 x.f9.f6.length y41] (0, 0) _ ?hg Try.underlying49 rfl ?hq9 ?_; (case hg => exact BK5.out); (case hq9 => kernel_rfl)))
    refine (KE.out _ _ (k49.K_below HB.out HXK.out)).mono ?_
    rintro e wf ⟨EA, ec, rfl, hec, heC, hb⟩
    have hem : el.length ≤ 9223372036854775807 := heC.2.1
    have HEC := Aside0.mk heC
    have HDB : Aside0 (Below wf.heap.size wf wf) := ⟨Below.refl _ _⟩
    replace BK4 := Aside0.mk (blk_below BK4.out hb)
    replace BK5 := Aside0.mk (blk_below BK5.out hb)
    replace HB := Aside0.mk (below_step HB.out hb)
    clear hb

    clear heC hec hk0 hk1 BK5
    go_wp2
    go_loopw [9, 28] (fun a b wr => ∃ (j : Nat) (v : Int), a = .int .i64 v ∧ b = .int .i64 (j : Int) ∧ j ≤ el.length ∧ Aside0 ((if v ≠ 0 then v else kidsS l m (el.drop j)) = r) ∧ Aside0 (wr.heap[g4]? = some (.cells #[.slice A0 l.length c0, .string m.f0, .slice A1 m.f1.length c1, .slice A2 m.f2.length c2, .slice A3 m.f3.length c3] 67 (0, 0))) ∧ Aside0 (Below wf.heap.size wf wr)) (fun _ b _ => el.length - (intOf b).toNat)
    case atStart => exact ⟨0, kb, rfl, rfl, Nat.zero_le _, HZ, BK4, HDB⟩
    case round =>
      clear BK4 HDB HZ
      obtain ⟨j, v, rfl, rfl, hj, HJ, BK4, HDB⟩ := hrel
      by_cases hlt : j < el.length
      · have hi0 : (0 : Int) ≤ (j : Int) := by omega
        have hi1 : (j : Int) < (el.length : Int) := by omega
        obtain ⟨ae, cy, rfl, hKy, hcy⟩ := el_get HEC.out j hlt
        have hks := kids_step l m el j hlt
        have hB1 := HEB.out el[j] (List.getElem_mem hlt)
        obtain ⟨y, hy⟩ : ∃ y, el[j] = y := ⟨_, rfl⟩
        rw [hy] at hKy hks hB1
        obtain ⟨E10, e10, rfl, _, _⟩ := k47_open hKy
        have HKY := Aside0.mk hKy
        have HCY := Aside0.mk hcy
        have KX := Aside0.mk (fun cs ces w' hD hE => sexpr_any (SizeOf.sizeOf y + 1) y (by omega) A0 c0 l m cs ces w' hD hE hB1)
        obtain ⟨b, hb0⟩ : ∃ b, exprS l m y = b := ⟨_, rfl⟩
        rw [hb0] at KX hks
        clear hB1 hy hb0 hKy hcy
        by_cases hv : v = 0
        · subst hv
          have HKS : Aside0 ((if b ≠ 0 then b else kidsS l m (el.drop (j + 1))) = r) := ⟨by rw [← hks, ← HJ.out]; rfl⟩
          clear hks
          go_wp2_with (first | ((with_reducible refine gate_dst (N := 31) rfl ?_); refine wpList_load_cells rfl 47 (.tmp 30) rfl _ rfl [.int .i64 y.f0, .string y.f1.f0, .int .i64 y.f1.f1, .string y.f2.f0, .int .i64 y.f2.f1, .string y.f3.f0, .int .i64 y.f3.f1, .string y.f4.f0, .int .i64 y.f4.f1, .string y.f5, .slice E10 y.f6.length e10] ?hc _ Try.underlying47 rfl ?hq9 ?_; (case hc => exact HCY.out _ HDB.out); (case hq9 => kernel_rfl)) | ((with_reducible refine gate_dst (N := 11) rfl ?_); refine box_event ?hg (N := 11) ?hd (cs := #[.int .i64 0, .string ⟨#[]⟩, .int .i64 0, .string ⟨#[]⟩, .int .i64 0, .string ⟨#[]⟩, .int .i64 0, .string ⟨#[]⟩, .int .i64 0, .string ⟨#[]⟩, .slice none 0 0]) (t := 47) ?hr ?_; (case hd => rfl); (case hg => rfl); (case hr => first | (go_simp; done) | (go_simp; rfl)); intro gv hg_ wv0 hbox_ hb_; replace BK4 := Aside0.mk (blk_below BK4.out hb_); have BZgv := Aside0.mk (hbox_); have GBZgv : Aside0 (wf.heap.size ≤ gv) := ⟨by rw [hg_]; exact below_size HDB.out⟩; replace HDB : Aside0 (Below wf.heap.size wf wv0) := ⟨below_step HDB.out hb_⟩; have HVgv : Aside0 (wr.heap.size ≤ gv ∧ Below wr.heap.size wr wv0) := ⟨Nat.le_of_eq hg_.symm, hb_⟩; clear hg_ hbox_ hb_) | ((with_reducible refine gate_ (.store 47 (.tmp 11) (.tmp 31)) rfl ?_); refine wpList_store_box rfl rfl 47 (.tmp 11) (.tmp 31) rfl (g := gv) (e := 47) [.int .i64 y.f0, .string y.f1.f0, .int .i64 y.f1.f1, .string y.f2.f0, .int .i64 y.f2.f1, .string y.f3.f0, .int .i64 y.f3.f1, .string y.f4.f0, .int .i64 y.f4.f1, .string y.f5, .slice E10 y.f6.length e10] rfl rfl BZgv.out rfl ?hq9 ?h1 ?_; (case hq9 => kernel_rfl); (case h1 => simp [Value.oneCell']); intro wv hbx_ hfar_ hsz_ hbel_; replace BK4 := Aside0.mk ((hfar_ _ (blk_ne BK4.out BZgv.out (by decide))).trans BK4.out); have BKv := Aside0.mk (hbx_); replace HDB : Aside0 (Below wf.heap.size wf wv) := ⟨hbel_ _ GBZgv.out wf HDB.out⟩; clear HVgv hbx_ hfar_ hsz_ hbel_ BZgv) | ((with_reducible refine gate_dst (N := 34) rfl ?_); refine wpList_load_row rfl 67 (.tmp 4) rfl g4 rfl 67 #[.slice A0 l.length c0, .string m.f0, .slice A1 m.f1.length c1, .slice A2 m.f2.length c2, .slice A3 m.f3.length c3] (0, 0) _ ?hg Try.underlying67 rfl ?hq9 ?_; (case hg => exact BK4.out); (case hq9 => kernel_rfl)) | ((with_reducible refine gate_dst (N := 35) rfl ?_); refine wpList_load_row rfl 47 (.tmp 11) rfl gv rfl 47 #[.int .i64 y.f0, .string y.f1.f0, .int .i64 y.f1.f1, .string y.f2.f0, .int .i64 y.f2.f1, .string y.f3.f0, .int .i64 y.f3.f1, .string y.f4.f0, .int .i64 y.f4.f1, .string y.f5, .slice E10 y.f6.length e10] (0, 0) _ ?hg Try.underlying47 rfl ?hq9 ?_; (case hg => exact BKv.out); (case hq9 => kernel_rfl)))
          refine (KX.out _ _ _ ⟨Kd.C_below HC.out (below_step HB.out HDB.out), A1, c1, A2, c2, A3, c3, rfl, k34.K_below (below_step HB.out HDB.out) HMK.out, HLE.out.1, Kd.C_below HC1.out (below_step HB.out HDB.out), HLE.out.2.1, Kd.C_below HC2.out (below_step HB.out HDB.out), HLE.out.2.2, Kd.C_below HC3.out (below_step HB.out HDB.out)⟩ (k47.K_below HDB.out HKY.out)).mono ?_
          rintro e we ⟨rfl, hb⟩
          replace BK4 := Aside0.mk (blk_below BK4.out hb)
          replace HDB := Aside0.mk (below_step HDB.out hb)
          clear hb
          go_wp2
          go_roundw
          case rel => exact ⟨j + 1, b, rfl, by go_num, by omega, HKS, BK4, HDB⟩
          case measure => simp [intOf]; omega
        · have hv1 : (v == 0) = false := by simpa using hv
          have HKS : Aside0 ((if v ≠ 0 then v else kidsS l m (el.drop (j + 1))) = r) := ⟨by rw [← HJ.out, if_pos hv, if_pos hv]⟩
          clear hks
          go_wp2_with (first | ((with_reducible refine gate_dst (N := 31) rfl ?_); refine wpList_load_cells rfl 47 (.tmp 30) rfl _ rfl [.int .i64 y.f0, .string y.f1.f0, .int .i64 y.f1.f1, .string y.f2.f0, .int .i64 y.f2.f1, .string y.f3.f0, .int .i64 y.f3.f1, .string y.f4.f0, .int .i64 y.f4.f1, .string y.f5, .slice E10 y.f6.length e10] ?hc _ Try.underlying47 rfl ?hq9 ?_; (case hc => exact HCY.out _ HDB.out); (case hq9 => kernel_rfl)) | ((with_reducible refine gate_dst (N := 11) rfl ?_); refine box_event ?hg (N := 11) ?hd (cs := #[.int .i64 0, .string ⟨#[]⟩, .int .i64 0, .string ⟨#[]⟩, .int .i64 0, .string ⟨#[]⟩, .int .i64 0, .string ⟨#[]⟩, .int .i64 0, .string ⟨#[]⟩, .slice none 0 0]) (t := 47) ?hr ?_; (case hd => rfl); (case hg => rfl); (case hr => first | (go_simp; done) | (go_simp; rfl)); intro gv hg_ wv0 hbox_ hb_; replace BK4 := Aside0.mk (blk_below BK4.out hb_); have BZgv := Aside0.mk (hbox_); have GBZgv : Aside0 (wf.heap.size ≤ gv) := ⟨by rw [hg_]; exact below_size HDB.out⟩; replace HDB : Aside0 (Below wf.heap.size wf wv0) := ⟨below_step HDB.out hb_⟩; have HVgv : Aside0 (wr.heap.size ≤ gv ∧ Below wr.heap.size wr wv0) := ⟨Nat.le_of_eq hg_.symm, hb_⟩; clear hg_ hbox_ hb_) | ((with_reducible refine gate_ (.store 47 (.tmp 11) (.tmp 31)) rfl ?_); refine wpList_store_box rfl rfl 47 (.tmp 11) (.tmp 31) rfl (g := gv) (e := 47) [.int .i64 y.f0, .string y.f1.f0, .int .i64 y.f1.f1, .string y.f2.f0, .int .i64 y.f2.f1, .string y.f3.f0, .int .i64 y.f3.f1, .string y.f4.f0, .int .i64 y.f4.f1, .string y.f5, .slice E10 y.f6.length e10] rfl rfl BZgv.out rfl ?hq9 ?h1 ?_; (case hq9 => kernel_rfl); (case h1 => simp [Value.oneCell']); intro wv hbx_ hfar_ hsz_ hbel_; replace BK4 := Aside0.mk ((hfar_ _ (blk_ne BK4.out BZgv.out (by decide))).trans BK4.out); have BKv := Aside0.mk (hbx_); replace HDB : Aside0 (Below wf.heap.size wf wv) := ⟨hbel_ _ GBZgv.out wf HDB.out⟩; clear HVgv hbx_ hfar_ hsz_ hbel_ BZgv))
          go_roundw
          case rel => exact ⟨j + 1, v, rfl, by go_num, by omega, HKS, BK4, HDB⟩
          case measure => simp [intOf]; omega
      · have HE : Aside0 (r = v) := ⟨by rw [← HJ.out, List.drop_eq_nil_of_le (by omega)]; simp [kidsS]; intro h9; exact h9.symm⟩
        go_wp2
        go_ret
        exact ⟨by rw [HE.out]; rfl, below_step HB.out HDB.out⟩
  · go_wp2_with fail
    refine (KH.out _ HB.out).mono ?_
    rintro e wb ⟨rfl, hb⟩
    replace BK4 := Aside0.mk (blk_below BK4.out hb)
    replace BK5 := Aside0.mk (blk_below BK5.out hb)
    replace HB := Aside0.mk (below_step HB.out hb)
    clear hb
    cases ab
    rotate_left
    · have HE : Aside0 (r = 50) := ⟨HR.out.symm⟩
      go_wp2
      go_ret
      exact ⟨by rw [HE.out]; rfl, HB.out⟩
    have hr := HR.out
    rw [if_neg (by simp)] at hr
    replace HR := Aside0.mk hr
    clear hr
    go_wp2_with (first | ((with_reducible refine gate_dst (N := 21) rfl ?_); refine wpList_load_row rfl 67 (.tmp 4) rfl g4 rfl 67 #[.slice A0 l.length c0, .string m.f0, .slice A1 m.f1.length c1, .slice A2 m.f2.length c2, .slice A3 m.f3.length c3] (0, 0) _ ?hg Try.underlying67 rfl ?hq9 ?_; (case hg => exact BK4.out); (case hq9 => kernel_rfl)) | ((with_reducible refine gate_dst (N := 22) rfl ?_); refine wpList_load_row rfl 49 (.tmp 5) rfl g5 rfl 49 #[.int .i64 x.f0, .string x.f1, .string x.f2.f0, .int .i64 x.f2.f1, .string x.f3.f0, .int .i64 x.f3.f1, .string x.f4, .slice X7 x.f5.length y7, .slice X8 x.f6.length y8, .int .i64 x.f7.f0, .string x.f7.f1.f0, .int .i64 x.f7.f1.f1, .string x.f7.f2.f0, .int .i64 x.f7.f2.f1, .string x.f7.f3.f0, .int .i64 x.f7.f3.f1, .string x.f7.f4.f0, .int .i64 x.f7.f4.f1, .string x.f7.f5, .slice X19 x.f7.f6.length y19, .int .i64 x.f8.f0, .string x.f8.f1.f0, .int .i64 x.f8.f1.f1, .string x.f8.f2.f0, .int .i64 x.f8.f2.f1, .string x.f8.f3.f0, .int .i64 x.f8.f3.f1, .string x.f8.f4.f0, .int .i64 x.f8.f4.f1, .string x.f8.f5, .slice X30 x.f8.f6.length y30, .int .i64 x.f9.f0, .string x.f9.f1.f0, .int .i64 x.f9.f1.f1, .string x.f9.f2.f0, .int .i64 x.f9.f2.f1, .string x.f9.f3.f0, .int .i64 x.f9.f3.f1, .string x.f9.f4.f0, .int .i64 x.f9.f4.f1, .string x.f9.f5, .slice X41 x.f9.f6.length y41] (0, 0) _ ?hg Try.underlying49 rfl ?hq9 ?_; (case hg => exact BK5.out); (case hq9 => kernel_rfl)))
    refine (KK.out _ _ _ ⟨Kd.C_below HC.out HB.out, A1, c1, A2, c2, A3, c3, rfl, k34.K_below HB.out HMK.out, HLE.out.1, Kd.C_below HC1.out HB.out, HLE.out.2.1, Kd.C_below HC2.out HB.out, HLE.out.2.2, Kd.C_below HC3.out HB.out⟩ (k49.K_below HB.out HXK.out)).mono ?_
    rintro e wc ⟨rfl, hb⟩
    replace BK4 := Aside0.mk (blk_below BK4.out hb)
    replace BK5 := Aside0.mk (blk_below BK5.out hb)
    replace HB := Aside0.mk (below_step HB.out hb)
    clear hb

    have HZ : Aside0 ((if kb ≠ 0 then kb else kidsS l m (el.drop 0)) = r) := ⟨by rw [← HR.out, ← HQ.out]; rfl⟩
    go_wp2_with (first | ((with_reducible refine gate_dst (N := 25) rfl ?_); refine wpList_load_row rfl 49 (.tmp 5) rfl g5 rfl 49 #[.int .i64 x.f0, .string x.f1, .string x.f2.f0, .int .i64 x.f2.f1, .string x.f3.f0, .int .i64 x.f3.f1, .string x.f4, .slice X7 x.f5.length y7, .slice X8 x.f6.length y8, .int .i64 x.f7.f0, .string x.f7.f1.f0, .int .i64 x.f7.f1.f1, .string x.f7.f2.f0, .int .i64 x.f7.f2.f1, .string x.f7.f3.f0, .int .i64 x.f7.f3.f1, .string x.f7.f4.f0, .int .i64 x.f7.f4.f1, .string x.f7.f5, .slice X19 x.f7.f6.length y19, .int .i64 x.f8.f0, .string x.f8.f1.f0, .int .i64 x.f8.f1.f1, .string x.f8.f2.f0, .int .i64 x.f8.f2.f1, .string x.f8.f3.f0, .int .i64 x.f8.f3.f1, .string x.f8.f4.f0, .int .i64 x.f8.f4.f1, .string x.f8.f5, .slice X30 x.f8.f6.length y30, .int .i64 x.f9.f0, .string x.f9.f1.f0, .int .i64 x.f9.f1.f1, .string x.f9.f2.f0, .int .i64 x.f9.f2.f1, .string x.f9.f3.f0, .int .i64 x.f9.f3.f1, .string x.f9.f4.f0, .int .i64 x.f9.f4.f1, .string x.f9.f5, .slice X41 x.f9.f6.length y41] (0, 0) _ ?hg Try.underlying49 rfl ?hq9 ?_; (case hg => exact BK5.out); (case hq9 => kernel_rfl)))
    refine (KE.out _ _ (k49.K_below HB.out HXK.out)).mono ?_
    rintro e wf ⟨EA, ec, rfl, hec, heC, hb⟩
    have hem : el.length ≤ 9223372036854775807 := heC.2.1
    have HEC := Aside0.mk heC
    have HDB : Aside0 (Below wf.heap.size wf wf) := ⟨Below.refl _ _⟩
    replace BK4 := Aside0.mk (blk_below BK4.out hb)
    replace BK5 := Aside0.mk (blk_below BK5.out hb)
    replace HB := Aside0.mk (below_step HB.out hb)
    clear hb

    clear heC hec hk0 hk1 BK5
    go_wp2
    go_loopw [9, 28] (fun a b wr => ∃ (j : Nat) (v : Int), a = .int .i64 v ∧ b = .int .i64 (j : Int) ∧ j ≤ el.length ∧ Aside0 ((if v ≠ 0 then v else kidsS l m (el.drop j)) = r) ∧ Aside0 (wr.heap[g4]? = some (.cells #[.slice A0 l.length c0, .string m.f0, .slice A1 m.f1.length c1, .slice A2 m.f2.length c2, .slice A3 m.f3.length c3] 67 (0, 0))) ∧ Aside0 (Below wf.heap.size wf wr)) (fun _ b _ => el.length - (intOf b).toNat)
    case atStart => exact ⟨0, kb, rfl, rfl, Nat.zero_le _, HZ, BK4, HDB⟩
    case round =>
      clear BK4 HDB HZ
      obtain ⟨j, v, rfl, rfl, hj, HJ, BK4, HDB⟩ := hrel
      by_cases hlt : j < el.length
      · have hi0 : (0 : Int) ≤ (j : Int) := by omega
        have hi1 : (j : Int) < (el.length : Int) := by omega
        obtain ⟨ae, cy, rfl, hKy, hcy⟩ := el_get HEC.out j hlt
        have hks := kids_step l m el j hlt
        have hB1 := HEB.out el[j] (List.getElem_mem hlt)
        obtain ⟨y, hy⟩ : ∃ y, el[j] = y := ⟨_, rfl⟩
        rw [hy] at hKy hks hB1
        obtain ⟨E10, e10, rfl, _, _⟩ := k47_open hKy
        have HKY := Aside0.mk hKy
        have HCY := Aside0.mk hcy
        have KX := Aside0.mk (fun cs ces w' hD hE => sexpr_any (SizeOf.sizeOf y + 1) y (by omega) A0 c0 l m cs ces w' hD hE hB1)
        obtain ⟨b, hb0⟩ : ∃ b, exprS l m y = b := ⟨_, rfl⟩
        rw [hb0] at KX hks
        clear hB1 hy hb0 hKy hcy
        by_cases hv : v = 0
        · subst hv
          have HKS : Aside0 ((if b ≠ 0 then b else kidsS l m (el.drop (j + 1))) = r) := ⟨by rw [← hks, ← HJ.out]; rfl⟩
          clear hks
          go_wp2_with (first | ((with_reducible refine gate_dst (N := 31) rfl ?_); refine wpList_load_cells rfl 47 (.tmp 30) rfl _ rfl [.int .i64 y.f0, .string y.f1.f0, .int .i64 y.f1.f1, .string y.f2.f0, .int .i64 y.f2.f1, .string y.f3.f0, .int .i64 y.f3.f1, .string y.f4.f0, .int .i64 y.f4.f1, .string y.f5, .slice E10 y.f6.length e10] ?hc _ Try.underlying47 rfl ?hq9 ?_; (case hc => exact HCY.out _ HDB.out); (case hq9 => kernel_rfl)) | ((with_reducible refine gate_dst (N := 11) rfl ?_); refine box_event ?hg (N := 11) ?hd (cs := #[.int .i64 0, .string ⟨#[]⟩, .int .i64 0, .string ⟨#[]⟩, .int .i64 0, .string ⟨#[]⟩, .int .i64 0, .string ⟨#[]⟩, .int .i64 0, .string ⟨#[]⟩, .slice none 0 0]) (t := 47) ?hr ?_; (case hd => rfl); (case hg => rfl); (case hr => first | (go_simp; done) | (go_simp; rfl)); intro gv hg_ wv0 hbox_ hb_; replace BK4 := Aside0.mk (blk_below BK4.out hb_); have BZgv := Aside0.mk (hbox_); have GBZgv : Aside0 (wf.heap.size ≤ gv) := ⟨by rw [hg_]; exact below_size HDB.out⟩; replace HDB : Aside0 (Below wf.heap.size wf wv0) := ⟨below_step HDB.out hb_⟩; have HVgv : Aside0 (wr.heap.size ≤ gv ∧ Below wr.heap.size wr wv0) := ⟨Nat.le_of_eq hg_.symm, hb_⟩; clear hg_ hbox_ hb_) | ((with_reducible refine gate_ (.store 47 (.tmp 11) (.tmp 31)) rfl ?_); refine wpList_store_box rfl rfl 47 (.tmp 11) (.tmp 31) rfl (g := gv) (e := 47) [.int .i64 y.f0, .string y.f1.f0, .int .i64 y.f1.f1, .string y.f2.f0, .int .i64 y.f2.f1, .string y.f3.f0, .int .i64 y.f3.f1, .string y.f4.f0, .int .i64 y.f4.f1, .string y.f5, .slice E10 y.f6.length e10] rfl rfl BZgv.out rfl ?hq9 ?h1 ?_; (case hq9 => kernel_rfl); (case h1 => simp [Value.oneCell']); intro wv hbx_ hfar_ hsz_ hbel_; replace BK4 := Aside0.mk ((hfar_ _ (blk_ne BK4.out BZgv.out (by decide))).trans BK4.out); have BKv := Aside0.mk (hbx_); replace HDB : Aside0 (Below wf.heap.size wf wv) := ⟨hbel_ _ GBZgv.out wf HDB.out⟩; clear HVgv hbx_ hfar_ hsz_ hbel_ BZgv) | ((with_reducible refine gate_dst (N := 34) rfl ?_); refine wpList_load_row rfl 67 (.tmp 4) rfl g4 rfl 67 #[.slice A0 l.length c0, .string m.f0, .slice A1 m.f1.length c1, .slice A2 m.f2.length c2, .slice A3 m.f3.length c3] (0, 0) _ ?hg Try.underlying67 rfl ?hq9 ?_; (case hg => exact BK4.out); (case hq9 => kernel_rfl)) | ((with_reducible refine gate_dst (N := 35) rfl ?_); refine wpList_load_row rfl 47 (.tmp 11) rfl gv rfl 47 #[.int .i64 y.f0, .string y.f1.f0, .int .i64 y.f1.f1, .string y.f2.f0, .int .i64 y.f2.f1, .string y.f3.f0, .int .i64 y.f3.f1, .string y.f4.f0, .int .i64 y.f4.f1, .string y.f5, .slice E10 y.f6.length e10] (0, 0) _ ?hg Try.underlying47 rfl ?hq9 ?_; (case hg => exact BKv.out); (case hq9 => kernel_rfl)))
          refine (KX.out _ _ _ ⟨Kd.C_below HC.out (below_step HB.out HDB.out), A1, c1, A2, c2, A3, c3, rfl, k34.K_below (below_step HB.out HDB.out) HMK.out, HLE.out.1, Kd.C_below HC1.out (below_step HB.out HDB.out), HLE.out.2.1, Kd.C_below HC2.out (below_step HB.out HDB.out), HLE.out.2.2, Kd.C_below HC3.out (below_step HB.out HDB.out)⟩ (k47.K_below HDB.out HKY.out)).mono ?_
          rintro e we ⟨rfl, hb⟩
          replace BK4 := Aside0.mk (blk_below BK4.out hb)
          replace HDB := Aside0.mk (below_step HDB.out hb)
          clear hb
          go_wp2
          go_roundw
          case rel => exact ⟨j + 1, b, rfl, by go_num, by omega, HKS, BK4, HDB⟩
          case measure => simp [intOf]; omega
        · have hv1 : (v == 0) = false := by simpa using hv
          have HKS : Aside0 ((if v ≠ 0 then v else kidsS l m (el.drop (j + 1))) = r) := ⟨by rw [← HJ.out, if_pos hv, if_pos hv]⟩
          clear hks
          go_wp2_with (first | ((with_reducible refine gate_dst (N := 31) rfl ?_); refine wpList_load_cells rfl 47 (.tmp 30) rfl _ rfl [.int .i64 y.f0, .string y.f1.f0, .int .i64 y.f1.f1, .string y.f2.f0, .int .i64 y.f2.f1, .string y.f3.f0, .int .i64 y.f3.f1, .string y.f4.f0, .int .i64 y.f4.f1, .string y.f5, .slice E10 y.f6.length e10] ?hc _ Try.underlying47 rfl ?hq9 ?_; (case hc => exact HCY.out _ HDB.out); (case hq9 => kernel_rfl)) | ((with_reducible refine gate_dst (N := 11) rfl ?_); refine box_event ?hg (N := 11) ?hd (cs := #[.int .i64 0, .string ⟨#[]⟩, .int .i64 0, .string ⟨#[]⟩, .int .i64 0, .string ⟨#[]⟩, .int .i64 0, .string ⟨#[]⟩, .int .i64 0, .string ⟨#[]⟩, .slice none 0 0]) (t := 47) ?hr ?_; (case hd => rfl); (case hg => rfl); (case hr => first | (go_simp; done) | (go_simp; rfl)); intro gv hg_ wv0 hbox_ hb_; replace BK4 := Aside0.mk (blk_below BK4.out hb_); have BZgv := Aside0.mk (hbox_); have GBZgv : Aside0 (wf.heap.size ≤ gv) := ⟨by rw [hg_]; exact below_size HDB.out⟩; replace HDB : Aside0 (Below wf.heap.size wf wv0) := ⟨below_step HDB.out hb_⟩; have HVgv : Aside0 (wr.heap.size ≤ gv ∧ Below wr.heap.size wr wv0) := ⟨Nat.le_of_eq hg_.symm, hb_⟩; clear hg_ hbox_ hb_) | ((with_reducible refine gate_ (.store 47 (.tmp 11) (.tmp 31)) rfl ?_); refine wpList_store_box rfl rfl 47 (.tmp 11) (.tmp 31) rfl (g := gv) (e := 47) [.int .i64 y.f0, .string y.f1.f0, .int .i64 y.f1.f1, .string y.f2.f0, .int .i64 y.f2.f1, .string y.f3.f0, .int .i64 y.f3.f1, .string y.f4.f0, .int .i64 y.f4.f1, .string y.f5, .slice E10 y.f6.length e10] rfl rfl BZgv.out rfl ?hq9 ?h1 ?_; (case hq9 => kernel_rfl); (case h1 => simp [Value.oneCell']); intro wv hbx_ hfar_ hsz_ hbel_; replace BK4 := Aside0.mk ((hfar_ _ (blk_ne BK4.out BZgv.out (by decide))).trans BK4.out); have BKv := Aside0.mk (hbx_); replace HDB : Aside0 (Below wf.heap.size wf wv) := ⟨hbel_ _ GBZgv.out wf HDB.out⟩; clear HVgv hbx_ hfar_ hsz_ hbel_ BZgv))
          go_roundw
          case rel => exact ⟨j + 1, v, rfl, by go_num, by omega, HKS, BK4, HDB⟩
          case measure => simp [intOf]; omega
      · have HE : Aside0 (r = v) := ⟨by rw [← HJ.out, List.drop_eq_nil_of_le (by omega)]; simp [kidsS]; intro h9; exact h9.symm⟩
        go_wp2
        go_ret
        exact ⟨by rw [HE.out]; rfl, below_step HB.out HDB.out⟩
end Go.Proofs.Ytnfhlhjbmcofoaa.S
