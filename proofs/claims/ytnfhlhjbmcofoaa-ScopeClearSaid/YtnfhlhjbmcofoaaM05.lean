/- Scope: walks and plain laws of this seat's functions, merged out of smaller texts of this session (ScI, ScJ). -/
import Derived.Test.YtnfhlhjbmcofoaaM04
namespace Go.Proofs.Ytnfhlhjbmcofoaa.S
open Go.RowKit Go.Proofs.YtnfhlhjbmcofoaaW.PrintWords Go.Proofs.YtnfhlhjbmcofoaaW.PrintLast
set_option linter.unusedVariables false
set_option linter.unusedSimpArgs false
theorem el_get {α : Type} {d : Kd α} {w : World} {A : Option Addr} {l : List α} (h : d.C w A l.length l) (i : Nat) (hi : i < l.length) :
    ∃ ad c, A = some ad ∧ d.K w l[i] c ∧ ∀ w', Below w.heap.size w w' → ∀ (j : Nat) v, c[j]? = some v → w'.cell? ((ad.add (i * d.sz)).add j) = some v := by
  obtain ⟨ad, e, hc⟩ := h.2.2 (by omega)
  obtain ⟨c, hs, hK, hcc⟩ := hc i l[i] (List.getElem?_eq_getElem hi)
  exact ⟨ad, c, e, hK, fun w' hb j v hj => by rw [Addr.add_add]; exact pw_cell_below hb (hcc j v hj)⟩
def gFree (ps : List ByteArray) (x : S42) (i : Nat) : Option Unit := if freeS ps x = true then some () else none
theorem any_free (ps : List ByteArray) : ∀ (l : List S42) (i : Nat), l.any (freeS ps) = (fst (gFree ps) l i).isSome
  | [], _ => rfl
  | x :: r, i => by
    rw [List.any_cons, fst]
    unfold gFree
    cases h : freeS ps x
    · simp only [Bool.false_or]; exact any_free ps r (i + 1)
    · simp
theorem exprs_B {x : S49} (h : B49 x) : ∀ e ∈ exprsL x, B47 e := by
  obtain ⟨_, _, _, _, _, _, h6, h7, h8, h9⟩ := h
  intro e he
  unfold exprsL at he
  split at he
  · cases he
  · split at he
    · simp at he; rcases he with rfl | rfl | rfl <;> assumption
    · split at he
      · obtain ⟨b, hb, rfl⟩ := List.mem_map.1 he
        exact (h6.2 b hb).2
      · simp at he; subst he; assumption
theorem exprs_any (x : S49) (cs : List Value) (w : World) (h : k49.K w x cs) (hlen : x.f6.length * 160 ≤ 140737488351232) : Calls Try.prog 18 #[.agg cs.toArray] w (RetC k47 (exprsL x) w) := by
  unfold exprsL
  by_cases h2 : x.f0 = 2
  · rw [if_pos (.inl h2)]; exact exprs_2 x cs w h h2
  by_cases h5 : x.f0 = 5
  · rw [if_pos (.inr h5)]; exact exprs_5 x cs w h h5
  rw [if_neg (by omega)]
  by_cases h6 : x.f0 = 6
  · rw [if_pos h6]; exact exprs_6 x cs w h h6
  rw [if_neg h6]
  by_cases h7 : x.f0 = 7
  · rw [if_pos h7]; exact exprs_7 x cs w h h7 hlen
  rw [if_neg h7]
  exact exprs_0 x cs w h ⟨h2, h5, h6, h7⟩
/-- What is wrong first with an item, behind some others. -/
def itemS (l : List S34) (n : Int) (m : S34) (its : List S49) (x : S49) : Int :=
  if namedS x.f0 = true ∧ nameS m its x.f1 = true then 50 else if kindOfS l n m x ≠ 0 then kindOfS l n m x else
  if (fst (gFree m.f1) (dimsL x) 0).isSome = true then 40 else kidsS l m (exprsL x)
set_option maxHeartbeats 32000000 in
set_option maxRecDepth 100000 in
theorem item_any (A0 : Option Addr) (c0 : Nat) (l : List S34) (n i : Nat) (hnl : n < l.length) (hil : i < l[n].f3.length) (w : World) (h0 : Kd.C k34 w A0 l.length l) (hB : B49 l[n].f3[i]) :
    Calls Try.prog 31 #[.agg #[.slice A0 l.length c0], .int .i64 (n : Int), .int .i64 (i : Int)] w fun e w' => e = .returned (.int .i64 (itemS l n l[n] (l[n].f3.take i) l[n].f3[i])) ∧ Below w.heap.size w w' := by
  have HC := Aside0.mk h0
  obtain ⟨ad2, cm, rfl, hKm, hcm⟩ := el_get h0 n hnl
  obtain ⟨m, hm⟩ : ∃ m, l[n] = m := ⟨_, rfl⟩
  have KK := Aside0.mk (fun x cs w' hD hx => kindOf_any (some ad2) c0 l n hnl x cs w' hD hx)
  simp only [hm] at KK hKm hil hB ⊢
  obtain ⟨M1, d1, M2, d2, M3, d3, rfl, hl1, hC1, hl2, hC2, hl3, hC3⟩ := k34_open hKm
  obtain ⟨ad, cx, rfl, hKx, hcx⟩ := el_get hC3 i hil
  obtain ⟨x, hx⟩ : ∃ x, m.f3[i] = x := ⟨_, rfl⟩
  have KAH := Aside0.mk (fun cs w' hk => ahead_any m cs i w' hk hil)
  obtain ⟨its, hits⟩ : ∃ its, m.f3.take i = its := ⟨_, rfl⟩
  simp only [hx, hits] at KAH hKx hB ⊢
  have HMK := Aside0.mk hKm
  have HXK := Aside0.mk hKx
  obtain ⟨X7, y7, X8, y8, X19, y19, X30, y30, X41, y41, rfl, _⟩ := k49_open hKx
  have HMC := Aside0.mk hcm
  have HXC := Aside0.mk hcx
  have KE := Aside0.mk (fun cs w' hk => exprs_any x cs w' hk (by have := hB.2.2.2.2.2.2.1.1; exact this))
  have HEB := Aside0.mk (exprs_B hB)
  have hnl2 : (n : Int) < (l.length : Int) := by omega
  have hnn : (0 : Int) ≤ (n : Int) := by omega
  have hil2 : (i : Int) < (m.f3.length : Int) := by omega
  have hii : (0 : Int) ≤ (i : Int) := by omega
  have HB : Aside0 (Below w.heap.size w w) := ⟨Below.refl _ _⟩
  have hu49 := Try.underlying49
  obtain ⟨r, hr⟩ : ∃ r, itemS l n m its x = r := ⟨_, rfl⟩
  rw [hr]
  unfold itemS at hr
  obtain ⟨nb, hnb⟩ : ∃ b, namedS x.f0 = b := ⟨_, rfl⟩
  obtain ⟨ab, hab⟩ : ∃ b, nameS m its x.f1 = b := ⟨_, rfl⟩
  obtain ⟨kb, hkb⟩ : ∃ b, kindOfS l n m x = b := ⟨_, rfl⟩
  have KN := Aside0.mk (fun w' => named_any x.f0 w')
  have KKx := Aside0.mk (fun cs w' hD hx => KK.out x cs w' hD hx)
  rw [hnb] at KN hr
  rw [hab] at KAH hr
  simp only [hkb] at KKx hr
  have HR := Aside0.mk hr
  clear h0 hKm hl1 hC1 hl2 hC2 hl3 hC3 hKx hcm hcx hB hm hx hits hr hnb hab hkb KK
  go_enter Try.func31, Try.ntmps31
  go_wp2_with (first | ((with_reducible refine gate_dst (N := 3) rfl ?_); refine box_event ?hg (N := 3) ?hd (cs := #[.slice (some ad2) l.length c0]) (t := 24) ?hr ?_; (case hd => rfl); (case hg => rfl); (case hr => first | (go_simp; done) | (go_simp; rfl)); intro g3 hg_ w3 hbox_ hb_; have BK3 := Aside0.mk (hbox_); have GBK3 : Aside0 (w.heap.size ≤ g3) := ⟨by rw [hg_]; exact below_size HB.out⟩; replace HB : Aside0 (Below w.heap.size w w3) := ⟨below_step HB.out hb_⟩; clear hg_ hbox_ hb_; have hk3 : w3.cell? ⟨g3, 0, none⟩ = some (.slice (some ad2) l.length c0) := blk_cell BK3.out 0) | ((with_reducible refine gate_dst (N := 22) rfl ?_); refine wpList_load_cells rfl 34 (.tmp 21) rfl _ rfl [.string m.f0, .slice M1 m.f1.length d1, .slice M2 m.f2.length d2, .slice (some ad) m.f3.length d3] ?hc _ Try.underlying34 rfl ?hi ?_; (case hc => exact HMC.out _ HB.out); (case hi => kernel_rfl)) | ((with_reducible refine gate_dst (N := 7) rfl ?_); refine box_event ?hg (N := 7) ?hd (cs := #[.string ⟨#[]⟩, .slice none 0 0, .slice none 0 0, .slice none 0 0]) (t := 34) ?hr ?_; (case hd => rfl); (case hg => rfl); (case hr => first | (go_simp; done) | (go_simp; rfl)); intro g7 hg_ w7 hbox_ hb_; replace BK3 := Aside0.mk (blk_below BK3.out hb_); have BZ7 := Aside0.mk (hbox_); have GBZ7 : Aside0 (w.heap.size ≤ g7) := ⟨by rw [hg_]; exact below_size HB.out⟩; replace HB : Aside0 (Below w.heap.size w w7) := ⟨below_step HB.out hb_⟩; clear hg_ hbox_ hb_) | ((with_reducible refine gate_ (.store 34 (.tmp 7) (.tmp 22)) rfl ?_); refine wpList_store_box rfl rfl 34 (.tmp 7) (.tmp 22) rfl (g := g7) (e := 34) [.string m.f0, .slice M1 m.f1.length d1, .slice M2 m.f2.length d2, .slice (some ad) m.f3.length d3] rfl rfl BZ7.out rfl ?hi ?h1 ?_; (case hi => kernel_rfl); (case h1 => simp [Value.oneCell']); intro w8 hbx_ hfar_ hsz_ hbel_; replace BK3 := Aside0.mk ((hfar_ _ (blk_ne BK3.out BZ7.out (by decide))).trans BK3.out); have BK7 := Aside0.mk (hbx_); replace HB : Aside0 (Below w.heap.size w w8) := ⟨hbel_ _ GBZ7.out w HB.out⟩; clear hbx_ hfar_ hsz_ hbel_ BZ7; have hk73 : w8.cell? ⟨g7, 3, none⟩ = some (.slice (some ad) m.f3.length d3) := blk_cell BK7.out 3) | ((with_reducible refine gate_dst (N := 27) rfl ?_); refine wpList_load_cells rfl 49 (.tmp 26) rfl _ rfl [.int .i64 x.f0, .string x.f1, .string x.f2.f0, .int .i64 x.f2.f1, .string x.f3.f0, .int .i64 x.f3.f1, .string x.f4, .slice X7 x.f5.length y7, .slice X8 x.f6.length y8, .int .i64 x.f7.f0, .string x.f7.f1.f0, .int .i64 x.f7.f1.f1, .string x.f7.f2.f0, .int .i64 x.f7.f2.f1, .string x.f7.f3.f0, .int .i64 x.f7.f3.f1, .string x.f7.f4.f0, .int .i64 x.f7.f4.f1, .string x.f7.f5, .slice X19 x.f7.f6.length y19, .int .i64 x.f8.f0, .string x.f8.f1.f0, .int .i64 x.f8.f1.f1, .string x.f8.f2.f0, .int .i64 x.f8.f2.f1, .string x.f8.f3.f0, .int .i64 x.f8.f3.f1, .string x.f8.f4.f0, .int .i64 x.f8.f4.f1, .string x.f8.f5, .slice X30 x.f8.f6.length y30, .int .i64 x.f9.f0, .string x.f9.f1.f0, .int .i64 x.f9.f1.f1, .string x.f9.f2.f0, .int .i64 x.f9.f2.f1, .string x.f9.f3.f0, .int .i64 x.f9.f3.f1, .string x.f9.f4.f0, .int .i64 x.f9.f4.f1, .string x.f9.f5, .slice X41 x.f9.f6.length y41] ?hc _ Try.underlying49 rfl ?hi ?_; (case hc => exact HXC.out _ HB.out); (case hi => kernel_rfl)) | ((with_reducible refine gate_dst (N := 8) rfl ?_); refine box_event ?hg (N := 8) ?hd (cs := #[.int .i64 0, .string ⟨#[]⟩, .string ⟨#[]⟩, .int .i64 0, .string ⟨#[]⟩, .int .i64 0, .string ⟨#[]⟩, .slice none 0 0, .slice none 0 0, .int .i64 0, .string ⟨#[]⟩, .int .i64 0, .string ⟨#[]⟩, .int .i64 0, .string ⟨#[]⟩, .int .i64 0, .string ⟨#[]⟩, .int .i64 0, .string ⟨#[]⟩, .slice none 0 0, .int .i64 0, .string ⟨#[]⟩, .int .i64 0, .string ⟨#[]⟩, .int .i64 0, .string ⟨#[]⟩, .int .i64 0, .string ⟨#[]⟩, .int .i64 0, .string ⟨#[]⟩, .slice none 0 0, .int .i64 0, .string ⟨#[]⟩, .int .i64 0, .string ⟨#[]⟩, .int .i64 0, .string ⟨#[]⟩, .int .i64 0, .string ⟨#[]⟩, .int .i64 0, .string ⟨#[]⟩, .slice none 0 0]) (t := 49) ?hr ?_; (case hd => rfl); (case hg => rfl); (case hr => first | (go_simp; done) | (go_simp; rfl)); intro g8 hg_ w9 hbox_ hb_; replace BK3 := Aside0.mk (blk_below BK3.out hb_); replace BK7 := Aside0.mk (blk_below BK7.out hb_); have BZ8 := Aside0.mk (hbox_); have GBZ8 : Aside0 (w.heap.size ≤ g8) := ⟨by rw [hg_]; exact below_size HB.out⟩; replace HB : Aside0 (Below w.heap.size w w9) := ⟨below_step HB.out hb_⟩; clear hg_ hbox_ hb_) | ((with_reducible refine gate_ (.store 49 (.tmp 8) (.tmp 27)) rfl ?_); refine wpList_store_box rfl rfl 49 (.tmp 8) (.tmp 27) rfl (g := g8) (e := 49) [.int .i64 x.f0, .string x.f1, .string x.f2.f0, .int .i64 x.f2.f1, .string x.f3.f0, .int .i64 x.f3.f1, .string x.f4, .slice X7 x.f5.length y7, .slice X8 x.f6.length y8, .int .i64 x.f7.f0, .string x.f7.f1.f0, .int .i64 x.f7.f1.f1, .string x.f7.f2.f0, .int .i64 x.f7.f2.f1, .string x.f7.f3.f0, .int .i64 x.f7.f3.f1, .string x.f7.f4.f0, .int .i64 x.f7.f4.f1, .string x.f7.f5, .slice X19 x.f7.f6.length y19, .int .i64 x.f8.f0, .string x.f8.f1.f0, .int .i64 x.f8.f1.f1, .string x.f8.f2.f0, .int .i64 x.f8.f2.f1, .string x.f8.f3.f0, .int .i64 x.f8.f3.f1, .string x.f8.f4.f0, .int .i64 x.f8.f4.f1, .string x.f8.f5, .slice X30 x.f8.f6.length y30, .int .i64 x.f9.f0, .string x.f9.f1.f0, .int .i64 x.f9.f1.f1, .string x.f9.f2.f0, .int .i64 x.f9.f2.f1, .string x.f9.f3.f0, .int .i64 x.f9.f3.f1, .string x.f9.f4.f0, .int .i64 x.f9.f4.f1, .string x.f9.f5, .slice X41 x.f9.f6.length y41] rfl rfl BZ8.out rfl ?hi ?h1 ?_; (case hi => kernel_rfl); (case h1 => simp [Value.oneCell']); intro wa hbx_ hfar_ hsz_ hbel_; replace BK3 := Aside0.mk ((hfar_ _ (blk_ne BK3.out BZ8.out (by decide))).trans BK3.out); replace BK7 := Aside0.mk ((hfar_ _ (blk_ne BK7.out BZ8.out (by decide))).trans BK7.out); have BK8 := Aside0.mk (hbx_); replace HB : Aside0 (Below w.heap.size w wa) := ⟨hbel_ _ GBZ8.out w HB.out⟩; clear hbx_ hfar_ hsz_ hbel_ BZ8; have hk80 : wa.cell? ⟨g8, 0, none⟩ = some (.int .i64 x.f0) := blk_cell BK8.out 0))
  refine (KN.out _).mono ?_
  rintro e w' ⟨rfl, rfl⟩
  clear hk3 hk73 hk80
  go_wp2_with (first | ((with_reducible refine gate_dst (N := 31) rfl ?_); refine wpList_load_row rfl 34 (.tmp 7) rfl g7 rfl 34 #[.string m.f0, .slice M1 m.f1.length d1, .slice M2 m.f2.length d2, .slice (some ad) m.f3.length d3] (0, 0) _ ?hg Try.underlying34 rfl ?hi ?_; (case hg => exact BK7.out); (case hi => kernel_rfl)))
  refine (KAH.out _ _ (k34.K_below HB.out HMK.out)).mono ?_
  rintro e wb ⟨rfl, hb⟩
  replace BK3 := Aside0.mk (blk_below BK3.out hb)
  replace BK7 := Aside0.mk (blk_below BK7.out hb)
  replace BK8 := Aside0.mk (blk_below BK8.out hb)
  replace HB := Aside0.mk (below_step HB.out hb)
  clear hb
  by_cases hna : nb = true ∧ ab = true
  · obtain ⟨rfl, rfl⟩ := hna
    have HE : Aside0 (r = 50) := ⟨HR.out.symm⟩
    go_wp2
    go_ret
    exact ⟨by rw [HE.out]; rfl, HB.out⟩
  have hr := HR.out
  rw [if_neg hna] at hr
  replace HR := Aside0.mk hr
  clear hr
  have hab : nb = true → ab = false := fun h => by cases ab with
    | true => exact absurd ⟨h, rfl⟩ hna
    | false => rfl
  cases nb
  rotate_left
  · obtain rfl := hab rfl
    clear hna hab
    go_wp2_with (first | ((with_reducible refine gate_dst (N := 38) rfl ?_); refine wpList_load_row rfl 24 (.tmp 3) rfl g3 rfl 24 #[.slice (some ad2) l.length c0] (0, 0) _ ?hg Try.underlying24 rfl ?hi ?_; (case hg => exact BK3.out); (case hi => kernel_rfl)) | ((with_reducible refine gate_dst (N := 40) rfl ?_); refine wpList_load_row rfl 49 (.tmp 8) rfl g8 rfl 49 #[.int .i64 x.f0, .string x.f1, .string x.f2.f0, .int .i64 x.f2.f1, .string x.f3.f0, .int .i64 x.f3.f1, .string x.f4, .slice X7 x.f5.length y7, .slice X8 x.f6.length y8, .int .i64 x.f7.f0, .string x.f7.f1.f0, .int .i64 x.f7.f1.f1, .string x.f7.f2.f0, .int .i64 x.f7.f2.f1, .string x.f7.f3.f0, .int .i64 x.f7.f3.f1, .string x.f7.f4.f0, .int .i64 x.f7.f4.f1, .string x.f7.f5, .slice X19 x.f7.f6.length y19, .int .i64 x.f8.f0, .string x.f8.f1.f0, .int .i64 x.f8.f1.f1, .string x.f8.f2.f0, .int .i64 x.f8.f2.f1, .string x.f8.f3.f0, .int .i64 x.f8.f3.f1, .string x.f8.f4.f0, .int .i64 x.f8.f4.f1, .string x.f8.f5, .slice X30 x.f8.f6.length y30, .int .i64 x.f9.f0, .string x.f9.f1.f0, .int .i64 x.f9.f1.f1, .string x.f9.f2.f0, .int .i64 x.f9.f2.f1, .string x.f9.f3.f0, .int .i64 x.f9.f3.f1, .string x.f9.f4.f0, .int .i64 x.f9.f4.f1, .string x.f9.f5, .slice X41 x.f9.f6.length y41] (0, 0) _ ?hg Try.underlying49 rfl ?hi ?_; (case hg => exact BK8.out); (case hi => kernel_rfl)))
    refine (KKx.out _ _ (Kd.C_below HC.out HB.out) (k49.K_below HB.out HXK.out)).mono ?_
    rintro e wc ⟨rfl, hb⟩
    replace BK3 := Aside0.mk (blk_below BK3.out hb)
    replace BK7 := Aside0.mk (blk_below BK7.out hb)
    replace BK8 := Aside0.mk (blk_below BK8.out hb)
    replace HB := Aside0.mk (below_step HB.out hb)
    clear hb
    by_cases hk0 : kb = 0
    rotate_left
    · have hk1 : (kb != 0) = true := by simpa using hk0
      have HE : Aside0 (r = kb) := ⟨by have := HR.out; rw [if_pos hk0] at this; exact this.symm⟩
      go_wp2
      go_ret
      exact ⟨by rw [HE.out]; rfl, HB.out⟩
    subst hk0
    have hr := HR.out
    rw [if_neg (by decide)] at hr
    obtain ⟨dl, hdl⟩ : ∃ dl, dimsL x = dl := ⟨_, rfl⟩
    obtain ⟨el, hel⟩ : ∃ el, exprsL x = el := ⟨_, rfl⟩
    have KDX := Aside0.mk (fun cs w' hk => dims_any x cs w' hk)
    have HEB' := HEB.out
    have KE' := KE.out
    rw [hdl] at hr KDX
    rw [hel] at hr HEB' KE'
    obtain ⟨z, hz⟩ : ∃ z, fst (gFree m.f1) dl 0 = z := ⟨_, rfl⟩
    obtain ⟨q, hq⟩ : ∃ q, kidsS l m el = q := ⟨_, rfl⟩
    rw [hz, hq] at hr
    replace HEB := Aside0.mk HEB'
    replace KE := Aside0.mk KE'
    have HZ := Aside0.mk hz
    have HQ := Aside0.mk hq
    replace HR := Aside0.mk hr
    clear hr hdl hel hz hq HEB' KE' KN KKx KAH
    go_wp2_with (first | ((with_reducible refine gate_dst (N := 45) rfl ?_); refine wpList_load_row rfl 49 (.tmp 8) rfl g8 rfl 49 #[.int .i64 x.f0, .string x.f1, .string x.f2.f0, .int .i64 x.f2.f1, .string x.f3.f0, .int .i64 x.f3.f1, .string x.f4, .slice X7 x.f5.length y7, .slice X8 x.f6.length y8, .int .i64 x.f7.f0, .string x.f7.f1.f0, .int .i64 x.f7.f1.f1, .string x.f7.f2.f0, .int .i64 x.f7.f2.f1, .string x.f7.f3.f0, .int .i64 x.f7.f3.f1, .string x.f7.f4.f0, .int .i64 x.f7.f4.f1, .string x.f7.f5, .slice X19 x.f7.f6.length y19, .int .i64 x.f8.f0, .string x.f8.f1.f0, .int .i64 x.f8.f1.f1, .string x.f8.f2.f0, .int .i64 x.f8.f2.f1, .string x.f8.f3.f0, .int .i64 x.f8.f3.f1, .string x.f8.f4.f0, .int .i64 x.f8.f4.f1, .string x.f8.f5, .slice X30 x.f8.f6.length y30, .int .i64 x.f9.f0, .string x.f9.f1.f0, .int .i64 x.f9.f1.f1, .string x.f9.f2.f0, .int .i64 x.f9.f2.f1, .string x.f9.f3.f0, .int .i64 x.f9.f3.f1, .string x.f9.f4.f0, .int .i64 x.f9.f4.f1, .string x.f9.f5, .slice X41 x.f9.f6.length y41] (0, 0) _ ?hg Try.underlying49 rfl ?hi ?_; (case hg => exact BK8.out); (case hi => kernel_rfl)))
    refine (KDX.out _ _ (k49.K_below HB.out HXK.out)).mono ?_
    rintro e wd ⟨DA, dc, rfl, hdc, hdC, hb⟩
    have hdm : dl.length ≤ 9223372036854775807 := hdC.2.1
    have HDC := Aside0.mk hdC
    have HDB : Aside0 (Below wd.heap.size wd wd) := ⟨Below.refl _ _⟩
    replace BK3 := Aside0.mk (blk_below BK3.out hb)
    replace BK7 := Aside0.mk (blk_below BK7.out hb)
    replace BK8 := Aside0.mk (blk_below BK8.out hb)
    replace HB := Aside0.mk (below_step HB.out hb)
    clear hb
    clear hdC hdc
    go_wp2
    go_loopw [13] (fun v wr => ∃ j : Nat, v = .int .i64 (j : Int) ∧ j ≤ dl.length ∧ Aside0 (fst (gFree m.f1) (dl.drop j) j = z) ∧ Aside0 (wr.heap[g3]? = some (.cells #[.slice (some ad2) l.length c0] 24 (0, 0))) ∧ Aside0 (wr.heap[g7]? = some (.cells #[.string m.f0, .slice M1 m.f1.length d1, .slice M2 m.f2.length d2, .slice (some ad) m.f3.length d3] 34 (0, 0))) ∧ Aside0 (wr.heap[g8]? = some (.cells #[.int .i64 x.f0, .string x.f1, .string x.f2.f0, .int .i64 x.f2.f1, .string x.f3.f0, .int .i64 x.f3.f1, .string x.f4, .slice X7 x.f5.length y7, .slice X8 x.f6.length y8, .int .i64 x.f7.f0, .string x.f7.f1.f0, .int .i64 x.f7.f1.f1, .string x.f7.f2.f0, .int .i64 x.f7.f2.f1, .string x.f7.f3.f0, .int .i64 x.f7.f3.f1, .string x.f7.f4.f0, .int .i64 x.f7.f4.f1, .string x.f7.f5, .slice X19 x.f7.f6.length y19, .int .i64 x.f8.f0, .string x.f8.f1.f0, .int .i64 x.f8.f1.f1, .string x.f8.f2.f0, .int .i64 x.f8.f2.f1, .string x.f8.f3.f0, .int .i64 x.f8.f3.f1, .string x.f8.f4.f0, .int .i64 x.f8.f4.f1, .string x.f8.f5, .slice X30 x.f8.f6.length y30, .int .i64 x.f9.f0, .string x.f9.f1.f0, .int .i64 x.f9.f1.f1, .string x.f9.f2.f0, .int .i64 x.f9.f2.f1, .string x.f9.f3.f0, .int .i64 x.f9.f3.f1, .string x.f9.f4.f0, .int .i64 x.f9.f4.f1, .string x.f9.f5, .slice X41 x.f9.f6.length y41] 49 (0, 0))) ∧ Aside0 (Below wd.heap.size wd wr)) (fun v _ => dl.length - (intOf v).toNat)
    case atStart => exact ⟨0, rfl, Nat.zero_le _, HZ, BK3, BK7, BK8, HDB⟩
    case round =>
      clear BK3 BK7 BK8 HDB
      obtain ⟨j, rfl, hj, HJ, BK3, BK7, BK8, HDB⟩ := hrel
      have HB2 : Aside0 (Below w.heap.size w wr) := ⟨below_step HB.out HDB.out⟩
      have hm70 : wr.cell? ⟨g7, 0, none⟩ = some (.string m.f0) := blk_cell BK7.out 0
      have hm71 : wr.cell? ⟨g7, 1, none⟩ = some (.slice M1 m.f1.length d1) := blk_cell BK7.out 1
      have hm72 : wr.cell? ⟨g7, 2, none⟩ = some (.slice M2 m.f2.length d2) := blk_cell BK7.out 2
      have hm73 : wr.cell? ⟨g7, 3, none⟩ = some (.slice (some ad) m.f3.length d3) := blk_cell BK7.out 3
      have hg7 : g7 < wr.heap.size := blk_lt BK7.out
      by_cases hlt : j < dl.length
      · obtain ⟨ae, rfl, hx0, hx1⟩ := at42 (Kd.C_below HDC.out HDB.out) j hlt
        have hbk := World.block_lt_of_cell? wr _ hx0
        obtain ⟨y, hy⟩ : ∃ y, dl[j] = y := ⟨_, rfl⟩
        have HY := Aside0.mk hy
        rw [hy] at hx0 hx1
        have KF := Aside0.mk (fun cs w' hk => free_any m cs y w' hk)
        obtain ⟨fb, hfb⟩ : ∃ b, freeS m.f1 y = b := ⟨_, rfl⟩
        rw [hfb] at KF
        have HFB := Aside0.mk hfb
        clear hy hfb
        go_wp2
        go_region_held3 (fun w' => w'.cell? ⟨g7, 0, none⟩ = some (.string m.f0) ∧ w'.cell? ⟨g7, 1, none⟩ = some (.slice M1 m.f1.length d1) ∧ w'.cell? ⟨g7, 2, none⟩ = some (.slice M2 m.f2.length d2) ∧ w'.cell? ⟨g7, 3, none⟩ = some (.slice (some ad) m.f3.length d3) ∧ w'.cell? (ae.add (j * 2)) = some (.string y.f0) ∧ w'.cell? ⟨(ae.add (j * 2)).block, (ae.add (j * 2)).off + 1, none⟩ = some (.int .i64 y.f1))
          (go_keep)
          (first | (go_at_call 48; refine (KF.out _ _ (k34.K_below (below_drew HB2.out) HMK.out)).mono ?_; rintro e we ⟨rfl, hb⟩; obtain ⟨hc, hf⟩ := bcell (below_step (below_drew (Below.refl wr.heap.size wr)) hb)))
        replace BK3 := Aside0.mk (blk_below (blk_drew BK3.out) hb)
        replace BK7 := Aside0.mk (blk_below (blk_drew BK7.out) hb)
        replace BK8 := Aside0.mk (blk_below (blk_drew BK8.out) hb)
        replace HDB := Aside0.mk (below_step (below_drew HDB.out) hb)
        clear hc hf hb hx0 hx1 hbk hm70 hm71 hm72 hm73 hg7
        cases fb
        · have HE := (fst_miss (gFree m.f1) dl j hlt (by unfold gFree; rw [HY.out, HFB.out]; rfl)).symm.trans HJ.out
          go_wp2
          go_roundw
          case rel => exact ⟨j + 1, by go_num, by omega, ⟨HE⟩, BK3, BK7, BK8, HDB⟩
          case measure => simp [intOf]; omega
        · have HE := (fst_hit (gFree m.f1) dl j hlt (b := ()) (by unfold gFree; rw [HY.out, HFB.out]; rfl)).symm.trans HJ.out
          have HE2 : Aside0 (r = 40) := ⟨by rw [← HR.out, ← HE]; rfl⟩
          clear HE
          go_wp2
          go_ret
          exact ⟨by rw [HE2.out]; rfl, below_step HB.out HDB.out⟩
      · have HE := (fst_end (gFree m.f1) dl j (by omega)).symm.trans HJ.out
        have HE2 : Aside0 (q = r) := ⟨by rw [← HR.out, ← HE]; rfl⟩
        replace HB := HB2
        clear HE hm70 hm71 hm72 hm73 hg7 HJ HDC HDB HB2
        obtain rfl := HE2.out
        obtain ⟨wo, rfl⟩ : ∃ wo : World, wo = wr := ⟨_, rfl⟩
        go_wp2_with (first | ((with_reducible refine gate_dst (N := 60) rfl ?_); refine wpList_load_row rfl 49 (.tmp 8) rfl g8 rfl 49 #[.int .i64 x.f0, .string x.f1, .string x.f2.f0, .int .i64 x.f2.f1, .string x.f3.f0, .int .i64 x.f3.f1, .string x.f4, .slice X7 x.f5.length y7, .slice X8 x.f6.length y8, .int .i64 x.f7.f0, .string x.f7.f1.f0, .int .i64 x.f7.f1.f1, .string x.f7.f2.f0, .int .i64 x.f7.f2.f1, .string x.f7.f3.f0, .int .i64 x.f7.f3.f1, .string x.f7.f4.f0, .int .i64 x.f7.f4.f1, .string x.f7.f5, .slice X19 x.f7.f6.length y19, .int .i64 x.f8.f0, .string x.f8.f1.f0, .int .i64 x.f8.f1.f1, .string x.f8.f2.f0, .int .i64 x.f8.f2.f1, .string x.f8.f3.f0, .int .i64 x.f8.f3.f1, .string x.f8.f4.f0, .int .i64 x.f8.f4.f1, .string x.f8.f5, .slice X30 x.f8.f6.length y30, .int .i64 x.f9.f0, .string x.f9.f1.f0, .int .i64 x.f9.f1.f1, .string x.f9.f2.f0, .int .i64 x.f9.f2.f1, .string x.f9.f3.f0, .int .i64 x.f9.f3.f1, .string x.f9.f4.f0, .int .i64 x.f9.f4.f1, .string x.f9.f5, .slice X41 x.f9.f6.length y41] (0, 0) _ ?hg Try.underlying49 rfl ?hi ?_; (case hg => exact BK8.out); (case hi => kernel_rfl)))
        refine (KE.out _ _ (k49.K_below HB.out HXK.out)).mono ?_
        rintro e wf ⟨EA, ec, rfl, hec, heC, hb⟩
        have hem : el.length ≤ 9223372036854775807 := heC.2.1
        have HEC := Aside0.mk heC
        have HDB : Aside0 (Below wf.heap.size wf wf) := ⟨Below.refl _ _⟩
        replace BK3 := Aside0.mk (blk_below BK3.out hb)
        replace BK7 := Aside0.mk (blk_below BK7.out hb)
        replace BK8 := Aside0.mk (blk_below BK8.out hb)
        replace HB := Aside0.mk (below_step HB.out hb)
        clear hb
        clear heC hec
        go_wp2
        go_loopw [16] (fun v wr => ∃ j : Nat, v = .int .i64 (j : Int) ∧ j ≤ el.length ∧ Aside0 (kidsS l m (el.drop j) = q) ∧ Aside0 (wr.heap[g3]? = some (.cells #[.slice (some ad2) l.length c0] 24 (0, 0))) ∧ Aside0 (wr.heap[g7]? = some (.cells #[.string m.f0, .slice M1 m.f1.length d1, .slice M2 m.f2.length d2, .slice (some ad) m.f3.length d3] 34 (0, 0))) ∧ Aside0 (Below wf.heap.size wf wr)) (fun v _ => el.length - (intOf v).toNat)
        case atStart => exact ⟨0, rfl, Nat.zero_le _, HQ, BK3, BK7, HDB⟩
        case round =>
          clear BK3 BK7 BK8 HDB
          obtain ⟨j, rfl, hj, HJ, BK3, BK7, HDB⟩ := hrel
          have HB2 : Aside0 (Below w.heap.size w wr) := ⟨below_step HB.out HDB.out⟩
          have hm70 : wr.cell? ⟨g7, 0, none⟩ = some (.string m.f0) := blk_cell BK7.out 0
          have hm71 : wr.cell? ⟨g7, 1, none⟩ = some (.slice M1 m.f1.length d1) := blk_cell BK7.out 1
          have hm72 : wr.cell? ⟨g7, 2, none⟩ = some (.slice M2 m.f2.length d2) := blk_cell BK7.out 2
          have hm73 : wr.cell? ⟨g7, 3, none⟩ = some (.slice (some ad) m.f3.length d3) := blk_cell BK7.out 3
          have hk3 : wr.cell? ⟨g3, 0, none⟩ = some (.slice (some ad2) l.length c0) := blk_cell BK3.out 0
          have hg7 : g7 < wr.heap.size := blk_lt BK7.out
          have hg3 : g3 < wr.heap.size := blk_lt BK3.out
          by_cases hlt : j < el.length
          · obtain ⟨ae, E10, e10, rfl, hx0, hx1, hx2, hx3, hx4, hx5, hx6, hx7, hx8, hx9, hx10, hle, hCe⟩ := at47 (Kd.C_below HEC.out HDB.out) j hlt
            have HKE := Aside0.mk (k47_mk wr el[j] hle hCe)
            have hbk := World.block_lt_of_cell? wr _ hx0
            have hks := kids_step l m el j hlt
            have hB1 := HEB.out el[j] (List.getElem_mem hlt)
            obtain ⟨y, hy⟩ : ∃ y, el[j] = y := ⟨_, rfl⟩
            rw [hy] at hx0 hx1 hx2 hx3 hx4 hx5 hx6 hx7 hx8 hx9 hx10 HKE hks hB1
            have KX := Aside0.mk (fun cs ces w' hD hM hE => expr_any (SizeOf.sizeOf y + 1) y (by omega) (some ad2) c0 l m cs ces w' hD hM hE hB1)
            obtain ⟨b, hb0⟩ : ∃ b, exprS l m y = b := ⟨_, rfl⟩
            rw [hb0] at KX hks
            have HKS := Aside0.mk (hks.symm.trans HJ.out)
            clear hks hb0 hy hle hCe hB1
            go_wp2
            go_region_held3 (fun w' => w'.cell? ⟨g3, 0, none⟩ = some (.slice (some ad2) l.length c0) ∧ w'.cell? ⟨g7, 0, none⟩ = some (.string m.f0) ∧ w'.cell? ⟨g7, 1, none⟩ = some (.slice M1 m.f1.length d1) ∧ w'.cell? ⟨g7, 2, none⟩ = some (.slice M2 m.f2.length d2) ∧ w'.cell? ⟨g7, 3, none⟩ = some (.slice (some ad) m.f3.length d3) ∧ w'.cell? (ae.add (j * 11)) = some (.int .i64 y.f0) ∧ w'.cell? ⟨(ae.add (j * 11)).block, (ae.add (j * 11)).off + 1, none⟩ = some (.string y.f1.f0) ∧ w'.cell? ⟨(ae.add (j * 11)).block, (ae.add (j * 11)).off + 2, none⟩ = some (.int .i64 y.f1.f1) ∧ w'.cell? ⟨(ae.add (j * 11)).block, (ae.add (j * 11)).off + 3, none⟩ = some (.string y.f2.f0) ∧ w'.cell? ⟨(ae.add (j * 11)).block, (ae.add (j * 11)).off + 4, none⟩ = some (.int .i64 y.f2.f1) ∧ w'.cell? ⟨(ae.add (j * 11)).block, (ae.add (j * 11)).off + 5, none⟩ = some (.string y.f3.f0) ∧ w'.cell? ⟨(ae.add (j * 11)).block, (ae.add (j * 11)).off + 6, none⟩ = some (.int .i64 y.f3.f1) ∧ w'.cell? ⟨(ae.add (j * 11)).block, (ae.add (j * 11)).off + 7, none⟩ = some (.string y.f4.f0) ∧ w'.cell? ⟨(ae.add (j * 11)).block, (ae.add (j * 11)).off + 8, none⟩ = some (.int .i64 y.f4.f1) ∧ w'.cell? ⟨(ae.add (j * 11)).block, (ae.add (j * 11)).off + 9, none⟩ = some (.string y.f5) ∧ w'.cell? ⟨(ae.add (j * 11)).block, (ae.add (j * 11)).off + 10, none⟩ = some (.slice E10 y.f6.length e10))
              (go_keep)
              (first | (go_at_call 52; refine (KX.out _ _ _ (Kd.C_below HC.out (below_drew HB2.out)) (k34.K_below (below_drew HB2.out) HMK.out) (k47.K_below (below_drew (Below.refl _ _)) HKE.out)).mono ?_; rintro e we ⟨rfl, hb⟩; obtain ⟨hc, hf⟩ := bcell (below_step (below_drew (Below.refl wr.heap.size wr)) hb)))
            replace BK3 := Aside0.mk (blk_below (blk_drew BK3.out) hb)
            replace BK7 := Aside0.mk (blk_below (blk_drew BK7.out) hb)
            replace HDB := Aside0.mk (below_step (below_drew HDB.out) hb)
            clear hc hf hb hx0 hx1 hx2 hx3 hx4 hx5 hx6 hx7 hx8 hx9 hx10 hbk hm70 hm71 hm72 hm73 hg7 hk3 hg3
            by_cases hb0 : b = 0
            · subst hb0
              have HE : Aside0 (kidsS l m (el.drop (j + 1)) = q) := ⟨by rw [← HKS.out, if_neg (by decide)]⟩
              go_wp2
              go_roundw
              case rel => exact ⟨j + 1, by go_num, by omega, HE, BK3, BK7, HDB⟩
              case measure => simp [intOf]; omega
            · have hb1 : (b != 0) = true := by simpa using hb0
              have HE : Aside0 (q = b) := ⟨by rw [← HKS.out, if_pos hb0]⟩
              go_wp2
              go_ret
              exact ⟨by rw [HE.out]; rfl, below_step HB.out HDB.out⟩
          · have HE : Aside0 (q = 0) := ⟨by rw [← HJ.out, List.drop_eq_nil_of_le (by omega)]; simp [kidsS]⟩
            go_wp2
            go_ret
            exact ⟨by rw [HE.out]; rfl, below_step HB.out HDB.out⟩
  · clear hna hab
    go_wp2_with (first | ((with_reducible refine gate_dst (N := 38) rfl ?_); refine wpList_load_row rfl 24 (.tmp 3) rfl g3 rfl 24 #[.slice (some ad2) l.length c0] (0, 0) _ ?hg Try.underlying24 rfl ?hi ?_; (case hg => exact BK3.out); (case hi => kernel_rfl)) | ((with_reducible refine gate_dst (N := 40) rfl ?_); refine wpList_load_row rfl 49 (.tmp 8) rfl g8 rfl 49 #[.int .i64 x.f0, .string x.f1, .string x.f2.f0, .int .i64 x.f2.f1, .string x.f3.f0, .int .i64 x.f3.f1, .string x.f4, .slice X7 x.f5.length y7, .slice X8 x.f6.length y8, .int .i64 x.f7.f0, .string x.f7.f1.f0, .int .i64 x.f7.f1.f1, .string x.f7.f2.f0, .int .i64 x.f7.f2.f1, .string x.f7.f3.f0, .int .i64 x.f7.f3.f1, .string x.f7.f4.f0, .int .i64 x.f7.f4.f1, .string x.f7.f5, .slice X19 x.f7.f6.length y19, .int .i64 x.f8.f0, .string x.f8.f1.f0, .int .i64 x.f8.f1.f1, .string x.f8.f2.f0, .int .i64 x.f8.f2.f1, .string x.f8.f3.f0, .int .i64 x.f8.f3.f1, .string x.f8.f4.f0, .int .i64 x.f8.f4.f1, .string x.f8.f5, .slice X30 x.f8.f6.length y30, .int .i64 x.f9.f0, .string x.f9.f1.f0, .int .i64 x.f9.f1.f1, .string x.f9.f2.f0, .int .i64 x.f9.f2.f1, .string x.f9.f3.f0, .int .i64 x.f9.f3.f1, .string x.f9.f4.f0, .int .i64 x.f9.f4.f1, .string x.f9.f5, .slice X41 x.f9.f6.length y41] (0, 0) _ ?hg Try.underlying49 rfl ?hi ?_; (case hg => exact BK8.out); (case hi => kernel_rfl)))
    refine (KKx.out _ _ (Kd.C_below HC.out HB.out) (k49.K_below HB.out HXK.out)).mono ?_
    rintro e wc ⟨rfl, hb⟩
    replace BK3 := Aside0.mk (blk_below BK3.out hb)
    replace BK7 := Aside0.mk (blk_below BK7.out hb)
    replace BK8 := Aside0.mk (blk_below BK8.out hb)
    replace HB := Aside0.mk (below_step HB.out hb)
    clear hb
    by_cases hk0 : kb = 0
    rotate_left
    · have hk1 : (kb != 0) = true := by simpa using hk0
      have HE : Aside0 (r = kb) := ⟨by have := HR.out; rw [if_pos hk0] at this; exact this.symm⟩
      go_wp2
      go_ret
      exact ⟨by rw [HE.out]; rfl, HB.out⟩
    subst hk0
    have hr := HR.out
    rw [if_neg (by decide)] at hr
    obtain ⟨dl, hdl⟩ : ∃ dl, dimsL x = dl := ⟨_, rfl⟩
    obtain ⟨el, hel⟩ : ∃ el, exprsL x = el := ⟨_, rfl⟩
    have KDX := Aside0.mk (fun cs w' hk => dims_any x cs w' hk)
    have HEB' := HEB.out
    have KE' := KE.out
    rw [hdl] at hr KDX
    rw [hel] at hr HEB' KE'
    obtain ⟨z, hz⟩ : ∃ z, fst (gFree m.f1) dl 0 = z := ⟨_, rfl⟩
    obtain ⟨q, hq⟩ : ∃ q, kidsS l m el = q := ⟨_, rfl⟩
    rw [hz, hq] at hr
    replace HEB := Aside0.mk HEB'
    replace KE := Aside0.mk KE'
    have HZ := Aside0.mk hz
    have HQ := Aside0.mk hq
    replace HR := Aside0.mk hr
    clear hr hdl hel hz hq HEB' KE' KN KKx KAH
    go_wp2_with (first | ((with_reducible refine gate_dst (N := 45) rfl ?_); refine wpList_load_row rfl 49 (.tmp 8) rfl g8 rfl 49 #[.int .i64 x.f0, .string x.f1, .string x.f2.f0, .int .i64 x.f2.f1, .string x.f3.f0, .int .i64 x.f3.f1, .string x.f4, .slice X7 x.f5.length y7, .slice X8 x.f6.length y8, .int .i64 x.f7.f0, .string x.f7.f1.f0, .int .i64 x.f7.f1.f1, .string x.f7.f2.f0, .int .i64 x.f7.f2.f1, .string x.f7.f3.f0, .int .i64 x.f7.f3.f1, .string x.f7.f4.f0, .int .i64 x.f7.f4.f1, .string x.f7.f5, .slice X19 x.f7.f6.length y19, .int .i64 x.f8.f0, .string x.f8.f1.f0, .int .i64 x.f8.f1.f1, .string x.f8.f2.f0, .int .i64 x.f8.f2.f1, .string x.f8.f3.f0, .int .i64 x.f8.f3.f1, .string x.f8.f4.f0, .int .i64 x.f8.f4.f1, .string x.f8.f5, .slice X30 x.f8.f6.length y30, .int .i64 x.f9.f0, .string x.f9.f1.f0, .int .i64 x.f9.f1.f1, .string x.f9.f2.f0, .int .i64 x.f9.f2.f1, .string x.f9.f3.f0, .int .i64 x.f9.f3.f1, .string x.f9.f4.f0, .int .i64 x.f9.f4.f1, .string x.f9.f5, .slice X41 x.f9.f6.length y41] (0, 0) _ ?hg Try.underlying49 rfl ?hi ?_; (case hg => exact BK8.out); (case hi => kernel_rfl)))
    refine (KDX.out _ _ (k49.K_below HB.out HXK.out)).mono ?_
    rintro e wd ⟨DA, dc, rfl, hdc, hdC, hb⟩
    have hdm : dl.length ≤ 9223372036854775807 := hdC.2.1
    have HDC := Aside0.mk hdC
    have HDB : Aside0 (Below wd.heap.size wd wd) := ⟨Below.refl _ _⟩
    replace BK3 := Aside0.mk (blk_below BK3.out hb)
    replace BK7 := Aside0.mk (blk_below BK7.out hb)
    replace BK8 := Aside0.mk (blk_below BK8.out hb)
    replace HB := Aside0.mk (below_step HB.out hb)
    clear hb
    clear hdC hdc
    go_wp2
    go_loopw [13] (fun v wr => ∃ j : Nat, v = .int .i64 (j : Int) ∧ j ≤ dl.length ∧ Aside0 (fst (gFree m.f1) (dl.drop j) j = z) ∧ Aside0 (wr.heap[g3]? = some (.cells #[.slice (some ad2) l.length c0] 24 (0, 0))) ∧ Aside0 (wr.heap[g7]? = some (.cells #[.string m.f0, .slice M1 m.f1.length d1, .slice M2 m.f2.length d2, .slice (some ad) m.f3.length d3] 34 (0, 0))) ∧ Aside0 (wr.heap[g8]? = some (.cells #[.int .i64 x.f0, .string x.f1, .string x.f2.f0, .int .i64 x.f2.f1, .string x.f3.f0, .int .i64 x.f3.f1, .string x.f4, .slice X7 x.f5.length y7, .slice X8 x.f6.length y8, .int .i64 x.f7.f0, .string x.f7.f1.f0, .int .i64 x.f7.f1.f1, .string x.f7.f2.f0, .int .i64 x.f7.f2.f1, .string x.f7.f3.f0, .int .i64 x.f7.f3.f1, .string x.f7.f4.f0, .int .i64 x.f7.f4.f1, .string x.f7.f5, .slice X19 x.f7.f6.length y19, .int .i64 x.f8.f0, .string x.f8.f1.f0, .int .i64 x.f8.f1.f1, .string x.f8.f2.f0, .int .i64 x.f8.f2.f1, .string x.f8.f3.f0, .int .i64 x.f8.f3.f1, .string x.f8.f4.f0, .int .i64 x.f8.f4.f1, .string x.f8.f5, .slice X30 x.f8.f6.length y30, .int .i64 x.f9.f0, .string x.f9.f1.f0, .int .i64 x.f9.f1.f1, .string x.f9.f2.f0, .int .i64 x.f9.f2.f1, .string x.f9.f3.f0, .int .i64 x.f9.f3.f1, .string x.f9.f4.f0, .int .i64 x.f9.f4.f1, .string x.f9.f5, .slice X41 x.f9.f6.length y41] 49 (0, 0))) ∧ Aside0 (Below wd.heap.size wd wr)) (fun v _ => dl.length - (intOf v).toNat)
    case atStart => exact ⟨0, rfl, Nat.zero_le _, HZ, BK3, BK7, BK8, HDB⟩
    case round =>
      clear BK3 BK7 BK8 HDB
      obtain ⟨j, rfl, hj, HJ, BK3, BK7, BK8, HDB⟩ := hrel
      have HB2 : Aside0 (Below w.heap.size w wr) := ⟨below_step HB.out HDB.out⟩
      have hm70 : wr.cell? ⟨g7, 0, none⟩ = some (.string m.f0) := blk_cell BK7.out 0
      have hm71 : wr.cell? ⟨g7, 1, none⟩ = some (.slice M1 m.f1.length d1) := blk_cell BK7.out 1
      have hm72 : wr.cell? ⟨g7, 2, none⟩ = some (.slice M2 m.f2.length d2) := blk_cell BK7.out 2
      have hm73 : wr.cell? ⟨g7, 3, none⟩ = some (.slice (some ad) m.f3.length d3) := blk_cell BK7.out 3
      have hg7 : g7 < wr.heap.size := blk_lt BK7.out
      by_cases hlt : j < dl.length
      · obtain ⟨ae, rfl, hx0, hx1⟩ := at42 (Kd.C_below HDC.out HDB.out) j hlt
        have hbk := World.block_lt_of_cell? wr _ hx0
        obtain ⟨y, hy⟩ : ∃ y, dl[j] = y := ⟨_, rfl⟩
        have HY := Aside0.mk hy
        rw [hy] at hx0 hx1
        have KF := Aside0.mk (fun cs w' hk => free_any m cs y w' hk)
        obtain ⟨fb, hfb⟩ : ∃ b, freeS m.f1 y = b := ⟨_, rfl⟩
        rw [hfb] at KF
        have HFB := Aside0.mk hfb
        clear hy hfb
        go_wp2
        go_region_held3 (fun w' => w'.cell? ⟨g7, 0, none⟩ = some (.string m.f0) ∧ w'.cell? ⟨g7, 1, none⟩ = some (.slice M1 m.f1.length d1) ∧ w'.cell? ⟨g7, 2, none⟩ = some (.slice M2 m.f2.length d2) ∧ w'.cell? ⟨g7, 3, none⟩ = some (.slice (some ad) m.f3.length d3) ∧ w'.cell? (ae.add (j * 2)) = some (.string y.f0) ∧ w'.cell? ⟨(ae.add (j * 2)).block, (ae.add (j * 2)).off + 1, none⟩ = some (.int .i64 y.f1))
          (go_keep)
          (first | (go_at_call 48; refine (KF.out _ _ (k34.K_below (below_drew HB2.out) HMK.out)).mono ?_; rintro e we ⟨rfl, hb⟩; obtain ⟨hc, hf⟩ := bcell (below_step (below_drew (Below.refl wr.heap.size wr)) hb)))
        replace BK3 := Aside0.mk (blk_below (blk_drew BK3.out) hb)
        replace BK7 := Aside0.mk (blk_below (blk_drew BK7.out) hb)
        replace BK8 := Aside0.mk (blk_below (blk_drew BK8.out) hb)
        replace HDB := Aside0.mk (below_step (below_drew HDB.out) hb)
        clear hc hf hb hx0 hx1 hbk hm70 hm71 hm72 hm73 hg7
        cases fb
        · have HE := (fst_miss (gFree m.f1) dl j hlt (by unfold gFree; rw [HY.out, HFB.out]; rfl)).symm.trans HJ.out
          go_wp2
          go_roundw
          case rel => exact ⟨j + 1, by go_num, by omega, ⟨HE⟩, BK3, BK7, BK8, HDB⟩
          case measure => simp [intOf]; omega
        · have HE := (fst_hit (gFree m.f1) dl j hlt (b := ()) (by unfold gFree; rw [HY.out, HFB.out]; rfl)).symm.trans HJ.out
          have HE2 : Aside0 (r = 40) := ⟨by rw [← HR.out, ← HE]; rfl⟩
          clear HE
          go_wp2
          go_ret
          exact ⟨by rw [HE2.out]; rfl, below_step HB.out HDB.out⟩
      · have HE := (fst_end (gFree m.f1) dl j (by omega)).symm.trans HJ.out
        have HE2 : Aside0 (q = r) := ⟨by rw [← HR.out, ← HE]; rfl⟩
        replace HB := HB2
        clear HE hm70 hm71 hm72 hm73 hg7 HJ HDC HDB HB2
        obtain rfl := HE2.out
        obtain ⟨wo, rfl⟩ : ∃ wo : World, wo = wr := ⟨_, rfl⟩
        go_wp2_with (first | ((with_reducible refine gate_dst (N := 60) rfl ?_); refine wpList_load_row rfl 49 (.tmp 8) rfl g8 rfl 49 #[.int .i64 x.f0, .string x.f1, .string x.f2.f0, .int .i64 x.f2.f1, .string x.f3.f0, .int .i64 x.f3.f1, .string x.f4, .slice X7 x.f5.length y7, .slice X8 x.f6.length y8, .int .i64 x.f7.f0, .string x.f7.f1.f0, .int .i64 x.f7.f1.f1, .string x.f7.f2.f0, .int .i64 x.f7.f2.f1, .string x.f7.f3.f0, .int .i64 x.f7.f3.f1, .string x.f7.f4.f0, .int .i64 x.f7.f4.f1, .string x.f7.f5, .slice X19 x.f7.f6.length y19, .int .i64 x.f8.f0, .string x.f8.f1.f0, .int .i64 x.f8.f1.f1, .string x.f8.f2.f0, .int .i64 x.f8.f2.f1, .string x.f8.f3.f0, .int .i64 x.f8.f3.f1, .string x.f8.f4.f0, .int .i64 x.f8.f4.f1, .string x.f8.f5, .slice X30 x.f8.f6.length y30, .int .i64 x.f9.f0, .string x.f9.f1.f0, .int .i64 x.f9.f1.f1, .string x.f9.f2.f0, .int .i64 x.f9.f2.f1, .string x.f9.f3.f0, .int .i64 x.f9.f3.f1, .string x.f9.f4.f0, .int .i64 x.f9.f4.f1, .string x.f9.f5, .slice X41 x.f9.f6.length y41] (0, 0) _ ?hg Try.underlying49 rfl ?hi ?_; (case hg => exact BK8.out); (case hi => kernel_rfl)))
        refine (KE.out _ _ (k49.K_below HB.out HXK.out)).mono ?_
        rintro e wf ⟨EA, ec, rfl, hec, heC, hb⟩
        have hem : el.length ≤ 9223372036854775807 := heC.2.1
        have HEC := Aside0.mk heC
        have HDB : Aside0 (Below wf.heap.size wf wf) := ⟨Below.refl _ _⟩
        replace BK3 := Aside0.mk (blk_below BK3.out hb)
        replace BK7 := Aside0.mk (blk_below BK7.out hb)
        replace BK8 := Aside0.mk (blk_below BK8.out hb)
        replace HB := Aside0.mk (below_step HB.out hb)
        clear hb
        clear heC hec
        go_wp2
        go_loopw [16] (fun v wr => ∃ j : Nat, v = .int .i64 (j : Int) ∧ j ≤ el.length ∧ Aside0 (kidsS l m (el.drop j) = q) ∧ Aside0 (wr.heap[g3]? = some (.cells #[.slice (some ad2) l.length c0] 24 (0, 0))) ∧ Aside0 (wr.heap[g7]? = some (.cells #[.string m.f0, .slice M1 m.f1.length d1, .slice M2 m.f2.length d2, .slice (some ad) m.f3.length d3] 34 (0, 0))) ∧ Aside0 (Below wf.heap.size wf wr)) (fun v _ => el.length - (intOf v).toNat)
        case atStart => exact ⟨0, rfl, Nat.zero_le _, HQ, BK3, BK7, HDB⟩
        case round =>
          clear BK3 BK7 BK8 HDB
          obtain ⟨j, rfl, hj, HJ, BK3, BK7, HDB⟩ := hrel
          have HB2 : Aside0 (Below w.heap.size w wr) := ⟨below_step HB.out HDB.out⟩
          have hm70 : wr.cell? ⟨g7, 0, none⟩ = some (.string m.f0) := blk_cell BK7.out 0
          have hm71 : wr.cell? ⟨g7, 1, none⟩ = some (.slice M1 m.f1.length d1) := blk_cell BK7.out 1
          have hm72 : wr.cell? ⟨g7, 2, none⟩ = some (.slice M2 m.f2.length d2) := blk_cell BK7.out 2
          have hm73 : wr.cell? ⟨g7, 3, none⟩ = some (.slice (some ad) m.f3.length d3) := blk_cell BK7.out 3
          have hk3 : wr.cell? ⟨g3, 0, none⟩ = some (.slice (some ad2) l.length c0) := blk_cell BK3.out 0
          have hg7 : g7 < wr.heap.size := blk_lt BK7.out
          have hg3 : g3 < wr.heap.size := blk_lt BK3.out
          by_cases hlt : j < el.length
          · obtain ⟨ae, E10, e10, rfl, hx0, hx1, hx2, hx3, hx4, hx5, hx6, hx7, hx8, hx9, hx10, hle, hCe⟩ := at47 (Kd.C_below HEC.out HDB.out) j hlt
            have HKE := Aside0.mk (k47_mk wr el[j] hle hCe)
            have hbk := World.block_lt_of_cell? wr _ hx0
            have hks := kids_step l m el j hlt
            have hB1 := HEB.out el[j] (List.getElem_mem hlt)
            obtain ⟨y, hy⟩ : ∃ y, el[j] = y := ⟨_, rfl⟩
            rw [hy] at hx0 hx1 hx2 hx3 hx4 hx5 hx6 hx7 hx8 hx9 hx10 HKE hks hB1
            have KX := Aside0.mk (fun cs ces w' hD hM hE => expr_any (SizeOf.sizeOf y + 1) y (by omega) (some ad2) c0 l m cs ces w' hD hM hE hB1)
            obtain ⟨b, hb0⟩ : ∃ b, exprS l m y = b := ⟨_, rfl⟩
            rw [hb0] at KX hks
            have HKS := Aside0.mk (hks.symm.trans HJ.out)
            clear hks hb0 hy hle hCe hB1
            go_wp2
            go_region_held3 (fun w' => w'.cell? ⟨g3, 0, none⟩ = some (.slice (some ad2) l.length c0) ∧ w'.cell? ⟨g7, 0, none⟩ = some (.string m.f0) ∧ w'.cell? ⟨g7, 1, none⟩ = some (.slice M1 m.f1.length d1) ∧ w'.cell? ⟨g7, 2, none⟩ = some (.slice M2 m.f2.length d2) ∧ w'.cell? ⟨g7, 3, none⟩ = some (.slice (some ad) m.f3.length d3) ∧ w'.cell? (ae.add (j * 11)) = some (.int .i64 y.f0) ∧ w'.cell? ⟨(ae.add (j * 11)).block, (ae.add (j * 11)).off + 1, none⟩ = some (.string y.f1.f0) ∧ w'.cell? ⟨(ae.add (j * 11)).block, (ae.add (j * 11)).off + 2, none⟩ = some (.int .i64 y.f1.f1) ∧ w'.cell? ⟨(ae.add (j * 11)).block, (ae.add (j * 11)).off + 3, none⟩ = some (.string y.f2.f0) ∧ w'.cell? ⟨(ae.add (j * 11)).block, (ae.add (j * 11)).off + 4, none⟩ = some (.int .i64 y.f2.f1) ∧ w'.cell? ⟨(ae.add (j * 11)).block, (ae.add (j * 11)).off + 5, none⟩ = some (.string y.f3.f0) ∧ w'.cell? ⟨(ae.add (j * 11)).block, (ae.add (j * 11)).off + 6, none⟩ = some (.int .i64 y.f3.f1) ∧ w'.cell? ⟨(ae.add (j * 11)).block, (ae.add (j * 11)).off + 7, none⟩ = some (.string y.f4.f0) ∧ w'.cell? ⟨(ae.add (j * 11)).block, (ae.add (j * 11)).off + 8, none⟩ = some (.int .i64 y.f4.f1) ∧ w'.cell? ⟨(ae.add (j * 11)).block, (ae.add (j * 11)).off + 9, none⟩ = some (.string y.f5) ∧ w'.cell? ⟨(ae.add (j * 11)).block, (ae.add (j * 11)).off + 10, none⟩ = some (.slice E10 y.f6.length e10))
              (go_keep)
              (first | (go_at_call 52; refine (KX.out _ _ _ (Kd.C_below HC.out (below_drew HB2.out)) (k34.K_below (below_drew HB2.out) HMK.out) (k47.K_below (below_drew (Below.refl _ _)) HKE.out)).mono ?_; rintro e we ⟨rfl, hb⟩; obtain ⟨hc, hf⟩ := bcell (below_step (below_drew (Below.refl wr.heap.size wr)) hb)))
            replace BK3 := Aside0.mk (blk_below (blk_drew BK3.out) hb)
            replace BK7 := Aside0.mk (blk_below (blk_drew BK7.out) hb)
            replace HDB := Aside0.mk (below_step (below_drew HDB.out) hb)
            clear hc hf hb hx0 hx1 hx2 hx3 hx4 hx5 hx6 hx7 hx8 hx9 hx10 hbk hm70 hm71 hm72 hm73 hg7 hk3 hg3
            by_cases hb0 : b = 0
            · subst hb0
              have HE : Aside0 (kidsS l m (el.drop (j + 1)) = q) := ⟨by rw [← HKS.out, if_neg (by decide)]⟩
              go_wp2
              go_roundw
              case rel => exact ⟨j + 1, by go_num, by omega, HE, BK3, BK7, HDB⟩
              case measure => simp [intOf]; omega
            · have hb1 : (b != 0) = true := by simpa using hb0
              have HE : Aside0 (q = b) := ⟨by rw [← HKS.out, if_pos hb0]⟩
              go_wp2
              go_ret
              exact ⟨by rw [HE.out]; rfl, below_step HB.out HDB.out⟩
          · have HE : Aside0 (q = 0) := ⟨by rw [← HJ.out, List.drop_eq_nil_of_le (by omega)]; simp [kidsS]⟩
            go_wp2
            go_ret
            exact ⟨by rw [HE.out]; rfl, below_step HB.out HDB.out⟩
/-- The names of a module's params and ports. -/
def headS (m : S34) : List ByteArray := m.f1 ++ m.f2.map (·.f1)
def gEq (s : ByteArray) (x : ByteArray) (i : Nat) : Option Unit := if eqS x s = true then some () else none
def gTw (L : List ByteArray) (s : ByteArray) (i : Nat) : Option Unit := fst (gEq s) (L.take i) 0
/-- Is one of some names there twice? -/
def twiceS (L : List ByteArray) : Bool := (fst (gTw L) L 0).isSome
/-- What is wrong with a module itself. -/
def moduleS (l : List S34) (n : Int) (m : S34) : Int :=
  if findS l m.f0 < n then 50 else if twiceS (headS m) = true then 50 else if n = (l.length : Int) - 1 ∧ 0 < m.f1.length then 1 else
  if (fst (gFree m.f1) (m.f2.map (·.f2)) 0).isSome = true then 40 else 0
set_option maxHeartbeats 32000000 in
set_option maxRecDepth 100000 in
theorem module_any (A0 : Option Addr) (c0 : Nat) (l : List S34) (n : Nat) (hnl : n < l.length) (w : World) (h0 : Kd.C k34 w A0 l.length l) (hsm : l[n].f1.length + l[n].f2.length ≤ 1000000) :
    Calls Try.prog 30 #[.agg #[.slice A0 l.length c0], .int .i64 (n : Int)] w fun e w' => e = .returned (.int .i64 (moduleS l n l[n])) ∧ Below w.heap.size w w' := by
  have HC := Aside0.mk h0
  have hlm : l.length ≤ 9223372036854775807 := h0.2.1
  obtain ⟨ad2, cm, rfl, hKm, hcm⟩ := el_get h0 n hnl
  obtain ⟨m, hm⟩ : ∃ m, l[n] = m := ⟨_, rfl⟩
  simp only [hm] at hKm hsm ⊢
  have HMK := Aside0.mk hKm
  obtain ⟨M1, d1, M2, d2, M3, d3, rfl, hl1, hC1, hl2, hC2, hl3, hC3⟩ := k34_open hKm
  have HMC := Aside0.mk hcm
  have HC1 := Aside0.mk hC1
  have HC2 := Aside0.mk hC2
  have HSM := Aside0.mk hsm
  have hm1 : m.f1.length ≤ 9223372036854775807 := hC1.2.1
  have hm2 : m.f2.length ≤ 9223372036854775807 := hC2.2.1
  have K1 := Aside0.mk (fun w' hD => find_any (some ad2) c0 l m.f0 w' hD)
  have hfr := find_range l m.f0
  have hnl2 : (n : Int) < (l.length : Int) := by omega
  have hnn : (0 : Int) ≤ (n : Int) := by omega
  have HB : Aside0 (Below w.heap.size w w) := ⟨Below.refl _ _⟩
  have hu34 := Try.underlying34
  obtain ⟨r, hr⟩ : ∃ r, moduleS l n m = r := ⟨_, rfl⟩
  rw [hr]
  unfold moduleS at hr
  obtain ⟨k, hk⟩ : ∃ k, findS l m.f0 = k := ⟨_, rfl⟩
  rw [hk] at K1 hr hfr
  clear h0 hKm hl1 hC1 hl2 hC2 hl3 hC3 hcm hm hk hsm
  by_cases hkn : k < n
  · have HE : Aside0 (r = 50) := ⟨by rw [← hr, if_pos hkn]⟩
    clear hr
    go_enter Try.func30, Try.ntmps30
    go_wp2_with (first | ((with_reducible refine gate_dst (N := 2) rfl ?_); refine box_event ?hg (N := 2) ?hd (cs := #[.slice (some ad2) l.length c0]) (t := 24) ?hr ?_; (case hd => rfl); (case hg => rfl); (case hr => first | (go_simp; done) | (go_simp; rfl)); intro g3 hg_ w3 hbox_ hb_; have BK3 := Aside0.mk (hbox_); have GBK3 : Aside0 (w.heap.size ≤ g3) := ⟨by rw [hg_]; exact below_size HB.out⟩; replace HB : Aside0 (Below w.heap.size w w3) := ⟨below_step HB.out hb_⟩; clear hg_ hbox_ hb_; have hk3 : w3.cell? ⟨g3, 0, none⟩ = some (.slice (some ad2) l.length c0) := blk_cell BK3.out 0) | ((with_reducible refine gate_dst (N := 16) rfl ?_); refine wpList_load_cells rfl 34 (.tmp 15) rfl _ rfl [.string m.f0, .slice M1 m.f1.length d1, .slice M2 m.f2.length d2, .slice M3 m.f3.length d3] ?hc _ Try.underlying34 rfl ?hi ?_; (case hc => exact HMC.out _ HB.out); (case hi => kernel_rfl)) | ((with_reducible refine gate_dst (N := 5) rfl ?_); refine box_event ?hg (N := 5) ?hd (cs := #[.string ⟨#[]⟩, .slice none 0 0, .slice none 0 0, .slice none 0 0]) (t := 34) ?hr ?_; (case hd => rfl); (case hg => rfl); (case hr => first | (go_simp; done) | (go_simp; rfl)); intro g7 hg_ w7 hbox_ hb_; replace BK3 := Aside0.mk (blk_below BK3.out hb_); have BZ7 := Aside0.mk (hbox_); have GBZ7 : Aside0 (w.heap.size ≤ g7) := ⟨by rw [hg_]; exact below_size HB.out⟩; replace HB : Aside0 (Below w.heap.size w w7) := ⟨below_step HB.out hb_⟩; clear hg_ hbox_ hb_) | ((with_reducible refine gate_ (.store 34 (.tmp 5) (.tmp 16)) rfl ?_); refine wpList_store_box rfl rfl 34 (.tmp 5) (.tmp 16) rfl (g := g7) (e := 34) [.string m.f0, .slice M1 m.f1.length d1, .slice M2 m.f2.length d2, .slice M3 m.f3.length d3] rfl rfl BZ7.out rfl ?hi ?h1 ?_; (case hi => kernel_rfl); (case h1 => simp [Value.oneCell']); intro w8 hbx_ hfar_ hsz_ hbel_; replace BK3 := Aside0.mk ((hfar_ _ (blk_ne BK3.out BZ7.out (by decide))).trans BK3.out); have BK7 := Aside0.mk (hbx_); replace HB : Aside0 (Below w.heap.size w w8) := ⟨hbel_ _ GBZ7.out w HB.out⟩; clear hbx_ hfar_ hsz_ hbel_ BZ7; have hk70 : w8.cell? ⟨g7, 0, none⟩ = some (.string m.f0) := blk_cell BK7.out 0) | ((with_reducible refine gate_dst (N := 17) rfl ?_); refine wpList_load_row rfl 24 (.tmp 2) rfl g3 rfl 24 #[.slice (some ad2) l.length c0] (0, 0) _ ?hg Try.underlying24 rfl ?hi ?_; (case hg => exact BK3.out); (case hi => kernel_rfl)))
    refine (K1.out _ (Kd.C_below HC.out HB.out)).mono ?_
    rintro e w' ⟨rfl, hb⟩
    go_wp2
    go_ret
    exact ⟨by rw [HE.out]; rfl, below_step HB.out hb⟩
  rw [if_neg hkn] at hr
  have hkn' : (n : Int) ≤ k := by omega
  obtain ⟨L, hL⟩ : ∃ L, headS m = L := ⟨_, rfl⟩
  obtain ⟨z, hz⟩ : ∃ z, fst (gTw L) L 0 = z := ⟨_, rfl⟩
  obtain ⟨P, hP⟩ : ∃ P, m.f2.map (·.f2) = P := ⟨_, rfl⟩
  obtain ⟨y, hy⟩ : ∃ y, fst (gFree m.f1) P 0 = y := ⟨_, rfl⟩
  unfold twiceS at hr
  rw [hL, hz, hP, hy] at hr
  have hPl : P.length = m.f2.length := by rw [← hP, List.length_map]
  have HR := Aside0.mk hr
  have HL := Aside0.mk hL
  have HZ := Aside0.mk hz
  have HP := Aside0.mk hP
  have HY := Aside0.mk hy
  clear hr hL hz hP hy hkn
  go_enter Try.func30, Try.ntmps30
  go_wp2_with (first | ((with_reducible refine gate_dst (N := 2) rfl ?_); refine box_event ?hg (N := 2) ?hd (cs := #[.slice (some ad2) l.length c0]) (t := 24) ?hr ?_; (case hd => rfl); (case hg => rfl); (case hr => first | (go_simp; done) | (go_simp; rfl)); intro g3 hg_ w3 hbox_ hb_; have BK3 := Aside0.mk (hbox_); have GBK3 : Aside0 (w.heap.size ≤ g3) := ⟨by rw [hg_]; exact below_size HB.out⟩; replace HB : Aside0 (Below w.heap.size w w3) := ⟨below_step HB.out hb_⟩; clear hg_ hbox_ hb_; have hk3 : w3.cell? ⟨g3, 0, none⟩ = some (.slice (some ad2) l.length c0) := blk_cell BK3.out 0) | ((with_reducible refine gate_dst (N := 16) rfl ?_); refine wpList_load_cells rfl 34 (.tmp 15) rfl _ rfl [.string m.f0, .slice M1 m.f1.length d1, .slice M2 m.f2.length d2, .slice M3 m.f3.length d3] ?hc _ Try.underlying34 rfl ?hi ?_; (case hc => exact HMC.out _ HB.out); (case hi => kernel_rfl)) | ((with_reducible refine gate_dst (N := 5) rfl ?_); refine box_event ?hg (N := 5) ?hd (cs := #[.string ⟨#[]⟩, .slice none 0 0, .slice none 0 0, .slice none 0 0]) (t := 34) ?hr ?_; (case hd => rfl); (case hg => rfl); (case hr => first | (go_simp; done) | (go_simp; rfl)); intro g7 hg_ w7 hbox_ hb_; replace BK3 := Aside0.mk (blk_below BK3.out hb_); have BZ7 := Aside0.mk (hbox_); have GBZ7 : Aside0 (w.heap.size ≤ g7) := ⟨by rw [hg_]; exact below_size HB.out⟩; replace HB : Aside0 (Below w.heap.size w w7) := ⟨below_step HB.out hb_⟩; clear hg_ hbox_ hb_) | ((with_reducible refine gate_ (.store 34 (.tmp 5) (.tmp 16)) rfl ?_); refine wpList_store_box rfl rfl 34 (.tmp 5) (.tmp 16) rfl (g := g7) (e := 34) [.string m.f0, .slice M1 m.f1.length d1, .slice M2 m.f2.length d2, .slice M3 m.f3.length d3] rfl rfl BZ7.out rfl ?hi ?h1 ?_; (case hi => kernel_rfl); (case h1 => simp [Value.oneCell']); intro w8 hbx_ hfar_ hsz_ hbel_; replace BK3 := Aside0.mk ((hfar_ _ (blk_ne BK3.out BZ7.out (by decide))).trans BK3.out); have BK7 := Aside0.mk (hbx_); replace HB : Aside0 (Below w.heap.size w w8) := ⟨hbel_ _ GBZ7.out w HB.out⟩; clear hbx_ hfar_ hsz_ hbel_ BZ7; have hk70 : w8.cell? ⟨g7, 0, none⟩ = some (.string m.f0) := blk_cell BK7.out 0) | ((with_reducible refine gate_dst (N := 17) rfl ?_); refine wpList_load_row rfl 24 (.tmp 2) rfl g3 rfl 24 #[.slice (some ad2) l.length c0] (0, 0) _ ?hg Try.underlying24 rfl ?hi ?_; (case hg => exact BK3.out); (case hi => kernel_rfl)))
  refine (K1.out _ (Kd.C_below HC.out HB.out)).mono ?_
  rintro e wb ⟨rfl, hb⟩
  replace BK3 := Aside0.mk (blk_below BK3.out hb)
  replace BK7 := Aside0.mk (blk_below BK7.out hb)
  replace HB := Aside0.mk (below_step HB.out hb)
  clear hb
  clear hk3 hk70
  have hk71 : wb.cell? ⟨g7, 1, none⟩ = some (.slice M1 m.f1.length d1) := blk_cell BK7.out 1
  go_wp2_with (first | (at_builtin; refine Kd.R_append_rows Kd.string (w0 := w) w.heap.size rfl (.tmp 23) (.tmp 25) 30 9 _ 16 rfl Try.underlying30 info9 rfl (by decide) (by omega) (.slice none 0 0) [] m.f1 _ _ _ (fun _ => True) (fun _ => False) rfl rfl ?aO ?aR (fun _ _ h => h) (fun _ h => h.elim) (fun _ _ => trivial) ?aB ?aS ?aL ?_; (case aR => exact (Kd.C_below HC1.out HB.out)); (case aB => exact HB.out); (case aO => exact (Kd.R_nil _ _ _ _ _)); (case aS => exact (below_size HB.out)); (case aL => have := HSM.out; simp only [List.length_nil]; omega); intro v6 wc ho hb hgr hat; rw [List.nil_append] at ho; have HO := Aside0.mk ho; replace BK3 : Aside0 (wc.heap[g3]? = some (.cells #[.slice (some ad2) l.length c0] 24 (0, 0))) := ⟨blk_grown BK3.out hgr (by simp [Value.ownBlock])⟩; replace BK7 : Aside0 (wc.heap[g7]? = some (.cells #[.string m.f0, .slice M1 m.f1.length d1, .slice M2 m.f2.length d2, .slice M3 m.f3.length d3] 34 (0, 0))) := ⟨blk_grown BK7.out hgr (by simp [Value.ownBlock])⟩; replace HB := Aside0.mk hb; clear ho hb hgr hat))
  clear hk71
  replace HO : Aside0 (Kd.string.R 9 wc w.heap.size (fun _ => True) v6 (m.f1 ++ (m.f2.take 0).map (·.f1))) := ⟨by rw [List.take_zero, List.map_nil, List.append_nil]; exact HO.out⟩
  go_loopw [6, 7] (fun a b wr => ∃ i : Nat, b = .int .i64 (i : Int) ∧ i ≤ m.f2.length ∧ Aside0 (Kd.string.R 9 wr w.heap.size (fun _ => True) a (m.f1 ++ (m.f2.take i).map (·.f1))) ∧ Aside0 (wr.heap[g3]? = some (.cells #[.slice (some ad2) l.length c0] 24 (0, 0))) ∧ Aside0 (wr.heap[g7]? = some (.cells #[.string m.f0, .slice M1 m.f1.length d1, .slice M2 m.f2.length d2, .slice M3 m.f3.length d3] 34 (0, 0))) ∧ Aside0 (Below w.heap.size w wr)) (fun _ b _ => m.f2.length - (intOf b).toNat)
  case atStart => exact ⟨0, rfl, Nat.zero_le _, HO, BK3, BK7, HB⟩
  case round =>
    clear HO BK3 BK7 HB
    obtain ⟨i, rfl, hi, HO, BK3, BK7, HB⟩ := hrel
    have hk72 : wr.cell? ⟨g7, 2, none⟩ = some (.slice M2 m.f2.length d2) := blk_cell BK7.out 2
    have hg7 : g7 < wr.heap.size := blk_lt BK7.out
    by_cases hlt : i < m.f2.length
    · obtain ⟨ad, rfl, _, hx1, _, _⟩ := at59 (Kd.C_below HC2.out HB.out) i hlt
      have hbk := World.block_lt_of_cell? wr _ hx1
      have hst : m.f1 ++ (m.f2.take (i + 1)).map (·.f1) = (m.f1 ++ (m.f2.take i).map (·.f1)) ++ [m.f2[i].f1] := by rw [List.take_succ_eq_append_getElem hlt, List.map_append, List.append_assoc]; rfl
      have hll : (m.f1 ++ (m.f2.take i).map (·.f1)).length = m.f1.length + i := by rw [List.length_append, List.length_map, List.length_take]; omega
      obtain ⟨nm, hnm⟩ : ∃ nm, m.f2[i].f1 = nm := ⟨_, rfl⟩
      rw [hnm] at hx1 hst
      obtain ⟨T, hT⟩ : ∃ T, m.f1 ++ (m.f2.take i).map (·.f1) = T := ⟨_, rfl⟩
      rw [hT] at HO hst hll
      have HST := Aside0.mk hst
      have HTL : Aside0 ((T.length + 1) * 16 ≤ 140737488355328) := ⟨by have := HSM.out; omega⟩
      clear hnm hT hst hll
      go_wp2_with (first | (at_builtin; refine Kd.R_append Kd.string (w0 := w) w.heap.size rfl (.tmp 34) (.tmp 41) 30 9 _ 16 rfl Try.underlying30 info9 rfl (by decide) (by omega) u6 T nm [.string nm] (fun _ => True) (fun _ => False) rfl rfl ?hp (fun _ h => h.elim) (fun _ _ => trivial) ?hO ?hB ?hs ?hl ?_; (case hp => exact rfl); (case hO => exact HO.out); (case hB => exact HB.out); (case hs => exact below_size HB.out); (case hl => exact HTL.out); intro v1 w2 ho hb hgr hat; have HO2 := Aside0.mk ho; have BK32 : Aside0 (w2.heap[g3]? = some (.cells #[.slice (some ad2) l.length c0] 24 (0, 0))) := ⟨blk_grown BK3.out hgr (Kd.R_ne HO.out BK3.out (by decide))⟩; have BK72 : Aside0 (w2.heap[g7]? = some (.cells #[.string m.f0, .slice M1 m.f1.length d1, .slice (some ad) m.f2.length d2, .slice M3 m.f3.length d3] 34 (0, 0))) := ⟨blk_grown BK7.out hgr (Kd.R_ne HO.out BK7.out (by decide))⟩; have HB2 := Aside0.mk hb; clear ho hb hgr hat))
      go_roundw
      case rel => exact ⟨i + 1, by go_num, by omega, ⟨by rw [HST.out]; exact HO2.out⟩, BK32, BK72, HB2⟩
      case measure => simp [intOf]; omega
    · obtain rfl : i = m.f2.length := by omega
      rw [List.take_length] at HO
      replace HO : Aside0 (Kd.string.R 9 wr w.heap.size (fun _ => True) u6 L) := ⟨by rw [← HL.out]; exact HO.out⟩
      obtain ⟨LA, lc, rfl, hle, hC⟩ := Kd.R_reads HO.out
      have hlL : L.length ≤ 9223372036854775807 := hC.2.1
      have HLC := Aside0.mk hC
      have HDB : Aside0 (Below wr.heap.size wr wr) := ⟨Below.refl _ _⟩
      obtain ⟨wo, rfl⟩ : ∃ wo : World, wo = wr := ⟨_, rfl⟩
      clear hle hC HO
      go_wp2
      go_loopw [8] (fun v wr => ∃ i : Nat, v = .int .i64 (i : Int) ∧ i ≤ L.length ∧ Aside0 (fst (gTw L) (L.drop i) i = z) ∧ Aside0 (wr.heap[g3]? = some (.cells #[.slice (some ad2) l.length c0] 24 (0, 0))) ∧ Aside0 (wr.heap[g7]? = some (.cells #[.string m.f0, .slice M1 m.f1.length d1, .slice M2 m.f2.length d2, .slice M3 m.f3.length d3] 34 (0, 0))) ∧ Aside0 (Below wo.heap.size wo wr)) (fun v _ => L.length - (intOf v).toNat)
      case atStart => exact ⟨0, rfl, Nat.zero_le _, HZ, BK3, BK7, HDB⟩
      case round =>
        clear BK3 BK7 HDB hk72 hg7
        obtain ⟨i, rfl, hi, HI, BK3, BK7, HDB⟩ := hrel
        by_cases hlt : i < L.length
        · obtain ⟨zi, hzi⟩ : ∃ zi, fst (gEq L[i]) (L.take i) 0 = zi := ⟨_, rfl⟩
          have HZI := Aside0.mk hzi
          obtain ⟨wp_, rfl⟩ : ∃ wp_ : World, wp_ = wr := ⟨_, rfl⟩
          clear hzi
          go_wp2
          go_loopw [9] (fun v wr => ∃ j : Nat, v = .int .i64 (j : Int) ∧ j ≤ i ∧ Aside0 (fst (gEq L[i]) ((L.take i).drop j) j = zi) ∧ Aside0 (wr.heap[g3]? = some (.cells #[.slice (some ad2) l.length c0] 24 (0, 0))) ∧ Aside0 (wr.heap[g7]? = some (.cells #[.string m.f0, .slice M1 m.f1.length d1, .slice M2 m.f2.length d2, .slice M3 m.f3.length d3] 34 (0, 0))) ∧ Aside0 (Below wo.heap.size wo wr)) (fun v _ => i - (intOf v).toNat)
          case atStart => exact ⟨0, rfl, Nat.zero_le _, HZI, BK3, BK7, HDB⟩
          case round =>
            clear BK3 BK7 HDB
            obtain ⟨j, rfl, hj, HJ, BK3, BK7, HDB⟩ := hrel
            by_cases hltj : j < i
            · obtain ⟨ae, e1, hx0⟩ := atStr (Kd.C_below HLC.out HDB.out) i hlt
              have hjl : j < L.length := by omega
              obtain ⟨ae2, e2, hx1⟩ := atStr (Kd.C_below HLC.out HDB.out) j hjl
              obtain rfl := Option.some.inj (e1.symm.trans e2)
              have hjt : j < (L.take i).length := by rw [List.length_take]; omega
              have hget : (L.take i)[j] = L[j] := by simp
              have hi0 : (0 : Int) ≤ (i : Int) := by omega
              have hj0 : (0 : Int) ≤ (j : Int) := by omega
              have hi1 : (i : Int) < (L.length : Int) := by omega
              have hj1 : (j : Int) < (L.length : Int) := by omega
              have hji : (j : Int) < (i : Int) := by omega
              subst e1
              clear e2
              cases hq : (L[j].toList == L[i].toList)
              · have HE := (fst_miss (gEq L[i]) (L.take i) j hjt (by rw [hget]; exact if_neg (by simp [eqS, hq]))).symm.trans HJ.out
                go_wp2
                go_quiet (fail)
                go_wp2
                go_roundw
                case rel => exact ⟨j + 1, by go_num, by omega, ⟨HE⟩, BK3, BK7, ⟨pw_below_drewN HDB.out _⟩⟩
                case measure => simp [intOf]; omega
              · have HE := (fst_hit (gEq L[i]) (L.take i) j hjt (b := ()) (by rw [hget]; exact if_pos hq)).symm.trans HJ.out
                have HE2 := (fst_hit (gTw L) L i hlt (b := ()) (by unfold gTw; rw [HZI.out, ← HE])).symm.trans HI.out
                have HE3 : Aside0 (r = 50) := ⟨by rw [← HR.out, ← HE2]; rfl⟩
                clear HE HE2
                go_wp2
                go_quiet (fail)
                go_wp2
                go_ret
                exact ⟨by rw [HE3.out]; rfl, pw_below_drewN (below_step HB.out HDB.out) _⟩
            · have HE := (fst_end (gEq L[i]) (L.take i) j (by rw [List.length_take]; omega)).symm.trans HJ.out
              have HE2 := (fst_miss (gTw L) L i hlt (by unfold gTw; rw [HZI.out, ← HE])).symm.trans HI.out
              have hji : (i : Int) ≤ (j : Int) := by omega
              clear HE
              go_wp2
              go_roundw
              case rel => exact ⟨i + 1, by go_num, by omega, ⟨HE2⟩, BK3, BK7, HDB⟩
              case measure => simp [intOf]; omega
        · have HE := (fst_end (gTw L) L i (by omega)).symm.trans HI.out
          have hr := HR.out
          rw [← HE, if_neg (by simp)] at hr
          replace HB : Aside0 (Below w.heap.size w wr) := ⟨below_step HB.out HDB.out⟩
          have hk3 : wr.cell? ⟨g3, 0, none⟩ = some (.slice (some ad2) l.length c0) := blk_cell BK3.out 0
          have hk71 : wr.cell? ⟨g7, 1, none⟩ = some (.slice M1 m.f1.length d1) := blk_cell BK7.out 1
          obtain ⟨wq, rfl⟩ : ∃ wq : World, wq = wr := ⟨_, rfl⟩
          clear HR HE HDB HLC HI
          by_cases hlast : (n : Int) = (l.length : Int) - 1 ∧ 0 < m.f1.length
          · have HE3 : Aside0 (r = 1) := ⟨by rw [← hr, if_pos hlast]⟩
            have h1 : ((n : Int) == (l.length : Int) - 1) = true := by simp; exact hlast.1
            have h2 : 0 < m.f1.length := hlast.2
            have h3 : (0 : Int) < (m.f1.length : Int) := by omega
            clear hr hlast
            go_wp2
            go_ret
            exact ⟨by rw [HE3.out]; rfl, HB.out⟩
          rw [if_neg hlast] at hr
          have HR := Aside0.mk hr
          have hcond : ((n : Int) == (l.length : Int) - 1) = false ∨ (((n : Int) == (l.length : Int) - 1) = true ∧ (m.f1.length : Int) ≤ 0) := by
            by_cases hh : (n : Int) = (l.length : Int) - 1
            · right; exact ⟨by simp; exact hh, by omega⟩
            · left; simp; exact hh
          clear hr hlast
          rcases hcond with h1 | ⟨h1, h2⟩
          · go_wp2
            go_loopw [10] (fun v wr => ∃ i : Nat, v = .int .i64 (i : Int) ∧ i ≤ P.length ∧ Aside0 (fst (gFree m.f1) (P.drop i) i = y) ∧ Aside0 (wr.heap[g7]? = some (.cells #[.string m.f0, .slice M1 m.f1.length d1, .slice M2 m.f2.length d2, .slice M3 m.f3.length d3] 34 (0, 0))) ∧ Aside0 (Below w.heap.size w wr)) (fun v _ => P.length - (intOf v).toNat)
            case atStart => exact ⟨0, rfl, Nat.zero_le _, HY, BK7, HB⟩
            case round =>
              clear BK3 BK7 HB hk3 hk71
              obtain ⟨i, rfl, hi, HI, BK7, HB⟩ := hrel
              have hm70 : wr.cell? ⟨g7, 0, none⟩ = some (.string m.f0) := blk_cell BK7.out 0
              have hm71 : wr.cell? ⟨g7, 1, none⟩ = some (.slice M1 m.f1.length d1) := blk_cell BK7.out 1
              have hm72 : wr.cell? ⟨g7, 2, none⟩ = some (.slice M2 m.f2.length d2) := blk_cell BK7.out 2
              have hm73 : wr.cell? ⟨g7, 3, none⟩ = some (.slice M3 m.f3.length d3) := blk_cell BK7.out 3
              have hg7 : g7 < wr.heap.size := blk_lt BK7.out
              by_cases hlt : i < P.length
              · have hlt2 : i < m.f2.length := by omega
                have hlt3 : (i : Int) < (m.f2.length : Int) := by omega
                obtain ⟨ad, rfl, _, _, hx2, hx3⟩ := at59 (Kd.C_below HC2.out HB.out) i hlt2
                have hbk := World.block_lt_of_cell? wr _ hx2
                have hpe : P[i] = m.f2[i].f2 := by simp [← HP.out]
                obtain ⟨q, hq⟩ : ∃ q, m.f2[i].f2 = q := ⟨_, rfl⟩
                have HQ := Aside0.mk (hpe.trans hq)
                rw [hq] at hx2 hx3
                have KF := Aside0.mk (fun cs w' hk => free_any m cs q w' hk)
                obtain ⟨fb, hfb⟩ : ∃ b, freeS m.f1 q = b := ⟨_, rfl⟩
                rw [hfb] at KF
                have HFB := Aside0.mk hfb
                clear hq hfb hpe
                go_wp2
                go_region_held3 (fun w' => w'.cell? ⟨g7, 0, none⟩ = some (.string m.f0) ∧ w'.cell? ⟨g7, 1, none⟩ = some (.slice M1 m.f1.length d1) ∧ w'.cell? ⟨g7, 2, none⟩ = some (.slice (some ad) m.f2.length d2) ∧ w'.cell? ⟨g7, 3, none⟩ = some (.slice M3 m.f3.length d3) ∧ w'.cell? ⟨(ad.add (i * 4)).block, (ad.add (i * 4)).off + 2, none⟩ = some (.string q.f0) ∧ w'.cell? ⟨(ad.add (i * 4)).block, (ad.add (i * 4)).off + 3, none⟩ = some (.int .i64 q.f1))
                  (go_keep)
                  (first | (go_at_call 48; refine (KF.out _ _ (k34.K_below (below_drew HB.out) HMK.out)).mono ?_; rintro e we ⟨rfl, hb⟩; obtain ⟨hc, hf⟩ := bcell (below_step (below_drew (Below.refl wr.heap.size wr)) hb)))
                replace BK7 := Aside0.mk (blk_below (blk_drew BK7.out) hb)
                replace HB := Aside0.mk (below_step (below_drew HB.out) hb)
                clear hc hf hb hx2 hx3 hbk hm70 hm71 hm72 hm73 hg7
                cases fb
                · have HE := (fst_miss (gFree m.f1) P i hlt (by unfold gFree; rw [HQ.out, HFB.out]; rfl)).symm.trans HI.out
                  go_wp2
                  go_roundw
                  case rel => exact ⟨i + 1, by go_num, by omega, ⟨HE⟩, BK7, HB⟩
                  case measure => simp [intOf]; omega
                · have HE := (fst_hit (gFree m.f1) P i hlt (b := ()) (by unfold gFree; rw [HQ.out, HFB.out]; rfl)).symm.trans HI.out
                  have HE2 : Aside0 (r = 40) := ⟨by rw [← HR.out, ← HE]; rfl⟩
                  clear HE
                  go_wp2
                  go_ret
                  exact ⟨by rw [HE2.out]; rfl, HB.out⟩
              · have HE := (fst_end (gFree m.f1) P i (by omega)).symm.trans HI.out
                have HE2 : Aside0 (r = 0) := ⟨by rw [← HR.out, ← HE]; rfl⟩
                have hge : (m.f2.length : Int) ≤ (i : Int) := by omega
                clear HE
                go_wp2
                go_ret
                exact ⟨by rw [HE2.out]; rfl, HB.out⟩
          · have h2e : (m.f1.length : Int) = 0 := by omega
            clear h2
            go_wp2
            go_loopw [10] (fun v wr => ∃ i : Nat, v = .int .i64 (i : Int) ∧ i ≤ P.length ∧ Aside0 (fst (gFree m.f1) (P.drop i) i = y) ∧ Aside0 (wr.heap[g7]? = some (.cells #[.string m.f0, .slice M1 m.f1.length d1, .slice M2 m.f2.length d2, .slice M3 m.f3.length d3] 34 (0, 0))) ∧ Aside0 (Below w.heap.size w wr)) (fun v _ => P.length - (intOf v).toNat)
            case atStart => exact ⟨0, rfl, Nat.zero_le _, HY, BK7, HB⟩
            case round =>
              clear BK3 BK7 HB hk3 hk71
              obtain ⟨i, rfl, hi, HI, BK7, HB⟩ := hrel
              have hm70 : wr.cell? ⟨g7, 0, none⟩ = some (.string m.f0) := blk_cell BK7.out 0
              have hm71 : wr.cell? ⟨g7, 1, none⟩ = some (.slice M1 m.f1.length d1) := blk_cell BK7.out 1
              have hm72 : wr.cell? ⟨g7, 2, none⟩ = some (.slice M2 m.f2.length d2) := blk_cell BK7.out 2
              have hm73 : wr.cell? ⟨g7, 3, none⟩ = some (.slice M3 m.f3.length d3) := blk_cell BK7.out 3
              have hg7 : g7 < wr.heap.size := blk_lt BK7.out
              by_cases hlt : i < P.length
              · have hlt2 : i < m.f2.length := by omega
                have hlt3 : (i : Int) < (m.f2.length : Int) := by omega
                obtain ⟨ad, rfl, _, _, hx2, hx3⟩ := at59 (Kd.C_below HC2.out HB.out) i hlt2
                have hbk := World.block_lt_of_cell? wr _ hx2
                have hpe : P[i] = m.f2[i].f2 := by simp [← HP.out]
                obtain ⟨q, hq⟩ : ∃ q, m.f2[i].f2 = q := ⟨_, rfl⟩
                have HQ := Aside0.mk (hpe.trans hq)
                rw [hq] at hx2 hx3
                have KF := Aside0.mk (fun cs w' hk => free_any m cs q w' hk)
                obtain ⟨fb, hfb⟩ : ∃ b, freeS m.f1 q = b := ⟨_, rfl⟩
                rw [hfb] at KF
                have HFB := Aside0.mk hfb
                clear hq hfb hpe
                go_wp2
                go_region_held3 (fun w' => w'.cell? ⟨g7, 0, none⟩ = some (.string m.f0) ∧ w'.cell? ⟨g7, 1, none⟩ = some (.slice M1 m.f1.length d1) ∧ w'.cell? ⟨g7, 2, none⟩ = some (.slice (some ad) m.f2.length d2) ∧ w'.cell? ⟨g7, 3, none⟩ = some (.slice M3 m.f3.length d3) ∧ w'.cell? ⟨(ad.add (i * 4)).block, (ad.add (i * 4)).off + 2, none⟩ = some (.string q.f0) ∧ w'.cell? ⟨(ad.add (i * 4)).block, (ad.add (i * 4)).off + 3, none⟩ = some (.int .i64 q.f1))
                  (go_keep)
                  (first | (go_at_call 48; refine (KF.out _ _ (k34.K_below (below_drew HB.out) HMK.out)).mono ?_; rintro e we ⟨rfl, hb⟩; obtain ⟨hc, hf⟩ := bcell (below_step (below_drew (Below.refl wr.heap.size wr)) hb)))
                replace BK7 := Aside0.mk (blk_below (blk_drew BK7.out) hb)
                replace HB := Aside0.mk (below_step (below_drew HB.out) hb)
                clear hc hf hb hx2 hx3 hbk hm70 hm71 hm72 hm73 hg7
                cases fb
                · have HE := (fst_miss (gFree m.f1) P i hlt (by unfold gFree; rw [HQ.out, HFB.out]; rfl)).symm.trans HI.out
                  go_wp2
                  go_roundw
                  case rel => exact ⟨i + 1, by go_num, by omega, ⟨HE⟩, BK7, HB⟩
                  case measure => simp [intOf]; omega
                · have HE := (fst_hit (gFree m.f1) P i hlt (b := ()) (by unfold gFree; rw [HQ.out, HFB.out]; rfl)).symm.trans HI.out
                  have HE2 : Aside0 (r = 40) := ⟨by rw [← HR.out, ← HE]; rfl⟩
                  clear HE
                  go_wp2
                  go_ret
                  exact ⟨by rw [HE2.out]; rfl, HB.out⟩
              · have HE := (fst_end (gFree m.f1) P i (by omega)).symm.trans HI.out
                have HE2 : Aside0 (r = 0) := ⟨by rw [← HR.out, ← HE]; rfl⟩
                have hge : (m.f2.length : Int) ≤ (i : Int) := by omega
                clear HE
                go_wp2
                go_ret
                exact ⟨by rw [HE2.out]; rfl, HB.out⟩
end Go.Proofs.Ytnfhlhjbmcofoaa.S
