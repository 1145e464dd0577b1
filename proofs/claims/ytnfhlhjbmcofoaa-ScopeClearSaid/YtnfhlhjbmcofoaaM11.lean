/- Scope: walks and plain laws of this seat's functions, merged out of smaller texts of this session (ScAc, ScAd, ScAe, ScAf). -/
import Derived.Test.YtnfhlhjbmcofoaaM10
import Derived.Test.YtnfhlhjbmcofoaaM06
import Derived.Test.YtnfhlhjbmcofoaaM07
import Derived.Lib.MinMax
namespace Go.Proofs.Ytnfhlhjbmcofoaa.S
open Go.RowKit Go.Proofs.YtnfhlhjbmcofoaaW.PrintWords Go.Proofs.YtnfhlhjbmcofoaaW.PrintLast
set_option linter.unusedVariables false
set_option linter.unusedSimpArgs false
def namesS (its : List S49) : List ByteArray := (its.filter fun x => namedS x.f0).map (·.f1)
theorem has_app (a b : List ByteArray) (s : ByteArray) : hasStr (a ++ b) s = (hasStr a s || hasStr b s) := by
  rw [Bool.eq_iff_iff, Bool.or_eq_true, has_iff, has_iff, has_iff]
  constructor
  · rintro ⟨x, hx, h⟩
    rcases List.mem_append.1 hx with hx | hx
    · exact .inl ⟨x, hx, h⟩
    · exact .inr ⟨x, hx, h⟩
  · rintro (⟨x, hx, h⟩ | ⟨x, hx, h⟩)
    · exact ⟨x, List.mem_append.2 (.inl hx), h⟩
    · exact ⟨x, List.mem_append.2 (.inr hx), h⟩
theorem has_ports (l : List S59) (s : ByteArray) : (fst (gPn s) l 0).isSome = hasStr (l.map (·.f1)) s := by
  rw [Bool.eq_iff_iff, has_iff, fst_isSome]
  constructor
  · rintro ⟨j, h, hj⟩
    refine ⟨l[j].f1, List.mem_map.2 ⟨l[j], List.getElem_mem h, rfl⟩, ?_⟩
    unfold gPn at hj
    split at hj
    · assumption
    · simp at hj
  · rintro ⟨x, hx, h⟩
    obtain ⟨p, hp, rfl⟩ := List.mem_map.1 hx
    obtain ⟨j, hj, rfl⟩ := List.getElem_of_mem hp
    refine ⟨j, hj, ?_⟩
    unfold gPn
    rw [if_pos h]; rfl
theorem has_items (l : List S49) (s : ByteArray) : (fst (gNm s) l 0).isSome = hasStr (namesS l) s := by
  rw [Bool.eq_iff_iff, has_iff, fst_isSome]
  unfold namesS
  constructor
  · rintro ⟨j, h, hj⟩
    unfold gNm at hj
    split at hj
    · rename_i hq
      exact ⟨l[j].f1, List.mem_map.2 ⟨l[j], List.mem_filter.2 ⟨List.getElem_mem h, hq.1⟩, rfl⟩, hq.2⟩
    · simp at hj
  · rintro ⟨x, hx, h⟩
    obtain ⟨p, hp, rfl⟩ := List.mem_map.1 hx
    obtain ⟨hp, hn⟩ := List.mem_filter.1 hp
    obtain ⟨j, hj, rfl⟩ := List.getElem_of_mem hp
    refine ⟨j, hj, ?_⟩
    unfold gNm
    rw [if_pos ⟨hn, h⟩]; rfl
theorem ahead_eq (m : S34) (its : List S49) (s : ByteArray) : hasStr (headS m ++ namesS its) s = nameS m its s := by
  unfold nameS headS
  rw [has_app, has_app, ← has_param, has_ports, has_items]
theorem sitem_eq (l : List S34) (n : Int) (m : S34) (its : List S49) (x : S49) : sitemS l n m (headS m ++ namesS its) x = itemS l n m its x := by
  unfold sitemS itemS skindS
  rw [ahead_eq, dims_fst]
  by_cases h1 : namedS x.f0 = true ∧ nameS m its x.f1 = true
  · rw [if_pos h1, if_pos h1]
  · rw [if_neg h1, if_neg h1]
    by_cases h2 : kindOfS l n m x = 0
    · rw [h2]
      simp only [ne_eq, not_true_eq_false, if_false]
      by_cases h3 : (fst (gFree m.f1) (dimsL x) 0).isSome = true
      · rw [if_pos h3, if_pos h3]; rfl
      · rw [if_neg h3, if_neg h3]; rfl
    · simp [h2]
theorem names_step (its : List S49) (i : Nat) (h : i < its.length) : namesS (its.take (i + 1)) = namesS (its.take i) ++ if namedS its[i].f0 = true then [its[i].f1] else [] := by
  unfold namesS
  rw [List.take_succ_eq_append_getElem h, List.filter_append, List.map_append]
  congr 1
  by_cases hn : namedS its[i].f0 = true
  · simp [hn]
  · simp [hn]
theorem names_len (its : List S49) : (namesS its).length ≤ its.length := by
  unfold namesS
  rw [List.length_map]
  exact List.length_filter_le _ _
theorem k40E : k40.E = [] := rfl
theorem sitemAt (A0 : Option Addr) (c0 : Nat) (l : List S34) (m : S34) (n : Int) (hsm : ∀ m ∈ l, m.f2.length ≤ 1000) (i : Nat) (hi : i < m.f3.length) (hB : B49 m.f3[i]) (cs cx : List Value) (HA : Option Addr) (hcap : Nat) (w : World) (h : LookAt w A0 c0 l m cs) (hx : k49.K w m.f3[i] cx) (hL : Kd.C Kd.string w HA (headS m ++ namesS (m.f3.take i)).length (headS m ++ namesS (m.f3.take i))) :
    Calls Try.prog 28 #[.agg cs.toArray, .agg cx.toArray, .int .i64 n, .slice HA (headS m ++ namesS (m.f3.take i)).length hcap] w fun e w' => e = .returned (.int .i64 (itemS l n m (m.f3.take i) m.f3[i])) ∧ Below w.heap.size w w' := by
  have := sitem_any A0 c0 l m cs cx m.f3[i] n HA hcap _ w h hx hL hsm hB
  rw [sitem_eq] at this
  exact this
set_option maxHeartbeats 64000000 in
set_option maxRecDepth 100000 in
theorem scheck_any (A0 : Option Addr) (c0 : Nat) (l : List S34) (w : World) (h0 : Kd.C k34 w A0 l.length l) (hsm : Sml l) (hB : ∀ m ∈ l, ∀ x ∈ m.f3, B49 x) :
    Calls Try.prog 14 #[.agg #[.slice A0 l.length c0]] w (RetC k40 (checkS l) w) := by
  have HC := Aside0.mk h0
  have hm : l.length ≤ 9223372036854775807 := h0.2.1
  have HSM := Aside0.mk hsm
  have HBB := Aside0.mk hB
  have HB : Aside0 (Below w.heap.size w w) := ⟨Below.refl _ _⟩
  unfold checkS
  clear h0 hsm hB
  by_cases hl0 : l.length = 0
  · rw [if_pos hl0]
    have hl1 : ((l.length : Int) == 0) = true := by simp; exact List.length_eq_zero_iff.1 hl0
    have hl2 : (l.length : Int) = 0 := by omega
    clear hl0
    go_enter Try.func14, Try.ntmps14
    go_wp2_with (first | ((with_reducible refine gate_dst (N := 1) rfl ?_); refine box_event ?hg (N := 1) ?hd (cs := #[.slice A0 l.length c0]) (t := 24) ?hr ?_; (case hd => rfl); (case hg => rfl); (case hr => first | (go_simp; done) | (go_simp; rfl)); intro g1 hg_ w1 hbox_ hb_; have BK1 := Aside0.mk (hbox_); have GBK1 : Aside0 (w.heap.size ≤ g1) := ⟨by rw [hg_]; exact below_size HB.out⟩; replace HB : Aside0 (Below w.heap.size w w1) := ⟨below_step HB.out hb_⟩; clear hg_ hbox_ hb_; have hk1 : w1.cell? ⟨g1, 0, none⟩ = some (.slice A0 l.length c0) := blk_cell BK1.out 0) | ((with_reducible refine gate_dst (N := 17) rfl ?_); refine Kd.R_lit k40 _ 40 ?hg (N := 17) ?hd (xs := [⟨51, 0, 0, -1⟩]) (inner := [.int .i64 51, .int .i64 0, .int .i64 0, .int .i64 (-1)]) (ok := fun _ => True) (okp := fun _ => True) ?hr ?hp (fun _ hk => hk) trivial (Below.refl _ _) (Nat.le_refl _) (by simp) ?_; (case hd => rfl); (case hg => rfl); (case hr => first | (go_simp; done) | (go_simp; rfl)); (case hp => exact (Reps.snoc (Reps.none _ _) (k40_mkM _ _ _ _) rfl)); intro v_ wl ho_ hb_ hg_ hn_; have HO : Aside0 (k40.R 40 wl w1.heap.size (fun _ => True) v_ [⟨51, 0, 0, -1⟩]) := ⟨ho_⟩; have HBL : Aside0 (Below w.heap.size w wl) := ⟨below_step HB.out hb_⟩; clear ho_ hb_ hg_ hn_))
    go_ret
    obtain ⟨A, c, rfl, hle, hC⟩ := Kd.R_reads HO.out
    exact ⟨A, c, rfl, hle, hC, HBL.out⟩
  rw [if_neg hl0]
  have hl1 : ((l.length : Int) == 0) = false := by simp; intro h; exact hl0 (by rw [h]; rfl)
  obtain ⟨ad2, _, rfl, _, _⟩ := el_get HC.out 0 (by omega)
  obtain ⟨CL, hCL⟩ : ∃ CL, (List.range l.length).flatMap (modF l) = CL := ⟨_, rfl⟩
  rw [hCL]
  have HCL := Aside0.mk hCL
  clear hCL
  go_enter Try.func14, Try.ntmps14
  go_wp2_with (first | ((with_reducible refine gate_dst (N := 1) rfl ?_); refine box_event ?hg (N := 1) ?hd (cs := #[.slice (some ad2) l.length c0]) (t := 24) ?hr ?_; (case hd => rfl); (case hg => rfl); (case hr => first | (go_simp; done) | (go_simp; rfl)); intro g1 hg_ w1 hbox_ hb_; have BK1 := Aside0.mk (hbox_); have GBK1 : Aside0 (w.heap.size ≤ g1) := ⟨by rw [hg_]; exact below_size HB.out⟩; replace HB : Aside0 (Below w.heap.size w w1) := ⟨below_step HB.out hb_⟩; clear hg_ hbox_ hb_; have hk1 : w1.cell? ⟨g1, 0, none⟩ = some (.slice (some ad2) l.length c0) := blk_cell BK1.out 0))
  clear hk1
  have HO : Aside0 (k40.R 40 w1 w.heap.size (fun _ => True) (.slice none 0 0) ((List.range 0).flatMap (modF l))) := ⟨Kd.R_nil _ _ _ _ _⟩
  go_loopw [3, 21] (fun a b wr => ∃ n : Nat, b = .int .i64 (n : Int) ∧ n ≤ l.length ∧ Aside0 (k40.R 40 wr w.heap.size (fun _ => True) a ((List.range n).flatMap (modF l))) ∧ Aside0 (wr.heap[g1]? = some (.cells #[.slice (some ad2) l.length c0] 24 (0, 0))) ∧ Aside0 (Below w.heap.size w wr)) (fun _ b _ => l.length - (intOf b).toNat)
  case atStart => exact ⟨0, rfl, Nat.zero_le _, HO, BK1, HB⟩
  case round =>
    clear HO BK1 HB
    obtain ⟨n, rfl, hn, HO, BK1, HB⟩ := hrel
    by_cases hlt : n < l.length
    · have hnl2 : (n : Int) < (l.length : Int) := by omega
      have hnn : (0 : Int) ≤ (n : Int) := by omega
      have hln := flat_len (modF l) 1001 n (fun i _ => modF_len l i HSM.out)
      have hlm := HSM.out.1
      have hsml := HSM.out.2 l[n] (List.getElem_mem hlt)
      have hsm2 : ∀ m ∈ l, m.f2.length ≤ 1000 := fun m hm => (HSM.out.2 m hm).2.1
      have hst : (List.range (n + 1)).flatMap (modF l) = (List.range n).flatMap (modF l) ++ modF l n := flat_step _ _
      have hmf : modF l n = (if moduleS l n l[n] ≠ 0 then [⟨moduleS l n l[n], 0, n, -1⟩] else []) ++ itemsF l n l[n] l[n].f3.length := by unfold modF; rw [List.getElem?_eq_getElem hlt]
      rw [hmf] at hst
      obtain ⟨T, hT⟩ : ∃ T, (List.range n).flatMap (modF l) = T := ⟨_, rfl⟩
      rw [hT] at hst hln HO
      obtain ⟨ad2', cm, e9, hKm, hcm⟩ := el_get HC.out n hlt
      obtain rfl := Option.some.inj e9
      have hbb := fun i (hi : i < l[n].f3.length) => HBB.out _ (List.getElem_mem hlt) _ (List.getElem_mem hi)
      obtain ⟨m, hm⟩ : ∃ m, l[n] = m := ⟨_, rfl⟩
      simp only [hm] at hsml hst hKm hbb
      obtain ⟨M1, d1, M2, d2, M3, d3, rfl, hq1, hC1, hq2, hC2, hq3, hC3⟩ := k34_open hKm
      have HMK := Aside0.mk hKm
      have HMC := Aside0.mk hcm
      have HLE := Aside0.mk (And.intro hq1 (And.intro hq2 hq3))
      have HM1 := Aside0.mk hC1
      have HM2 := Aside0.mk hC2
      have HM3 := Aside0.mk hC3
      have KM := Aside0.mk (fun cs w' (hLK : LookAt w' (some ad2) c0 l m cs) => smodule_any (some ad2) c0 l m cs n hlt w' hLK ⟨hsml.1, hsml.2.1⟩)
      have KH := Aside0.mk (fun cs w' hk => shead_any m cs w' hk ⟨hsml.1, hsml.2.1⟩)
      obtain ⟨e, he⟩ : ∃ e, moduleS l n m = e := ⟨_, rfl⟩
      simp only [he] at KM hst
      have KI := Aside0.mk (fun (i : Nat) (hi : i < m.f3.length) cs cx HA hcap w' hLK hx hL => sitemAt (some ad2) c0 l m n hsm2 i hi (hbb i hi) cs cx HA hcap w' hLK hx hL)
      have HST := Aside0.mk hst
      have hT1 : T.length ≤ 1001000 := by have : n * 1001 ≤ 999 * 1001 := Nat.mul_le_mul_right _ (by omega); omega
      have HTL : Aside0 ((T.length + 1) * 32 ≤ 140737488355328) := ⟨by omega⟩
      have HS3 := Aside0.mk hsml
      have hm3 : m.f3.length ≤ 1000 := hsml.2.2
      clear hst hmf hT he hln hlm hsml hm hbb hsm2 hKm hcm e9 hq1 hC1 hq2 hC2 hq3 hC3
      go_wp2_with (first | ((with_reducible refine gate_dst (N := 25) rfl ?_); refine wpList_load_cells rfl 34 (.tmp 24) rfl _ rfl [.string m.f0, .slice M1 m.f1.length d1, .slice M2 m.f2.length d2, .slice M3 m.f3.length d3] ?hc _ Try.underlying34 rfl ?hq9 ?_; (case hc => exact HMC.out _ HB.out); (case hq9 => kernel_rfl)) | ((with_reducible refine gate_dst (N := 5) rfl ?_); refine box_event ?hg (N := 5) ?hd (cs := #[.string ⟨#[]⟩, .slice none 0 0, .slice none 0 0, .slice none 0 0]) (t := 34) ?hr ?_; (case hd => rfl); (case hg => rfl); (case hr => first | (go_simp; done) | (go_simp; rfl)); intro g5 hg_ w50 hbox_ hb_; replace BK1 := Aside0.mk (blk_below BK1.out hb_); have BZg5 := Aside0.mk (hbox_); have GBZg5 : Aside0 (w.heap.size ≤ g5) := ⟨by rw [hg_]; exact below_size HB.out⟩; replace HB : Aside0 (Below w.heap.size w w50) := ⟨below_step HB.out hb_⟩; have HVg5 : Aside0 (wr.heap.size ≤ g5 ∧ Below wr.heap.size wr w50) := ⟨Nat.le_of_eq hg_.symm, hb_⟩; clear hg_ hbox_ hb_) | ((with_reducible refine gate_ (.store 34 (.tmp 5) (.tmp 25)) rfl ?_); refine wpList_store_box rfl rfl 34 (.tmp 5) (.tmp 25) rfl (g := g5) (e := 34) [.string m.f0, .slice M1 m.f1.length d1, .slice M2 m.f2.length d2, .slice M3 m.f3.length d3] rfl rfl BZg5.out rfl ?hq9 ?h1 ?_; (case hq9 => kernel_rfl); (case h1 => simp [Value.oneCell']); intro w5 hbx_ hfar_ hsz_ hbel_; replace BK1 := Aside0.mk ((hfar_ _ (blk_ne BK1.out BZg5.out (by decide))).trans BK1.out); have BK5 := Aside0.mk (hbx_); replace HB : Aside0 (Below w.heap.size w w5) := ⟨hbel_ _ GBZg5.out w HB.out⟩; replace HO := Aside0.mk (Kd.R_below HO.out (hbel_ _ HVg5.out.1 _ HVg5.out.2)); have hk53 : w5.cell? ⟨g5, 3, none⟩ = some (.slice M3 m.f3.length d3) := blk_cell hbx_ 3; have hk1 : w5.cell? ⟨g1, 0, none⟩ = some (.slice (some ad2) l.length c0) := blk_cell BK1.out 0; clear HVg5 hbx_ hfar_ hsz_ hbel_ BZg5) | ((with_reducible refine gate_dst (N := 26) rfl ?_); refine wpList_load_row rfl 24 (.tmp 1) rfl g1 rfl 24 #[.slice (some ad2) l.length c0] (0, 0) _ ?hg Try.underlying24 rfl ?hq9 ?_; (case hg => exact BK1.out); (case hq9 => kernel_rfl)) | ((with_reducible refine gate_dst (N := 27) rfl ?_); refine wpList_load_row rfl 34 (.tmp 5) rfl g5 rfl 34 #[.string m.f0, .slice M1 m.f1.length d1, .slice M2 m.f2.length d2, .slice M3 m.f3.length d3] (0, 0) _ ?hg Try.underlying34 rfl ?hq9 ?_; (case hg => exact BK5.out); (case hq9 => kernel_rfl)) | ((with_reducible refine gate_dst (N := 6) rfl ?_); refine box_event ?hg (N := 6) ?hd (cs := #[.slice none 0 0, .string ⟨#[]⟩, .slice none 0 0, .slice none 0 0, .slice none 0 0]) (t := 67) ?hr ?_; (case hd => rfl); (case hg => rfl); (case hr => first | (go_simp; done) | (go_simp; rfl)); intro g6 hg_ w60 hbox_ hb_; replace BK1 := Aside0.mk (blk_below BK1.out hb_); replace BK5 := Aside0.mk (blk_below BK5.out hb_); have BZg6 := Aside0.mk (hbox_); have GBZg6 : Aside0 (w.heap.size ≤ g6) := ⟨by rw [hg_]; exact below_size HB.out⟩; replace HB : Aside0 (Below w.heap.size w w60) := ⟨below_step HB.out hb_⟩; have HVg6 : Aside0 (w5.heap.size ≤ g6 ∧ Below w5.heap.size w5 w60) := ⟨Nat.le_of_eq hg_.symm, hb_⟩; clear hg_ hbox_ hb_) | ((with_reducible refine gate_ (.store 67 (.tmp 6) (.tmp 28)) rfl ?_); refine wpList_store_box rfl rfl 67 (.tmp 6) (.tmp 28) rfl (g := g6) (e := 67) [.slice (some ad2) l.length c0, .string m.f0, .slice M1 m.f1.length d1, .slice M2 m.f2.length d2, .slice M3 m.f3.length d3] rfl rfl BZg6.out rfl ?hq9 ?h1 ?_; (case hq9 => kernel_rfl); (case h1 => simp [Value.oneCell']); intro w6 hbx_ hfar_ hsz_ hbel_; replace BK1 := Aside0.mk ((hfar_ _ (blk_ne BK1.out BZg6.out (by decide))).trans BK1.out); replace BK5 := Aside0.mk ((hfar_ _ (blk_ne BK5.out BZg6.out (by decide))).trans BK5.out); have BK6 := Aside0.mk (hbx_); replace HB : Aside0 (Below w.heap.size w w6) := ⟨hbel_ _ GBZg6.out w HB.out⟩; replace HO := Aside0.mk (Kd.R_below HO.out (hbel_ _ HVg6.out.1 _ HVg6.out.2)); clear HVg6 hbx_ hfar_ hsz_ hbel_ BZg6) | ((with_reducible refine gate_dst (N := 29) rfl ?_); refine wpList_load_row rfl 67 (.tmp 6) rfl g6 rfl 67 #[.slice (some ad2) l.length c0, .string m.f0, .slice M1 m.f1.length d1, .slice M2 m.f2.length d2, .slice M3 m.f3.length d3] (0, 0) _ ?hg Try.underlying67 rfl ?hq9 ?_; (case hg => exact BK6.out); (case hq9 => kernel_rfl)))
      refine (KM.out _ _ ⟨Kd.C_below HC.out HB.out, M1, d1, M2, d2, M3, d3, rfl, k34.K_below HB.out HMK.out, HLE.out.1, Kd.C_below HM1.out HB.out, HLE.out.2.1, Kd.C_below HM2.out HB.out, HLE.out.2.2, Kd.C_below HM3.out HB.out⟩).mono ?_
      rintro e' wb ⟨rfl, hb⟩
      replace HO := Aside0.mk (Kd.R_below HO.out hb)
      replace BK1 := Aside0.mk (blk_below BK1.out hb)
      replace BK5 := Aside0.mk (blk_below BK5.out hb)
      replace BK6 := Aside0.mk (blk_below BK6.out hb)
      replace HB := Aside0.mk (below_step HB.out hb)
      clear hb
      clear hk53 hk1
      by_cases he0 : e = 0
      · subst he0
        have hst := HST.out
        rw [if_neg (by decide), List.nil_append] at hst
        replace HST := Aside0.mk hst
        clear hst
        go_wp2_with (first | ((with_reducible refine gate_dst (N := 40) rfl ?_); refine wpList_load_row rfl 34 (.tmp 5) rfl g5 rfl 34 #[.string m.f0, .slice M1 m.f1.length d1, .slice M2 m.f2.length d2, .slice M3 m.f3.length d3] (0, 0) _ ?hg Try.underlying34 rfl ?hq9 ?_; (case hg => exact BK5.out); (case hq9 => kernel_rfl)))
        refine (KH.out _ _ (k34.K_below HB.out HMK.out)).mono ?_
        rintro e' wh ⟨vh, rfl, hho, hb⟩
        have hk53 : wh.cell? ⟨g5, 3, none⟩ = some (.slice M3 m.f3.length d3) := blk_cell (blk_below BK5.out hb) 3
        replace HO := Aside0.mk (Kd.R_below HO.out hb)
        have HN : Aside0 (Kd.string.R 9 wh w.heap.size (fun _ => True) vh (headS m ++ namesS (m.f3.take 0))) := ⟨by rw [List.take_zero, show namesS [] = [] from rfl, List.append_nil]; exact Kd.R_lower hho (below_size HB.out)⟩
        replace HO : Aside0 (k40.R 40 wh w.heap.size (fun _ => True) u3 (T ++ itemsF l n m 0)) := ⟨by simpa [itemsF] using HO.out⟩
        replace BK1 := Aside0.mk (blk_below BK1.out hb)
        replace BK6 := Aside0.mk (blk_below BK6.out hb)
        replace HB := Aside0.mk (below_step HB.out hb)
        clear hb

        clear hho BK5
        go_wp2
        clear hk53
        go_loopw [3, 8, 45] (fun a b c wr => ∃ i : Nat, c = .int .i64 (i : Int) ∧ i ≤ m.f3.length ∧ Aside0 (k40.R 40 wr w.heap.size (fun _ => True) a (T ++ itemsF l n m i)) ∧ Aside0 (Kd.string.R 9 wr w.heap.size (fun _ => True) b (headS m ++ namesS (m.f3.take i))) ∧ Aside0 (wr.heap[g1]? = some (.cells #[.slice (some ad2) l.length c0] 24 (0, 0))) ∧ Aside0 (wr.heap[g6]? = some (.cells #[.slice (some ad2) l.length c0, .string m.f0, .slice M1 m.f1.length d1, .slice M2 m.f2.length d2, .slice M3 m.f3.length d3] 67 (0, 0))) ∧ Aside0 (Below w.heap.size w wr)) (fun _ _ c _ => m.f3.length - (intOf c).toNat)
        case atStart => exact ⟨0, rfl, Nat.zero_le _, HO, HN, BK1, BK6, HB⟩
        case round =>
          clear HO HN BK1 BK6 HB
          obtain ⟨i, rfl, hi, HO, HN, BK1, BK6, HB⟩ := hrel
          by_cases hil : i < m.f3.length
          · have hii : (0 : Int) ≤ (i : Int) := by omega
            have hil2 : (i : Int) < (m.f3.length : Int) := by omega
            have hq := itemsF_len l n m i
            have hst2 : itemsF l n m (i + 1) = itemsF l n m i ++ itemF l n m i := flat_step _ _
            have hif : itemF l n m i = if itemS l n m (m.f3.take i) m.f3[i] ≠ 0 then [⟨itemS l n m (m.f3.take i) m.f3[i], 0, n, i⟩] else [] := by unfold itemF; rw [List.getElem?_eq_getElem hil]
            rw [hif] at hst2
            have hns := names_step m.f3 i hil
            have KIi := KI.out i hil
            obtain ⟨ad3, cx, rfl, hKx, hcx⟩ := el_get HM3.out i hil
            obtain ⟨x, hx⟩ : ∃ x, m.f3[i] = x := ⟨_, rfl⟩
            have hnl : (headS m ++ namesS (m.f3.take i)).length ≤ 3000 := by
              have h1 := names_len (m.f3.take i)
              have h2 := HS3.out
              rw [List.length_append, headS, List.length_append, List.length_map]
              rw [List.length_take] at h1
              omega
            have hns2 : headS m ++ namesS (m.f3.take (i + 1)) = (headS m ++ namesS (m.f3.take i)) ++ if namedS m.f3[i].f0 = true then [m.f3[i].f1] else [] := by rw [hns, List.append_assoc]
            obtain ⟨L, hL⟩ : ∃ L, headS m ++ namesS (m.f3.take i) = L := ⟨_, rfl⟩
            simp only [hx] at hst2 hns2 hKx KIi
            obtain ⟨e2, he2⟩ : ∃ e2, itemS l n m (m.f3.take i) x = e2 := ⟨_, rfl⟩
            simp only [hL] at hns2 KIi hnl HN
            simp only [he2] at hst2 KIi
            obtain ⟨X7, y7, X8, y8, X19, y19, X30, y30, X41, y41, rfl, _⟩ := k49_open hKx
            have HXK := Aside0.mk hKx
            have HXC := Aside0.mk hcx
            have HNS := Aside0.mk hns2
            have KJ := Aside0.mk KIi
            have KN := Aside0.mk (fun w' => snamed_any x.f0 w')
            obtain ⟨nb, hnb⟩ : ∃ b, namedS x.f0 = b := ⟨_, rfl⟩
            have hns3 := HNS.out
            simp only [hnb] at KN hns3
            replace HNS := Aside0.mk hns3
            obtain ⟨T2, hT2⟩ : ∃ T2, T ++ itemsF l n m i = T2 := ⟨_, rfl⟩
            have hl2 : T2.length ≤ 1002001 := by rw [← hT2, List.length_append]; omega
            have HT2 : Aside0 (T ++ itemsF l n m (i + 1) = T2 ++ if e2 ≠ 0 then [⟨e2, 0, n, i⟩] else []) := ⟨by rw [hst2, ← List.append_assoc, hT2]⟩
            rw [hT2] at HO
            replace HTL : Aside0 ((T2.length + 1) * 32 ≤ 140737488355328) := ⟨by omega⟩
            have HTN : Aside0 ((L.length + 1) * 16 ≤ 140737488355328) := ⟨by omega⟩
            obtain ⟨NA, nc, rfl, _, _⟩ := Kd.R_reads HN.out
            clear hst2 hif he2 hT2 hq hns hns2 hns3 hnb hL hx hKx hcx KIi hnl
            go_wp2_with (first | ((with_reducible refine gate_dst (N := 49) rfl ?_); refine wpList_load_cells rfl 49 (.tmp 48) rfl _ rfl [.int .i64 x.f0, .string x.f1, .string x.f2.f0, .int .i64 x.f2.f1, .string x.f3.f0, .int .i64 x.f3.f1, .string x.f4, .slice X7 x.f5.length y7, .slice X8 x.f6.length y8, .int .i64 x.f7.f0, .string x.f7.f1.f0, .int .i64 x.f7.f1.f1, .string x.f7.f2.f0, .int .i64 x.f7.f2.f1, .string x.f7.f3.f0, .int .i64 x.f7.f3.f1, .string x.f7.f4.f0, .int .i64 x.f7.f4.f1, .string x.f7.f5, .slice X19 x.f7.f6.length y19, .int .i64 x.f8.f0, .string x.f8.f1.f0, .int .i64 x.f8.f1.f1, .string x.f8.f2.f0, .int .i64 x.f8.f2.f1, .string x.f8.f3.f0, .int .i64 x.f8.f3.f1, .string x.f8.f4.f0, .int .i64 x.f8.f4.f1, .string x.f8.f5, .slice X30 x.f8.f6.length y30, .int .i64 x.f9.f0, .string x.f9.f1.f0, .int .i64 x.f9.f1.f1, .string x.f9.f2.f0, .int .i64 x.f9.f2.f1, .string x.f9.f3.f0, .int .i64 x.f9.f3.f1, .string x.f9.f4.f0, .int .i64 x.f9.f4.f1, .string x.f9.f5, .slice X41 x.f9.f6.length y41] ?hc _ Try.underlying49 rfl ?hq9 ?_; (case hc => exact HXC.out _ HB.out); (case hq9 => kernel_rfl)) | ((with_reducible refine gate_dst (N := 10) rfl ?_); refine box_event ?hg (N := 10) ?hd (cs := #[.int .i64 0, .string ⟨#[]⟩, .string ⟨#[]⟩, .int .i64 0, .string ⟨#[]⟩, .int .i64 0, .string ⟨#[]⟩, .slice none 0 0, .slice none 0 0, .int .i64 0, .string ⟨#[]⟩, .int .i64 0, .string ⟨#[]⟩, .int .i64 0, .string ⟨#[]⟩, .int .i64 0, .string ⟨#[]⟩, .int .i64 0, .string ⟨#[]⟩, .slice none 0 0, .int .i64 0, .string ⟨#[]⟩, .int .i64 0, .string ⟨#[]⟩, .int .i64 0, .string ⟨#[]⟩, .int .i64 0, .string ⟨#[]⟩, .int .i64 0, .string ⟨#[]⟩, .slice none 0 0, .int .i64 0, .string ⟨#[]⟩, .int .i64 0, .string ⟨#[]⟩, .int .i64 0, .string ⟨#[]⟩, .int .i64 0, .string ⟨#[]⟩, .int .i64 0, .string ⟨#[]⟩, .slice none 0 0]) (t := 49) ?hr ?_; (case hd => rfl); (case hg => rfl); (case hr => first | (go_simp; done) | (go_simp; rfl)); intro g10 hg_ wv0 hbox_ hb_; replace BK1 := Aside0.mk (blk_below BK1.out hb_); replace BK6 := Aside0.mk (blk_below BK6.out hb_); have BZg10 := Aside0.mk (hbox_); have GBZg10 : Aside0 (w.heap.size ≤ g10) := ⟨by rw [hg_]; exact below_size HB.out⟩; replace HB : Aside0 (Below w.heap.size w wv0) := ⟨below_step HB.out hb_⟩; have HVg10 : Aside0 (wr.heap.size ≤ g10 ∧ Below wr.heap.size wr wv0) := ⟨Nat.le_of_eq hg_.symm, hb_⟩; clear hg_ hbox_ hb_) | ((with_reducible refine gate_ (.store 49 (.tmp 10) (.tmp 49)) rfl ?_); refine wpList_store_box rfl rfl 49 (.tmp 10) (.tmp 49) rfl (g := g10) (e := 49) [.int .i64 x.f0, .string x.f1, .string x.f2.f0, .int .i64 x.f2.f1, .string x.f3.f0, .int .i64 x.f3.f1, .string x.f4, .slice X7 x.f5.length y7, .slice X8 x.f6.length y8, .int .i64 x.f7.f0, .string x.f7.f1.f0, .int .i64 x.f7.f1.f1, .string x.f7.f2.f0, .int .i64 x.f7.f2.f1, .string x.f7.f3.f0, .int .i64 x.f7.f3.f1, .string x.f7.f4.f0, .int .i64 x.f7.f4.f1, .string x.f7.f5, .slice X19 x.f7.f6.length y19, .int .i64 x.f8.f0, .string x.f8.f1.f0, .int .i64 x.f8.f1.f1, .string x.f8.f2.f0, .int .i64 x.f8.f2.f1, .string x.f8.f3.f0, .int .i64 x.f8.f3.f1, .string x.f8.f4.f0, .int .i64 x.f8.f4.f1, .string x.f8.f5, .slice X30 x.f8.f6.length y30, .int .i64 x.f9.f0, .string x.f9.f1.f0, .int .i64 x.f9.f1.f1, .string x.f9.f2.f0, .int .i64 x.f9.f2.f1, .string x.f9.f3.f0, .int .i64 x.f9.f3.f1, .string x.f9.f4.f0, .int .i64 x.f9.f4.f1, .string x.f9.f5, .slice X41 x.f9.f6.length y41] rfl rfl BZg10.out rfl ?hq9 ?h1 ?_; (case hq9 => kernel_rfl); (case h1 => simp [Value.oneCell']); intro wv hbx_ hfar_ hsz_ hbel_; replace BK1 := Aside0.mk ((hfar_ _ (blk_ne BK1.out BZg10.out (by decide))).trans BK1.out); replace BK6 := Aside0.mk ((hfar_ _ (blk_ne BK6.out BZg10.out (by decide))).trans BK6.out); have BK10 := Aside0.mk (hbx_); replace HB : Aside0 (Below w.heap.size w wv) := ⟨hbel_ _ GBZg10.out w HB.out⟩; replace HO := Aside0.mk (Kd.R_below HO.out (hbel_ _ HVg10.out.1 _ HVg10.out.2)); replace HN := Aside0.mk (Kd.R_below HN.out (hbel_ _ HVg10.out.1 _ HVg10.out.2)); clear HVg10 hbx_ hfar_ hsz_ hbel_ BZg10) | ((with_reducible refine gate_dst (N := 50) rfl ?_); refine wpList_load_row rfl 67 (.tmp 6) rfl g6 rfl 67 #[.slice (some ad2) l.length c0, .string m.f0, .slice M1 m.f1.length d1, .slice M2 m.f2.length d2, .slice (some ad3) m.f3.length d3] (0, 0) _ ?hg Try.underlying67 rfl ?hq9 ?_; (case hg => exact BK6.out); (case hq9 => kernel_rfl)) | ((with_reducible refine gate_dst (N := 51) rfl ?_); refine wpList_load_row rfl 49 (.tmp 10) rfl g10 rfl 49 #[.int .i64 x.f0, .string x.f1, .string x.f2.f0, .int .i64 x.f2.f1, .string x.f3.f0, .int .i64 x.f3.f1, .string x.f4, .slice X7 x.f5.length y7, .slice X8 x.f6.length y8, .int .i64 x.f7.f0, .string x.f7.f1.f0, .int .i64 x.f7.f1.f1, .string x.f7.f2.f0, .int .i64 x.f7.f2.f1, .string x.f7.f3.f0, .int .i64 x.f7.f3.f1, .string x.f7.f4.f0, .int .i64 x.f7.f4.f1, .string x.f7.f5, .slice X19 x.f7.f6.length y19, .int .i64 x.f8.f0, .string x.f8.f1.f0, .int .i64 x.f8.f1.f1, .string x.f8.f2.f0, .int .i64 x.f8.f2.f1, .string x.f8.f3.f0, .int .i64 x.f8.f3.f1, .string x.f8.f4.f0, .int .i64 x.f8.f4.f1, .string x.f8.f5, .slice X30 x.f8.f6.length y30, .int .i64 x.f9.f0, .string x.f9.f1.f0, .int .i64 x.f9.f1.f1, .string x.f9.f2.f0, .int .i64 x.f9.f2.f1, .string x.f9.f3.f0, .int .i64 x.f9.f3.f1, .string x.f9.f4.f0, .int .i64 x.f9.f4.f1, .string x.f9.f5, .slice X41 x.f9.f6.length y41] (0, 0) _ ?hg Try.underlying49 rfl ?hq9 ?_; (case hg => exact BK10.out); (case hq9 => kernel_rfl)))
            refine (KJ.out _ _ NA nc _ ⟨Kd.C_below HC.out HB.out, M1, d1, M2, d2, (some ad3), d3, rfl, k34.K_below HB.out HMK.out, HLE.out.1, Kd.C_below HM1.out HB.out, HLE.out.2.1, Kd.C_below HM2.out HB.out, HLE.out.2.2, Kd.C_below HM3.out HB.out⟩ (k49.K_below HB.out HXK.out) (by obtain ⟨A9, c9, e9, _, h9⟩ := Kd.R_reads HN.out; cases e9; exact h9)).mono ?_
            rintro e' wc ⟨rfl, hb⟩
            replace HO := Aside0.mk (Kd.R_below HO.out hb)
            replace HN := Aside0.mk (Kd.R_below HN.out hb)
            replace BK1 := Aside0.mk (blk_below BK1.out hb)
            replace BK6 := Aside0.mk (blk_below BK6.out hb)
            replace BK10 := Aside0.mk (blk_below BK10.out hb)
            replace HB := Aside0.mk (below_step HB.out hb)
            clear hb
            by_cases he2 : e2 = 0
            · subst he2
              have ht2 := HT2.out
              rw [if_neg (by decide), List.append_nil] at ht2
              replace HT2 := Aside0.mk ht2
              clear ht2
              have hkx0 : wc.cell? ⟨g10, 0, none⟩ = some (.int .i64 x.f0) := blk_cell BK10.out 0
              have hkx1 : wc.cell? ⟨g10, 1, none⟩ = some (.string x.f1) := blk_cell BK10.out 1
              go_wp2_with (first | fail)
              refine (KN.out _).mono ?_
              rintro e' w' ⟨rfl, rfl⟩
              cases nb
              · go_wp2
                go_roundw
                case rel => exact ⟨i + 1, by go_num, by omega, ⟨by rw [HT2.out]; exact HO.out⟩, ⟨by rw [HNS.out]; simpa using HN.out⟩, BK1, BK6, HB⟩
                case measure => simp [intOf]; omega
              · go_wp2_with (first | (at_builtin; refine Kd.R_append Kd.string (w0 := w) w.heap.size rfl (.tmp 67) (.tmp 70) 30 9 _ 16 rfl Try.underlying30 info9 rfl (by decide) (by omega) (.slice NA L.length nc) L x.f1 [.string x.f1] (fun _ => True) (fun _ => False) rfl rfl ?hp (fun _ h => h.elim) (fun _ _ => trivial) ?hO ?hB ?hs ?hl ?_; (case hp => exact rfl); (case hO => exact HN.out); (case hB => exact HB.out); (case hs => exact below_size HB.out); (case hl => exact HTN.out); intro v2 w7 ho hb hgr hat; replace BK1 : Aside0 (w7.heap[g1]? = some (.cells #[.slice (some ad2) l.length c0] 24 (0, 0))) := ⟨blk_grown BK1.out hgr (Kd.R_ne HN.out BK1.out (by decide))⟩; replace BK6 : Aside0 (w7.heap[g6]? = some (.cells #[.slice (some ad2) l.length c0, .string m.f0, .slice M1 m.f1.length d1, .slice M2 m.f2.length d2, .slice (some ad3) m.f3.length d3] 67 (0, 0))) := ⟨blk_grown BK6.out hgr (Kd.R_ne HN.out BK6.out (by decide))⟩; replace HO := Aside0.mk (Kd.R_over HO.out HN.out (by intro q hq; simp [k40E] at hq; omega) hgr); replace HN := Aside0.mk ho; replace HB := Aside0.mk hb; clear ho hb hgr hat))
                go_roundw
                case rel => exact ⟨i + 1, by go_num, by omega, ⟨by rw [HT2.out]; exact HO.out⟩, ⟨by rw [HNS.out]; simpa using HN.out⟩, BK1, BK6, HB⟩
                case measure => simp [intOf]; omega
            · have he3 : (e2 != 0) = true := by simpa using he2
              have ht2 := HT2.out
              rw [if_pos he2] at ht2
              replace HT2 := Aside0.mk ht2
              clear ht2
              go_wp2_with (first | (at_builtin; refine Kd.R_append k40 (w0 := w) w.heap.size rfl (.tmp 57) (.tmp 62) 28 40 _ 32 rfl Try.underlying28 info40 rfl (show 0 < 4 by decide) (by omega) u3 T2 ⟨e2, 0, n, i⟩ [.int .i64 e2, .int .i64 0, .int .i64 n, .int .i64 i] (fun _ => True) (fun _ => False) rfl rfl ?hp (fun _ h => h.elim) (fun _ _ => trivial) ?hO ?hB ?hs ?hl ?_; (case hp => exact (k40_mkM _ _ _ _)); (case hO => exact HO.out); (case hB => exact HB.out); (case hs => exact below_size HB.out); (case hl => exact HTL.out); intro v1 w2 ho hb hgr hat; replace BK1 : Aside0 (w2.heap[g1]? = some (.cells #[.slice (some ad2) l.length c0] 24 (0, 0))) := ⟨blk_grown BK1.out hgr (Kd.R_ne HO.out BK1.out (by decide))⟩; replace BK6 : Aside0 (w2.heap[g6]? = some (.cells #[.slice (some ad2) l.length c0, .string m.f0, .slice M1 m.f1.length d1, .slice M2 m.f2.length d2, .slice (some ad3) m.f3.length d3] 67 (0, 0))) := ⟨blk_grown BK6.out hgr (Kd.R_ne HO.out BK6.out (by decide))⟩; replace BK10 : Aside0 (w2.heap[g10]? = some (.cells #[.int .i64 x.f0, .string x.f1, .string x.f2.f0, .int .i64 x.f2.f1, .string x.f3.f0, .int .i64 x.f3.f1, .string x.f4, .slice X7 x.f5.length y7, .slice X8 x.f6.length y8, .int .i64 x.f7.f0, .string x.f7.f1.f0, .int .i64 x.f7.f1.f1, .string x.f7.f2.f0, .int .i64 x.f7.f2.f1, .string x.f7.f3.f0, .int .i64 x.f7.f3.f1, .string x.f7.f4.f0, .int .i64 x.f7.f4.f1, .string x.f7.f5, .slice X19 x.f7.f6.length y19, .int .i64 x.f8.f0, .string x.f8.f1.f0, .int .i64 x.f8.f1.f1, .string x.f8.f2.f0, .int .i64 x.f8.f2.f1, .string x.f8.f3.f0, .int .i64 x.f8.f3.f1, .string x.f8.f4.f0, .int .i64 x.f8.f4.f1, .string x.f8.f5, .slice X30 x.f8.f6.length y30, .int .i64 x.f9.f0, .string x.f9.f1.f0, .int .i64 x.f9.f1.f1, .string x.f9.f2.f0, .int .i64 x.f9.f2.f1, .string x.f9.f3.f0, .int .i64 x.f9.f3.f1, .string x.f9.f4.f0, .int .i64 x.f9.f4.f1, .string x.f9.f5, .slice X41 x.f9.f6.length y41] 49 (0, 0))) := ⟨blk_grown BK10.out hgr (Kd.R_ne HO.out BK10.out (by decide))⟩; replace HN := Aside0.mk (Kd.R_over HN.out HO.out (by intro q hq; simp [Kd.string, Kd.scalar, Kd.E] at hq; omega) hgr); replace HO := Aside0.mk ho; replace HB := Aside0.mk hb; have hkx0 : w2.cell? ⟨g10, 0, none⟩ = some (.int .i64 x.f0) := blk_cell BK10.out 0; have hkx1 : w2.cell? ⟨g10, 1, none⟩ = some (.string x.f1) := blk_cell BK10.out 1; clear ho hb hgr hat) | fail)
              refine (KN.out _).mono ?_
              rintro e' w' ⟨rfl, rfl⟩
              cases nb
              · go_wp2
                go_roundw
                case rel => exact ⟨i + 1, by go_num, by omega, ⟨by rw [HT2.out]; exact HO.out⟩, ⟨by rw [HNS.out]; simpa using HN.out⟩, BK1, BK6, HB⟩
                case measure => simp [intOf]; omega
              · go_wp2_with (first | (at_builtin; refine Kd.R_append Kd.string (w0 := w) w.heap.size rfl (.tmp 67) (.tmp 70) 30 9 _ 16 rfl Try.underlying30 info9 rfl (by decide) (by omega) (.slice NA L.length nc) L x.f1 [.string x.f1] (fun _ => True) (fun _ => False) rfl rfl ?hp (fun _ h => h.elim) (fun _ _ => trivial) ?hO ?hB ?hs ?hl ?_; (case hp => exact rfl); (case hO => exact HN.out); (case hB => exact HB.out); (case hs => exact below_size HB.out); (case hl => exact HTN.out); intro v2 w7 ho hb hgr hat; replace BK1 : Aside0 (w7.heap[g1]? = some (.cells #[.slice (some ad2) l.length c0] 24 (0, 0))) := ⟨blk_grown BK1.out hgr (Kd.R_ne HN.out BK1.out (by decide))⟩; replace BK6 : Aside0 (w7.heap[g6]? = some (.cells #[.slice (some ad2) l.length c0, .string m.f0, .slice M1 m.f1.length d1, .slice M2 m.f2.length d2, .slice (some ad3) m.f3.length d3] 67 (0, 0))) := ⟨blk_grown BK6.out hgr (Kd.R_ne HN.out BK6.out (by decide))⟩; replace HO := Aside0.mk (Kd.R_over HO.out HN.out (by intro q hq; simp [k40E] at hq; omega) hgr); replace HN := Aside0.mk ho; replace HB := Aside0.mk hb; clear ho hb hgr hat))
                go_roundw
                case rel => exact ⟨i + 1, by go_num, by omega, ⟨by rw [HT2.out]; exact HO.out⟩, ⟨by rw [HNS.out]; simpa using HN.out⟩, BK1, BK6, HB⟩
                case measure => simp [intOf]; omega
          · obtain rfl : i = m.f3.length := by omega
            replace HO : Aside0 (k40.R 40 wr w.heap.size (fun _ => True) u3 ((List.range (n + 1)).flatMap (modF l))) := ⟨by rw [HST.out]; exact HO.out⟩
            go_wp2
            go_roundw
            case rel => exact ⟨n + 1, by go_num, by omega, HO, BK1, HB⟩
            case measure => simp [intOf]; omega
      · have he1 : (e != 0) = true := by simpa using he0
        have hst := HST.out
        rw [if_pos he0, ← List.append_assoc] at hst
        replace HST := Aside0.mk hst
        have hT2 : (T ++ [(⟨e, 0, n, -1⟩ : S40)]).length ≤ 1001001 := by simp; omega
        clear hst
        go_wp2_with (first | (at_builtin; refine Kd.R_append k40 (w0 := w) w.heap.size rfl (.tmp 34) (.tmp 38) 28 40 _ 32 rfl Try.underlying28 info40 rfl (show 0 < 4 by decide) (by omega) u3 T ⟨e, 0, n, (-1)⟩ [.int .i64 e, .int .i64 0, .int .i64 n, .int .i64 (-1)] (fun _ => True) (fun _ => False) rfl rfl ?hp (fun _ h => h.elim) (fun _ _ => trivial) ?hO ?hB ?hs ?hl ?_; (case hp => exact (k40_mkM _ _ _ _)); (case hO => exact HO.out); (case hB => exact HB.out); (case hs => exact below_size HB.out); (case hl => exact HTL.out); intro v1 w2 ho hb hgr hat; replace BK1 : Aside0 (w2.heap[g1]? = some (.cells #[.slice (some ad2) l.length c0] 24 (0, 0))) := ⟨blk_grown BK1.out hgr (Kd.R_ne HO.out BK1.out (by decide))⟩; replace BK5 : Aside0 (w2.heap[g5]? = some (.cells #[.string m.f0, .slice M1 m.f1.length d1, .slice M2 m.f2.length d2, .slice M3 m.f3.length d3] 34 (0, 0))) := ⟨blk_grown BK5.out hgr (Kd.R_ne HO.out BK5.out (by decide))⟩; replace BK6 : Aside0 (w2.heap[g6]? = some (.cells #[.slice (some ad2) l.length c0, .string m.f0, .slice M1 m.f1.length d1, .slice M2 m.f2.length d2, .slice M3 m.f3.length d3] 67 (0, 0))) := ⟨blk_grown BK6.out hgr (Kd.R_ne HO.out BK6.out (by decide))⟩; replace HO := Aside0.mk ho; replace HB := Aside0.mk hb; clear ho hb hgr hat) | ((with_reducible refine gate_dst (N := 40) rfl ?_); refine wpList_load_row rfl 34 (.tmp 5) rfl g5 rfl 34 #[.string m.f0, .slice M1 m.f1.length d1, .slice M2 m.f2.length d2, .slice M3 m.f3.length d3] (0, 0) _ ?hg Try.underlying34 rfl ?hq9 ?_; (case hg => exact BK5.out); (case hq9 => kernel_rfl)))
        obtain ⟨T, hT⟩ : ∃ T', T ++ [(⟨e, 0, n, -1⟩ : S40)] = T' := ⟨_, rfl⟩
        rw [hT] at HO HST hT2
        clear hT hT1
        have hT1 := hT2
        clear hT2
        refine (KH.out _ _ (k34.K_below HB.out HMK.out)).mono ?_
        rintro e' wh ⟨vh, rfl, hho, hb⟩
        have hk53 : wh.cell? ⟨g5, 3, none⟩ = some (.slice M3 m.f3.length d3) := blk_cell (blk_below BK5.out hb) 3
        replace HO := Aside0.mk (Kd.R_below HO.out hb)
        have HN : Aside0 (Kd.string.R 9 wh w.heap.size (fun _ => True) vh (headS m ++ namesS (m.f3.take 0))) := ⟨by rw [List.take_zero, show namesS [] = [] from rfl, List.append_nil]; exact Kd.R_lower hho (below_size HB.out)⟩
        replace HO : Aside0 (k40.R 40 wh w.heap.size (fun _ => True) v1 (T ++ itemsF l n m 0)) := ⟨by simpa [itemsF] using HO.out⟩
        replace BK1 := Aside0.mk (blk_below BK1.out hb)
        replace BK6 := Aside0.mk (blk_below BK6.out hb)
        replace HB := Aside0.mk (below_step HB.out hb)
        clear hb

        clear hho BK5
        go_wp2
        clear hk53
        go_loopw [3, 8, 45] (fun a b c wr => ∃ i : Nat, c = .int .i64 (i : Int) ∧ i ≤ m.f3.length ∧ Aside0 (k40.R 40 wr w.heap.size (fun _ => True) a (T ++ itemsF l n m i)) ∧ Aside0 (Kd.string.R 9 wr w.heap.size (fun _ => True) b (headS m ++ namesS (m.f3.take i))) ∧ Aside0 (wr.heap[g1]? = some (.cells #[.slice (some ad2) l.length c0] 24 (0, 0))) ∧ Aside0 (wr.heap[g6]? = some (.cells #[.slice (some ad2) l.length c0, .string m.f0, .slice M1 m.f1.length d1, .slice M2 m.f2.length d2, .slice M3 m.f3.length d3] 67 (0, 0))) ∧ Aside0 (Below w.heap.size w wr)) (fun _ _ c _ => m.f3.length - (intOf c).toNat)
        case atStart => exact ⟨0, rfl, Nat.zero_le _, HO, HN, BK1, BK6, HB⟩
        case round =>
          clear HO HN BK1 BK6 HB
          obtain ⟨i, rfl, hi, HO, HN, BK1, BK6, HB⟩ := hrel
          by_cases hil : i < m.f3.length
          · have hii : (0 : Int) ≤ (i : Int) := by omega
            have hil2 : (i : Int) < (m.f3.length : Int) := by omega
            have hq := itemsF_len l n m i
            have hst2 : itemsF l n m (i + 1) = itemsF l n m i ++ itemF l n m i := flat_step _ _
            have hif : itemF l n m i = if itemS l n m (m.f3.take i) m.f3[i] ≠ 0 then [⟨itemS l n m (m.f3.take i) m.f3[i], 0, n, i⟩] else [] := by unfold itemF; rw [List.getElem?_eq_getElem hil]
            rw [hif] at hst2
            have hns := names_step m.f3 i hil
            have KIi := KI.out i hil
            obtain ⟨ad3, cx, rfl, hKx, hcx⟩ := el_get HM3.out i hil
            obtain ⟨x, hx⟩ : ∃ x, m.f3[i] = x := ⟨_, rfl⟩
            have hnl : (headS m ++ namesS (m.f3.take i)).length ≤ 3000 := by
              have h1 := names_len (m.f3.take i)
              have h2 := HS3.out
              rw [List.length_append, headS, List.length_append, List.length_map]
              rw [List.length_take] at h1
              omega
            have hns2 : headS m ++ namesS (m.f3.take (i + 1)) = (headS m ++ namesS (m.f3.take i)) ++ if namedS m.f3[i].f0 = true then [m.f3[i].f1] else [] := by rw [hns, List.append_assoc]
            obtain ⟨L, hL⟩ : ∃ L, headS m ++ namesS (m.f3.take i) = L := ⟨_, rfl⟩
            simp only [hx] at hst2 hns2 hKx KIi
            obtain ⟨e2, he2⟩ : ∃ e2, itemS l n m (m.f3.take i) x = e2 := ⟨_, rfl⟩
            simp only [hL] at hns2 KIi hnl HN
            simp only [he2] at hst2 KIi
            obtain ⟨X7, y7, X8, y8, X19, y19, X30, y30, X41, y41, rfl, _⟩ := k49_open hKx
            have HXK := Aside0.mk hKx
            have HXC := Aside0.mk hcx
            have HNS := Aside0.mk hns2
            have KJ := Aside0.mk KIi
            have KN := Aside0.mk (fun w' => snamed_any x.f0 w')
            obtain ⟨nb, hnb⟩ : ∃ b, namedS x.f0 = b := ⟨_, rfl⟩
            have hns3 := HNS.out
            simp only [hnb] at KN hns3
            replace HNS := Aside0.mk hns3
            obtain ⟨T2, hT2⟩ : ∃ T2, T ++ itemsF l n m i = T2 := ⟨_, rfl⟩
            have hl2 : T2.length ≤ 1002001 := by rw [← hT2, List.length_append]; omega
            have HT2 : Aside0 (T ++ itemsF l n m (i + 1) = T2 ++ if e2 ≠ 0 then [⟨e2, 0, n, i⟩] else []) := ⟨by rw [hst2, ← List.append_assoc, hT2]⟩
            rw [hT2] at HO
            replace HTL : Aside0 ((T2.length + 1) * 32 ≤ 140737488355328) := ⟨by omega⟩
            have HTN : Aside0 ((L.length + 1) * 16 ≤ 140737488355328) := ⟨by omega⟩
            obtain ⟨NA, nc, rfl, _, _⟩ := Kd.R_reads HN.out
            clear hst2 hif he2 hT2 hq hns hns2 hns3 hnb hL hx hKx hcx KIi hnl
            go_wp2_with (first | ((with_reducible refine gate_dst (N := 49) rfl ?_); refine wpList_load_cells rfl 49 (.tmp 48) rfl _ rfl [.int .i64 x.f0, .string x.f1, .string x.f2.f0, .int .i64 x.f2.f1, .string x.f3.f0, .int .i64 x.f3.f1, .string x.f4, .slice X7 x.f5.length y7, .slice X8 x.f6.length y8, .int .i64 x.f7.f0, .string x.f7.f1.f0, .int .i64 x.f7.f1.f1, .string x.f7.f2.f0, .int .i64 x.f7.f2.f1, .string x.f7.f3.f0, .int .i64 x.f7.f3.f1, .string x.f7.f4.f0, .int .i64 x.f7.f4.f1, .string x.f7.f5, .slice X19 x.f7.f6.length y19, .int .i64 x.f8.f0, .string x.f8.f1.f0, .int .i64 x.f8.f1.f1, .string x.f8.f2.f0, .int .i64 x.f8.f2.f1, .string x.f8.f3.f0, .int .i64 x.f8.f3.f1, .string x.f8.f4.f0, .int .i64 x.f8.f4.f1, .string x.f8.f5, .slice X30 x.f8.f6.length y30, .int .i64 x.f9.f0, .string x.f9.f1.f0, .int .i64 x.f9.f1.f1, .string x.f9.f2.f0, .int .i64 x.f9.f2.f1, .string x.f9.f3.f0, .int .i64 x.f9.f3.f1, .string x.f9.f4.f0, .int .i64 x.f9.f4.f1, .string x.f9.f5, .slice X41 x.f9.f6.length y41] ?hc _ Try.underlying49 rfl ?hq9 ?_; (case hc => exact HXC.out _ HB.out); (case hq9 => kernel_rfl)) | ((with_reducible refine gate_dst (N := 10) rfl ?_); refine box_event ?hg (N := 10) ?hd (cs := #[.int .i64 0, .string ⟨#[]⟩, .string ⟨#[]⟩, .int .i64 0, .string ⟨#[]⟩, .int .i64 0, .string ⟨#[]⟩, .slice none 0 0, .slice none 0 0, .int .i64 0, .string ⟨#[]⟩, .int .i64 0, .string ⟨#[]⟩, .int .i64 0, .string ⟨#[]⟩, .int .i64 0, .string ⟨#[]⟩, .int .i64 0, .string ⟨#[]⟩, .slice none 0 0, .int .i64 0, .string ⟨#[]⟩, .int .i64 0, .string ⟨#[]⟩, .int .i64 0, .string ⟨#[]⟩, .int .i64 0, .string ⟨#[]⟩, .int .i64 0, .string ⟨#[]⟩, .slice none 0 0, .int .i64 0, .string ⟨#[]⟩, .int .i64 0, .string ⟨#[]⟩, .int .i64 0, .string ⟨#[]⟩, .int .i64 0, .string ⟨#[]⟩, .int .i64 0, .string ⟨#[]⟩, .slice none 0 0]) (t := 49) ?hr ?_; (case hd => rfl); (case hg => rfl); (case hr => first | (go_simp; done) | (go_simp; rfl)); intro g10 hg_ wv0 hbox_ hb_; replace BK1 := Aside0.mk (blk_below BK1.out hb_); replace BK6 := Aside0.mk (blk_below BK6.out hb_); have BZg10 := Aside0.mk (hbox_); have GBZg10 : Aside0 (w.heap.size ≤ g10) := ⟨by rw [hg_]; exact below_size HB.out⟩; replace HB : Aside0 (Below w.heap.size w wv0) := ⟨below_step HB.out hb_⟩; have HVg10 : Aside0 (wr.heap.size ≤ g10 ∧ Below wr.heap.size wr wv0) := ⟨Nat.le_of_eq hg_.symm, hb_⟩; clear hg_ hbox_ hb_) | ((with_reducible refine gate_ (.store 49 (.tmp 10) (.tmp 49)) rfl ?_); refine wpList_store_box rfl rfl 49 (.tmp 10) (.tmp 49) rfl (g := g10) (e := 49) [.int .i64 x.f0, .string x.f1, .string x.f2.f0, .int .i64 x.f2.f1, .string x.f3.f0, .int .i64 x.f3.f1, .string x.f4, .slice X7 x.f5.length y7, .slice X8 x.f6.length y8, .int .i64 x.f7.f0, .string x.f7.f1.f0, .int .i64 x.f7.f1.f1, .string x.f7.f2.f0, .int .i64 x.f7.f2.f1, .string x.f7.f3.f0, .int .i64 x.f7.f3.f1, .string x.f7.f4.f0, .int .i64 x.f7.f4.f1, .string x.f7.f5, .slice X19 x.f7.f6.length y19, .int .i64 x.f8.f0, .string x.f8.f1.f0, .int .i64 x.f8.f1.f1, .string x.f8.f2.f0, .int .i64 x.f8.f2.f1, .string x.f8.f3.f0, .int .i64 x.f8.f3.f1, .string x.f8.f4.f0, .int .i64 x.f8.f4.f1, .string x.f8.f5, .slice X30 x.f8.f6.length y30, .int .i64 x.f9.f0, .string x.f9.f1.f0, .int .i64 x.f9.f1.f1, .string x.f9.f2.f0, .int .i64 x.f9.f2.f1, .string x.f9.f3.f0, .int .i64 x.f9.f3.f1, .string x.f9.f4.f0, .int .i64 x.f9.f4.f1, .string x.f9.f5, .slice X41 x.f9.f6.length y41] rfl rfl BZg10.out rfl ?hq9 ?h1 ?_; (case hq9 => kernel_rfl); (case h1 => simp [Value.oneCell']); intro wv hbx_ hfar_ hsz_ hbel_; replace BK1 := Aside0.mk ((hfar_ _ (blk_ne BK1.out BZg10.out (by decide))).trans BK1.out); replace BK6 := Aside0.mk ((hfar_ _ (blk_ne BK6.out BZg10.out (by decide))).trans BK6.out); have BK10 := Aside0.mk (hbx_); replace HB : Aside0 (Below w.heap.size w wv) := ⟨hbel_ _ GBZg10.out w HB.out⟩; replace HO := Aside0.mk (Kd.R_below HO.out (hbel_ _ HVg10.out.1 _ HVg10.out.2)); replace HN := Aside0.mk (Kd.R_below HN.out (hbel_ _ HVg10.out.1 _ HVg10.out.2)); clear HVg10 hbx_ hfar_ hsz_ hbel_ BZg10) | ((with_reducible refine gate_dst (N := 50) rfl ?_); refine wpList_load_row rfl 67 (.tmp 6) rfl g6 rfl 67 #[.slice (some ad2) l.length c0, .string m.f0, .slice M1 m.f1.length d1, .slice M2 m.f2.length d2, .slice (some ad3) m.f3.length d3] (0, 0) _ ?hg Try.underlying67 rfl ?hq9 ?_; (case hg => exact BK6.out); (case hq9 => kernel_rfl)) | ((with_reducible refine gate_dst (N := 51) rfl ?_); refine wpList_load_row rfl 49 (.tmp 10) rfl g10 rfl 49 #[.int .i64 x.f0, .string x.f1, .string x.f2.f0, .int .i64 x.f2.f1, .string x.f3.f0, .int .i64 x.f3.f1, .string x.f4, .slice X7 x.f5.length y7, .slice X8 x.f6.length y8, .int .i64 x.f7.f0, .string x.f7.f1.f0, .int .i64 x.f7.f1.f1, .string x.f7.f2.f0, .int .i64 x.f7.f2.f1, .string x.f7.f3.f0, .int .i64 x.f7.f3.f1, .string x.f7.f4.f0, .int .i64 x.f7.f4.f1, .string x.f7.f5, .slice X19 x.f7.f6.length y19, .int .i64 x.f8.f0, .string x.f8.f1.f0, .int .i64 x.f8.f1.f1, .string x.f8.f2.f0, .int .i64 x.f8.f2.f1, .string x.f8.f3.f0, .int .i64 x.f8.f3.f1, .string x.f8.f4.f0, .int .i64 x.f8.f4.f1, .string x.f8.f5, .slice X30 x.f8.f6.length y30, .int .i64 x.f9.f0, .string x.f9.f1.f0, .int .i64 x.f9.f1.f1, .string x.f9.f2.f0, .int .i64 x.f9.f2.f1, .string x.f9.f3.f0, .int .i64 x.f9.f3.f1, .string x.f9.f4.f0, .int .i64 x.f9.f4.f1, .string x.f9.f5, .slice X41 x.f9.f6.length y41] (0, 0) _ ?hg Try.underlying49 rfl ?hq9 ?_; (case hg => exact BK10.out); (case hq9 => kernel_rfl)))
            refine (KJ.out _ _ NA nc _ ⟨Kd.C_below HC.out HB.out, M1, d1, M2, d2, (some ad3), d3, rfl, k34.K_below HB.out HMK.out, HLE.out.1, Kd.C_below HM1.out HB.out, HLE.out.2.1, Kd.C_below HM2.out HB.out, HLE.out.2.2, Kd.C_below HM3.out HB.out⟩ (k49.K_below HB.out HXK.out) (by obtain ⟨A9, c9, e9, _, h9⟩ := Kd.R_reads HN.out; cases e9; exact h9)).mono ?_
            rintro e' wc ⟨rfl, hb⟩
            replace HO := Aside0.mk (Kd.R_below HO.out hb)
            replace HN := Aside0.mk (Kd.R_below HN.out hb)
            replace BK1 := Aside0.mk (blk_below BK1.out hb)
            replace BK6 := Aside0.mk (blk_below BK6.out hb)
            replace BK10 := Aside0.mk (blk_below BK10.out hb)
            replace HB := Aside0.mk (below_step HB.out hb)
            clear hb
            by_cases he2 : e2 = 0
            · subst he2
              have ht2 := HT2.out
              rw [if_neg (by decide), List.append_nil] at ht2
              replace HT2 := Aside0.mk ht2
              clear ht2
              have hkx0 : wc.cell? ⟨g10, 0, none⟩ = some (.int .i64 x.f0) := blk_cell BK10.out 0
              have hkx1 : wc.cell? ⟨g10, 1, none⟩ = some (.string x.f1) := blk_cell BK10.out 1
              go_wp2_with (first | fail)
              refine (KN.out _).mono ?_
              rintro e' w' ⟨rfl, rfl⟩
              cases nb
              · go_wp2
                go_roundw
                case rel => exact ⟨i + 1, by go_num, by omega, ⟨by rw [HT2.out]; exact HO.out⟩, ⟨by rw [HNS.out]; simpa using HN.out⟩, BK1, BK6, HB⟩
                case measure => simp [intOf]; omega
              · go_wp2_with (first | (at_builtin; refine Kd.R_append Kd.string (w0 := w) w.heap.size rfl (.tmp 67) (.tmp 70) 30 9 _ 16 rfl Try.underlying30 info9 rfl (by decide) (by omega) (.slice NA L.length nc) L x.f1 [.string x.f1] (fun _ => True) (fun _ => False) rfl rfl ?hp (fun _ h => h.elim) (fun _ _ => trivial) ?hO ?hB ?hs ?hl ?_; (case hp => exact rfl); (case hO => exact HN.out); (case hB => exact HB.out); (case hs => exact below_size HB.out); (case hl => exact HTN.out); intro v2 w7 ho hb hgr hat; replace BK1 : Aside0 (w7.heap[g1]? = some (.cells #[.slice (some ad2) l.length c0] 24 (0, 0))) := ⟨blk_grown BK1.out hgr (Kd.R_ne HN.out BK1.out (by decide))⟩; replace BK6 : Aside0 (w7.heap[g6]? = some (.cells #[.slice (some ad2) l.length c0, .string m.f0, .slice M1 m.f1.length d1, .slice M2 m.f2.length d2, .slice (some ad3) m.f3.length d3] 67 (0, 0))) := ⟨blk_grown BK6.out hgr (Kd.R_ne HN.out BK6.out (by decide))⟩; replace HO := Aside0.mk (Kd.R_over HO.out HN.out (by intro q hq; simp [k40E] at hq; omega) hgr); replace HN := Aside0.mk ho; replace HB := Aside0.mk hb; clear ho hb hgr hat))
                go_roundw
                case rel => exact ⟨i + 1, by go_num, by omega, ⟨by rw [HT2.out]; exact HO.out⟩, ⟨by rw [HNS.out]; simpa using HN.out⟩, BK1, BK6, HB⟩
                case measure => simp [intOf]; omega
            · have he3 : (e2 != 0) = true := by simpa using he2
              have ht2 := HT2.out
              rw [if_pos he2] at ht2
              replace HT2 := Aside0.mk ht2
              clear ht2
              go_wp2_with (first | (at_builtin; refine Kd.R_append k40 (w0 := w) w.heap.size rfl (.tmp 57) (.tmp 62) 28 40 _ 32 rfl Try.underlying28 info40 rfl (show 0 < 4 by decide) (by omega) u3 T2 ⟨e2, 0, n, i⟩ [.int .i64 e2, .int .i64 0, .int .i64 n, .int .i64 i] (fun _ => True) (fun _ => False) rfl rfl ?hp (fun _ h => h.elim) (fun _ _ => trivial) ?hO ?hB ?hs ?hl ?_; (case hp => exact (k40_mkM _ _ _ _)); (case hO => exact HO.out); (case hB => exact HB.out); (case hs => exact below_size HB.out); (case hl => exact HTL.out); intro v1 w2 ho hb hgr hat; replace BK1 : Aside0 (w2.heap[g1]? = some (.cells #[.slice (some ad2) l.length c0] 24 (0, 0))) := ⟨blk_grown BK1.out hgr (Kd.R_ne HO.out BK1.out (by decide))⟩; replace BK6 : Aside0 (w2.heap[g6]? = some (.cells #[.slice (some ad2) l.length c0, .string m.f0, .slice M1 m.f1.length d1, .slice M2 m.f2.length d2, .slice (some ad3) m.f3.length d3] 67 (0, 0))) := ⟨blk_grown BK6.out hgr (Kd.R_ne HO.out BK6.out (by decide))⟩; replace BK10 : Aside0 (w2.heap[g10]? = some (.cells #[.int .i64 x.f0, .string x.f1, .string x.f2.f0, .int .i64 x.f2.f1, .string x.f3.f0, .int .i64 x.f3.f1, .string x.f4, .slice X7 x.f5.length y7, .slice X8 x.f6.length y8, .int .i64 x.f7.f0, .string x.f7.f1.f0, .int .i64 x.f7.f1.f1, .string x.f7.f2.f0, .int .i64 x.f7.f2.f1, .string x.f7.f3.f0, .int .i64 x.f7.f3.f1, .string x.f7.f4.f0, .int .i64 x.f7.f4.f1, .string x.f7.f5, .slice X19 x.f7.f6.length y19, .int .i64 x.f8.f0, .string x.f8.f1.f0, .int .i64 x.f8.f1.f1, .string x.f8.f2.f0, .int .i64 x.f8.f2.f1, .string x.f8.f3.f0, .int .i64 x.f8.f3.f1, .string x.f8.f4.f0, .int .i64 x.f8.f4.f1, .string x.f8.f5, .slice X30 x.f8.f6.length y30, .int .i64 x.f9.f0, .string x.f9.f1.f0, .int .i64 x.f9.f1.f1, .string x.f9.f2.f0, .int .i64 x.f9.f2.f1, .string x.f9.f3.f0, .int .i64 x.f9.f3.f1, .string x.f9.f4.f0, .int .i64 x.f9.f4.f1, .string x.f9.f5, .slice X41 x.f9.f6.length y41] 49 (0, 0))) := ⟨blk_grown BK10.out hgr (Kd.R_ne HO.out BK10.out (by decide))⟩; replace HN := Aside0.mk (Kd.R_over HN.out HO.out (by intro q hq; simp [Kd.string, Kd.scalar, Kd.E] at hq; omega) hgr); replace HO := Aside0.mk ho; replace HB := Aside0.mk hb; have hkx0 : w2.cell? ⟨g10, 0, none⟩ = some (.int .i64 x.f0) := blk_cell BK10.out 0; have hkx1 : w2.cell? ⟨g10, 1, none⟩ = some (.string x.f1) := blk_cell BK10.out 1; clear ho hb hgr hat) | fail)
              refine (KN.out _).mono ?_
              rintro e' w' ⟨rfl, rfl⟩
              cases nb
              · go_wp2
                go_roundw
                case rel => exact ⟨i + 1, by go_num, by omega, ⟨by rw [HT2.out]; exact HO.out⟩, ⟨by rw [HNS.out]; simpa using HN.out⟩, BK1, BK6, HB⟩
                case measure => simp [intOf]; omega
              · go_wp2_with (first | (at_builtin; refine Kd.R_append Kd.string (w0 := w) w.heap.size rfl (.tmp 67) (.tmp 70) 30 9 _ 16 rfl Try.underlying30 info9 rfl (by decide) (by omega) (.slice NA L.length nc) L x.f1 [.string x.f1] (fun _ => True) (fun _ => False) rfl rfl ?hp (fun _ h => h.elim) (fun _ _ => trivial) ?hO ?hB ?hs ?hl ?_; (case hp => exact rfl); (case hO => exact HN.out); (case hB => exact HB.out); (case hs => exact below_size HB.out); (case hl => exact HTN.out); intro v2 w7 ho hb hgr hat; replace BK1 : Aside0 (w7.heap[g1]? = some (.cells #[.slice (some ad2) l.length c0] 24 (0, 0))) := ⟨blk_grown BK1.out hgr (Kd.R_ne HN.out BK1.out (by decide))⟩; replace BK6 : Aside0 (w7.heap[g6]? = some (.cells #[.slice (some ad2) l.length c0, .string m.f0, .slice M1 m.f1.length d1, .slice M2 m.f2.length d2, .slice (some ad3) m.f3.length d3] 67 (0, 0))) := ⟨blk_grown BK6.out hgr (Kd.R_ne HN.out BK6.out (by decide))⟩; replace HO := Aside0.mk (Kd.R_over HO.out HN.out (by intro q hq; simp [k40E] at hq; omega) hgr); replace HN := Aside0.mk ho; replace HB := Aside0.mk hb; clear ho hb hgr hat))
                go_roundw
                case rel => exact ⟨i + 1, by go_num, by omega, ⟨by rw [HT2.out]; exact HO.out⟩, ⟨by rw [HNS.out]; simpa using HN.out⟩, BK1, BK6, HB⟩
                case measure => simp [intOf]; omega
          · obtain rfl : i = m.f3.length := by omega
            replace HO : Aside0 (k40.R 40 wr w.heap.size (fun _ => True) u3 ((List.range (n + 1)).flatMap (modF l))) := ⟨by rw [HST.out]; exact HO.out⟩
            go_wp2
            go_roundw
            case rel => exact ⟨n + 1, by go_num, by omega, HO, BK1, HB⟩
            case measure => simp [intOf]; omega
    · obtain rfl : n = l.length := by omega
      rw [HCL.out] at HO
      obtain ⟨A, c, rfl, hle, hC⟩ := Kd.R_reads HO.out
      have HLE := Aside0.mk hle
      have HCC := Aside0.mk hC
      clear hle hC
      go_wp2
      go_ret
      exact ⟨A, c, rfl, HLE.out, HCC.out, HB.out⟩
def RetI (w : World) (e : Ending) (w' : World) : Prop := (∃ z, e = .returned (.int .i64 z)) ∧ Below w.heap.size w w'
set_option maxHeartbeats 64000000 in
set_option maxRecDepth 100000 in
theorem size_any (N : Nat) : ∀ (e : S47), SizeOf.sizeOf e < N → ∀ (ces : List Value) (left : Int) (w : World), k47.K w e ces → Calls Try.prog 39 #[.agg ces.toArray, .int .i64 left] w (RetI w) := by
  induction N with
  | zero => intro e h; omega
  | succ N ih0 =>
  rintro ⟨op, vl, wd, eh, el, nm, kids⟩ hN ces left w he
  have ih := fun (x : S47) (hx : SizeOf.sizeOf (⟨op, vl, wd, eh, el, nm, kids⟩ : S47) < N + 1 → SizeOf.sizeOf x < N) => ih0 x (hx hN)
  obtain ⟨A10, c10, rfl, hl10, hC10⟩ := k47_open he
  simp only at hl10 hC10
  have HC10 := Aside0.mk hC10
  have hm : kids.length ≤ 9223372036854775807 := hC10.2.1
  have HB : Aside0 (Below w.heap.size w w) := ⟨Below.refl _ _⟩
  unfold RetI
  clear he hl10 hC10 ih0 hN
  go_enter Try.func39, Try.ntmps39
  go_wp2_with (first | ((with_reducible refine gate_dst (N := 2) rfl ?_); refine box_event ?hg (N := 2) ?hd (cs := #[.int .i64 op, .string vl.f0, .int .i64 vl.f1, .string wd.f0, .int .i64 wd.f1, .string eh.f0, .int .i64 eh.f1, .string el.f0, .int .i64 el.f1, .string nm, .slice A10 kids.length c10]) (t := 47) ?hr ?_; (case hd => rfl); (case hg => rfl); (case hr => first | (go_simp; done) | (go_simp; rfl)); intro g2 hg_ w2 hbox_ hb_; have BK2 := Aside0.mk (hbox_); have GBK2 : Aside0 (w.heap.size ≤ g2) := ⟨by rw [hg_]; exact below_size HB.out⟩; replace HB : Aside0 (Below w.heap.size w w2) := ⟨below_step HB.out hb_⟩; clear hg_ hbox_ hb_))
  go_loopw [5, 6] (fun a b wr => ∃ (i : Nat) (v : Int), a = .int .i64 v ∧ b = .int .i64 (i : Int) ∧ i ≤ kids.length ∧ Aside0 (wr.heap[g2]? = some (.cells #[.int .i64 op, .string vl.f0, .int .i64 vl.f1, .string wd.f0, .int .i64 wd.f1, .string eh.f0, .int .i64 eh.f1, .string el.f0, .int .i64 el.f1, .string nm, .slice A10 kids.length c10] 47 (0, 0))) ∧ Aside0 (Below w.heap.size w wr)) (fun _ b _ => kids.length - (intOf b).toNat)
  case atStart => exact ⟨0, _, rfl, rfl, Nat.zero_le _, BK2, HB⟩
  case round =>
    clear BK2 HB
    obtain ⟨i, v, rfl, rfl, hi, BK2, HB⟩ := hrel
    have hk10 : wr.cell? ⟨g2, 10, none⟩ = some (.slice A10 kids.length c10) := blk_cell BK2.out 10
    have hk9 : wr.cell? ⟨g2, 9, none⟩ = some (.string nm) := blk_cell BK2.out 9
    have hk1 : wr.cell? ⟨g2, 1, none⟩ = some (.string vl.f0) := blk_cell BK2.out 1
    have hk3 : wr.cell? ⟨g2, 3, none⟩ = some (.string wd.f0) := blk_cell BK2.out 3
    have hk5 : wr.cell? ⟨g2, 5, none⟩ = some (.string eh.f0) := blk_cell BK2.out 5
    have hk7 : wr.cell? ⟨g2, 7, none⟩ = some (.string el.f0) := blk_cell BK2.out 7
    by_cases hlt : i < kids.length
    · have hi0 : (0 : Int) ≤ (i : Int) := by omega
      have hi1 : (i : Int) < (kids.length : Int) := by omega
      by_cases hv : (0 : Int) < v
      · obtain ⟨ad, cx, rfl, hKx, hcx⟩ := el_get (Kd.C_below HC10.out HB.out) i hlt
        have IHX := Aside0.mk (fun w' ces (z : Int) (hE : k47.K w' kids[i] ces) => ih kids[i] (kid_size (List.getElem_mem hlt)) ces z w' hE)
        obtain ⟨x, hx⟩ : ∃ x, kids[i] = x := ⟨_, rfl⟩
        rw [hx] at hKx
        simp only [hx] at IHX
        obtain ⟨E10, e10, rfl, _, _⟩ := k47_open hKx
        have HKX := Aside0.mk hKx
        have HCX := Aside0.mk hcx
        clear hKx hcx hx
        go_wp2_with (first | ((with_reducible refine gate_dst (N := 24) rfl ?_); refine wpList_load_cells rfl 47 (.tmp 23) rfl _ rfl [.int .i64 x.f0, .string x.f1.f0, .int .i64 x.f1.f1, .string x.f2.f0, .int .i64 x.f2.f1, .string x.f3.f0, .int .i64 x.f3.f1, .string x.f4.f0, .int .i64 x.f4.f1, .string x.f5, .slice E10 x.f6.length e10] ?hc _ Try.underlying47 rfl ?hq9 ?_; (case hc => exact HCX.out _ (Below.refl _ _)); (case hq9 => kernel_rfl)))
        refine (IHX.out _ _ _ HKX.out).mono ?_
        rintro e w2 ⟨⟨z, rfl⟩, hb⟩
        replace BK2 := Aside0.mk (blk_below BK2.out hb)
        replace HB := Aside0.mk (below_step HB.out hb)
        clear hb hk10 hk9 hk1 hk3 hk5 hk7
        go_wp2
        go_roundw
        case rel => exact ⟨i + 1, z, rfl, by go_num, by omega, BK2, HB⟩
        case measure => simp [intOf]; omega
      · go_wp2
        all_goals (go_ret; exact ⟨⟨_, rfl⟩, HB.out⟩)
    · go_wp2
      all_goals (go_ret; exact ⟨⟨_, rfl⟩, HB.out⟩)
set_option maxHeartbeats 64000000 in
set_option maxRecDepth 100000 in
theorem litem_any (x : S49) (cs : List Value) (left : Int) (w : World) (h : k49.K w x cs) (hB : B49 x) : Calls Try.prog 25 #[.agg cs.toArray, .int .i64 left] w (RetI w) := by
  obtain ⟨A7, c7, A8, c8, A19, c19, A30, c30, A41, c41, hcs, hl7, hC7, hl8, hC8, hl19, hC19, hl30, hC30, hl41, hC41⟩ := k49_open h
  have HCS := Aside0.mk hcs
  have HC7 := Aside0.mk hC7
  have HC8 := Aside0.mk hC8
  have HE7 := Aside0.mk (k47_mk w x.f7 hl19 hC19)
  have HE8 := Aside0.mk (k47_mk w x.f8 hl30 hC30)
  have HE9 := Aside0.mk (k47_mk w x.f9 hl41 hC41)
  have hm7 : x.f5.length ≤ 9223372036854775807 := hC7.2.1
  have hm8 : x.f6.length ≤ 9223372036854775807 := hC8.2.1
  have KS := Aside0.mk (fun (e : S47) (ces : List Value) (z : Int) (w' : World) hk => size_any (SizeOf.sizeOf e + 1) e (by omega) ces z w' hk)
  have HB : Aside0 (Below w.heap.size w w) := ⟨Below.refl _ _⟩
  unfold RetI at KS ⊢
  clear h hcs hl7 hC7 hl8 hC8 hl19 hC19 hl30 hC30 hl41 hC41
  obtain ⟨_, hb1, ⟨hb2, _⟩, ⟨hb3, _⟩, hb4, _⟩ := hB
  go_enter Try.func25, Try.ntmps25
  go_wp2_with (first | ((with_reducible refine gate_dst (N := 2) rfl ?_); refine box_event ?hg (N := 2) ?hd (cs := cs.toArray) (t := 49) ?hr ?_; (case hd => rfl); (case hg => rfl); (case hr => first | (go_simp; done) | (go_simp; rfl)); intro g2 hg_ w2 hbox_ hb_; have BK2 : Aside0 (w2.heap[g2]? = some (.cells cs.toArray 49 (0, 0))) := ⟨hbox_⟩; have GBK2 : Aside0 (w.heap.size ≤ g2) := ⟨by rw [hg_]; exact below_size HB.out⟩; replace HB : Aside0 (Below w.heap.size w w2) := ⟨below_step HB.out hb_⟩; clear hg_ hbox_ hb_; have hz1 : w2.cell? ⟨g2, 1, none⟩ = some (.string x.f1) := (blk_cell BK2.out 1).trans (by rw [HCS.out]; rfl); have hz2 : w2.cell? ⟨g2, 2, none⟩ = some (.string x.f2.f0) := (blk_cell BK2.out 2).trans (by rw [HCS.out]; rfl); have hz4 : w2.cell? ⟨g2, 4, none⟩ = some (.string x.f3.f0) := (blk_cell BK2.out 4).trans (by rw [HCS.out]; rfl); have hz6 : w2.cell? ⟨g2, 6, none⟩ = some (.string x.f4) := (blk_cell BK2.out 6).trans (by rw [HCS.out]; rfl); have hz7 : w2.cell? ⟨g2, 7, none⟩ = some (.slice A7 x.f5.length c7) := (blk_cell BK2.out 7).trans (by rw [HCS.out]; rfl); have hz8 : w2.cell? ⟨g2, 8, none⟩ = some (.slice A8 x.f6.length c8) := (blk_cell BK2.out 8).trans (by rw [HCS.out]; rfl); have hz9 : w2.cell? ⟨g2, 9, none⟩ = some (.int .i64 x.f7.f0) := (blk_cell BK2.out 9).trans (by rw [HCS.out]; rfl); have hz10 : w2.cell? ⟨g2, 10, none⟩ = some (.string x.f7.f1.f0) := (blk_cell BK2.out 10).trans (by rw [HCS.out]; rfl); have hz11 : w2.cell? ⟨g2, 11, none⟩ = some (.int .i64 x.f7.f1.f1) := (blk_cell BK2.out 11).trans (by rw [HCS.out]; rfl); have hz12 : w2.cell? ⟨g2, 12, none⟩ = some (.string x.f7.f2.f0) := (blk_cell BK2.out 12).trans (by rw [HCS.out]; rfl); have hz13 : w2.cell? ⟨g2, 13, none⟩ = some (.int .i64 x.f7.f2.f1) := (blk_cell BK2.out 13).trans (by rw [HCS.out]; rfl); have hz14 : w2.cell? ⟨g2, 14, none⟩ = some (.string x.f7.f3.f0) := (blk_cell BK2.out 14).trans (by rw [HCS.out]; rfl); have hz15 : w2.cell? ⟨g2, 15, none⟩ = some (.int .i64 x.f7.f3.f1) := (blk_cell BK2.out 15).trans (by rw [HCS.out]; rfl); have hz16 : w2.cell? ⟨g2, 16, none⟩ = some (.string x.f7.f4.f0) := (blk_cell BK2.out 16).trans (by rw [HCS.out]; rfl); have hz17 : w2.cell? ⟨g2, 17, none⟩ = some (.int .i64 x.f7.f4.f1) := (blk_cell BK2.out 17).trans (by rw [HCS.out]; rfl); have hz18 : w2.cell? ⟨g2, 18, none⟩ = some (.string x.f7.f5) := (blk_cell BK2.out 18).trans (by rw [HCS.out]; rfl); have hz19 : w2.cell? ⟨g2, 19, none⟩ = some (.slice A19 x.f7.f6.length c19) := (blk_cell BK2.out 19).trans (by rw [HCS.out]; rfl)))
  all_goals first
    | (go_ret; exact ⟨⟨_, rfl⟩, HB.out⟩)
    | skip
  refine (KS.out x.f7 _ _ _ (k47.K_below HB.out HE7.out)).mono ?_
  rintro e w3 ⟨⟨z3, rfl⟩, hb⟩
  replace BK2 := Aside0.mk (blk_below BK2.out hb)
  replace HB := Aside0.mk (below_step HB.out hb)
  clear hb hz1 hz2 hz4 hz6 hz7 hz8 hz9 hz10 hz11 hz12 hz13 hz14 hz15 hz16 hz17 hz18 hz19
  have hz20 : w3.cell? ⟨g2, 20, none⟩ = some (.int .i64 x.f8.f0) := (blk_cell BK2.out 20).trans (by rw [HCS.out]; rfl)
  have hz21 : w3.cell? ⟨g2, 21, none⟩ = some (.string x.f8.f1.f0) := (blk_cell BK2.out 21).trans (by rw [HCS.out]; rfl)
  have hz22 : w3.cell? ⟨g2, 22, none⟩ = some (.int .i64 x.f8.f1.f1) := (blk_cell BK2.out 22).trans (by rw [HCS.out]; rfl)
  have hz23 : w3.cell? ⟨g2, 23, none⟩ = some (.string x.f8.f2.f0) := (blk_cell BK2.out 23).trans (by rw [HCS.out]; rfl)
  have hz24 : w3.cell? ⟨g2, 24, none⟩ = some (.int .i64 x.f8.f2.f1) := (blk_cell BK2.out 24).trans (by rw [HCS.out]; rfl)
  have hz25 : w3.cell? ⟨g2, 25, none⟩ = some (.string x.f8.f3.f0) := (blk_cell BK2.out 25).trans (by rw [HCS.out]; rfl)
  have hz26 : w3.cell? ⟨g2, 26, none⟩ = some (.int .i64 x.f8.f3.f1) := (blk_cell BK2.out 26).trans (by rw [HCS.out]; rfl)
  have hz27 : w3.cell? ⟨g2, 27, none⟩ = some (.string x.f8.f4.f0) := (blk_cell BK2.out 27).trans (by rw [HCS.out]; rfl)
  have hz28 : w3.cell? ⟨g2, 28, none⟩ = some (.int .i64 x.f8.f4.f1) := (blk_cell BK2.out 28).trans (by rw [HCS.out]; rfl)
  have hz29 : w3.cell? ⟨g2, 29, none⟩ = some (.string x.f8.f5) := (blk_cell BK2.out 29).trans (by rw [HCS.out]; rfl)
  have hz30 : w3.cell? ⟨g2, 30, none⟩ = some (.slice A30 x.f8.f6.length c30) := (blk_cell BK2.out 30).trans (by rw [HCS.out]; rfl)
  go_wp2_with fail
  all_goals (
    refine (KS.out x.f8 _ _ _ (k47.K_below HB.out HE8.out)).mono ?_
    rintro e w4 ⟨⟨z4, rfl⟩, hb⟩
    replace BK2 := Aside0.mk (blk_below BK2.out hb)
    replace HB := Aside0.mk (below_step HB.out hb)
    clear hb
    clear hz20 hz21 hz22 hz23 hz24 hz25 hz26 hz27 hz28 hz29 hz30
    have hz31 : w4.cell? ⟨g2, 31, none⟩ = some (.int .i64 x.f9.f0) := (blk_cell BK2.out 31).trans (by rw [HCS.out]; rfl)
    have hz32 : w4.cell? ⟨g2, 32, none⟩ = some (.string x.f9.f1.f0) := (blk_cell BK2.out 32).trans (by rw [HCS.out]; rfl)
    have hz33 : w4.cell? ⟨g2, 33, none⟩ = some (.int .i64 x.f9.f1.f1) := (blk_cell BK2.out 33).trans (by rw [HCS.out]; rfl)
    have hz34 : w4.cell? ⟨g2, 34, none⟩ = some (.string x.f9.f2.f0) := (blk_cell BK2.out 34).trans (by rw [HCS.out]; rfl)
    have hz35 : w4.cell? ⟨g2, 35, none⟩ = some (.int .i64 x.f9.f2.f1) := (blk_cell BK2.out 35).trans (by rw [HCS.out]; rfl)
    have hz36 : w4.cell? ⟨g2, 36, none⟩ = some (.string x.f9.f3.f0) := (blk_cell BK2.out 36).trans (by rw [HCS.out]; rfl)
    have hz37 : w4.cell? ⟨g2, 37, none⟩ = some (.int .i64 x.f9.f3.f1) := (blk_cell BK2.out 37).trans (by rw [HCS.out]; rfl)
    have hz38 : w4.cell? ⟨g2, 38, none⟩ = some (.string x.f9.f4.f0) := (blk_cell BK2.out 38).trans (by rw [HCS.out]; rfl)
    have hz39 : w4.cell? ⟨g2, 39, none⟩ = some (.int .i64 x.f9.f4.f1) := (blk_cell BK2.out 39).trans (by rw [HCS.out]; rfl)
    have hz40 : w4.cell? ⟨g2, 40, none⟩ = some (.string x.f9.f5) := (blk_cell BK2.out 40).trans (by rw [HCS.out]; rfl)
    have hz41 : w4.cell? ⟨g2, 41, none⟩ = some (.slice A41 x.f9.f6.length c41) := (blk_cell BK2.out 41).trans (by rw [HCS.out]; rfl)
    go_wp2_with fail
    all_goals (
      refine (KS.out x.f9 _ _ _ (k47.K_below HB.out HE9.out)).mono ?_
      rintro e w5 ⟨⟨z5, rfl⟩, hb⟩
      replace BK2 := Aside0.mk (blk_below BK2.out hb)
      replace HB := Aside0.mk (below_step HB.out hb)
      clear hb
      clear hz31 hz32 hz33 hz34 hz35 hz36 hz37 hz38 hz39 hz40 hz41
      go_wp2
      go_loopw [5, 6] (fun a b wr => ∃ (i : Nat) (v : Int), a = .int .i64 v ∧ b = .int .i64 (i : Int) ∧ i ≤ x.f6.length ∧ Aside0 (wr.heap[g2]? = some (.cells cs.toArray 49 (0, 0))) ∧ Aside0 (Below w.heap.size w wr)) (fun _ b _ => x.f6.length - (intOf b).toNat)
      case atStart => exact ⟨0, _, rfl, rfl, Nat.zero_le _, BK2, HB⟩
      case round =>
        clear BK2 HB
        obtain ⟨i, v, rfl, rfl, hi, BK2, HB⟩ := hrel
        have hz8 : wr.cell? ⟨g2, 8, none⟩ = some (.slice A8 x.f6.length c8) := (blk_cell BK2.out 8).trans (by rw [HCS.out]; rfl)
        by_cases hgo : i < x.f6.length ∧ (0 : Int) < v
        · obtain ⟨hlt, hv⟩ := hgo
          have hi0 : (0 : Int) ≤ (i : Int) := by omega
          have hi1 : (i : Int) < (x.f6.length : Int) := by omega
          obtain ⟨ad, E11, e11, rfl, hx0, hx1, hx2, hx3, hx4, hx5, hx6, hx7, hx8, hx9, hx10, hx11, hle, hCe⟩ := at64 (Kd.C_below HC8.out HB.out) i hlt
          have HK := Aside0.mk (k47_mk wr x.f6[i].f1 hle hCe)
          obtain ⟨y, hy⟩ : ∃ y, x.f6[i].f1 = y := ⟨_, rfl⟩
          rw [hy] at hx1 hx2 hx3 hx4 hx5 hx6 hx7 hx8 hx9 hx10 hx11 HK
          generalize x.f6[i].f0 = y0 at hx0
          clear hle hCe hy
          go_wp2_with fail
          all_goals first
            | (go_ret; exact ⟨⟨_, rfl⟩, HB.out⟩)
            | (refine (KS.out y _ _ _ HK.out).mono ?_
               rintro e w6 ⟨⟨z6, rfl⟩, hb⟩
               replace BK2 := Aside0.mk (blk_below BK2.out hb)
               replace HB := Aside0.mk (below_step HB.out hb)
               clear hb
               go_wp2
               go_roundw
               case rel => exact ⟨i + 1, z6, rfl, by go_num, by omega, BK2, HB⟩
               case measure => simp [intOf]; omega)
        · have hdone : (i : Int) < (x.f6.length : Int) → ¬ ((0 : Int) < v) := fun h1 h2 => hgo ⟨by omega, h2⟩
          have hz7 : wr.cell? ⟨g2, 7, none⟩ = some (.slice A7 x.f5.length c7) := (blk_cell BK2.out 7).trans (by rw [HCS.out]; rfl)
          clear hgo
          have hcs : (i : Int) < (x.f6.length : Int) ∧ v ≤ 0 ∨ (x.f6.length : Int) ≤ (i : Int) := by
            by_cases h1 : (i : Int) < (x.f6.length : Int)
            · exact .inl ⟨h1, by have := hdone h1; omega⟩
            · exact .inr (by omega)
          clear hdone
          rcases hcs with ⟨hcs1, hcs2⟩ | hcs
          all_goals (
            go_wp2
            clear hz7 hz8
            go_loopw [7] (fun b wr => ∃ (i : Nat), b = .int .i64 (i : Int) ∧ i ≤ x.f5.length ∧ Aside0 (wr.heap[g2]? = some (.cells cs.toArray 49 (0, 0))) ∧ Aside0 (Below w.heap.size w wr)) (fun b _ => x.f5.length - (intOf b).toNat)
            case atStart => exact ⟨0, rfl, Nat.zero_le _, BK2, HB⟩
            case round =>
              clear BK2 HB
              obtain ⟨j, rfl, hj, BK2, HB⟩ := hrel
              have hz7 : wr.cell? ⟨g2, 7, none⟩ = some (.slice A7 x.f5.length c7) := (blk_cell BK2.out 7).trans (by rw [HCS.out]; rfl)
              by_cases hlt : j < x.f5.length
              · have hi0 : (0 : Int) ≤ (j : Int) := by omega
                have hi1 : (j : Int) < (x.f5.length : Int) := by omega
                obtain ⟨ad, rfl, hx0, hx1⟩ := at42 (Kd.C_below HC7.out HB.out) j hlt
                generalize x.f5[j].f0 = y0 at hx0
                clear hx1
                go_wp2
                all_goals first
                  | (go_ret; exact ⟨⟨_, rfl⟩, HB.out⟩)
                  | (go_roundw
                     case rel => exact ⟨j + 1, by go_num, by omega, BK2, HB⟩
                     case measure => simp [intOf]; omega)
              · go_wp2
                all_goals (go_ret; exact ⟨⟨_, rfl⟩, HB.out⟩))))
end Go.Proofs.Ytnfhlhjbmcofoaa.S
