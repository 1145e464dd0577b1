/- Scope: walks and plain laws of this seat's functions, merged out of smaller texts of this session (ScK, ScL, ScM, ScN, ScO, ScP). -/
import Derived.Test.YtnfhlhjbmcofoaaM05
import Derived.MapKept
import Derived.ChangeMaps4
namespace Go.Proofs.Ytnfhlhjbmcofoaa.S
open Go.RowKit Go.Proofs.YtnfhlhjbmcofoaaW.PrintWords Go.Proofs.YtnfhlhjbmcofoaaW.PrintLast
set_option linter.unusedVariables false
set_option linter.unusedSimpArgs false
def itemF (l : List S34) (n : Nat) (m : S34) (i : Nat) : List S40 := match m.f3[i]? with
  | some x => if itemS l n m (m.f3.take i) x ≠ 0 then [⟨itemS l n m (m.f3.take i) x, 0, n, i⟩] else []
  | none => []
def itemsF (l : List S34) (n : Nat) (m : S34) (k : Nat) : List S40 := (List.range k).flatMap (itemF l n m)
def modF (l : List S34) (n : Nat) : List S40 := match l[n]? with
  | some m => (if moduleS l n m ≠ 0 then [⟨moduleS l n m, 0, n, -1⟩] else []) ++ itemsF l n m m.f3.length
  | none => []
/-- What is wrong with a design's names. -/
def checkS (l : List S34) : List S40 := if l.length = 0 then [⟨51, 0, 0, -1⟩] else (List.range l.length).flatMap (modF l)
/-- Few modules, params, ports, items. -/
def Sml (l : List S34) : Prop := l.length ≤ 1000 ∧ ∀ m ∈ l, m.f1.length ≤ 1000 ∧ m.f2.length ≤ 1000 ∧ m.f3.length ≤ 1000
theorem flat_step {α : Type} (f : Nat → List α) (n : Nat) : (List.range (n + 1)).flatMap f = (List.range n).flatMap f ++ f n := by rw [List.range_succ, List.flatMap_append]; simp
theorem flat_len {α : Type} (f : Nat → List α) (b : Nat) (n : Nat) (h : ∀ i, i < n → (f i).length ≤ b) : ((List.range n).flatMap f).length ≤ n * b := by
  induction n with
  | zero => simp
  | succ n ih =>
    rw [flat_step, List.length_append]
    have h1 := ih (fun i hi => h i (by omega))
    have h2 := h n (by omega)
    rw [Nat.add_mul]
    omega
theorem itemF_len (l : List S34) (n : Nat) (m : S34) (i : Nat) : (itemF l n m i).length ≤ 1 := by
  unfold itemF
  split
  · split <;> simp
  · simp
theorem itemsF_len (l : List S34) (n : Nat) (m : S34) (k : Nat) : (itemsF l n m k).length ≤ k := by
  have := flat_len (itemF l n m) 1 k (fun i _ => itemF_len l n m i)
  unfold itemsF; omega
theorem modF_len (l : List S34) (n : Nat) (h : Sml l) : (modF l n).length ≤ 1001 := by
  unfold modF
  split
  · rename_i m hm
    have h1 := itemsF_len l n m m.f3.length
    have h2 := (h.2 m (List.mem_of_getElem? hm)).2.2
    rw [List.length_append]
    split <;> simp <;> omega
  · simp
set_option maxHeartbeats 32000000 in
set_option maxRecDepth 100000 in
theorem rcheck_any (A0 : Option Addr) (c0 : Nat) (l : List S34) (w : World) (h0 : Kd.C k34 w A0 l.length l) (hsm : Sml l) (hB : ∀ m ∈ l, ∀ x ∈ m.f3, B49 x) :
    Calls Try.prog 15 #[.agg #[.slice A0 l.length c0]] w (RetC k40 (checkS l) w) := by
  have HC := Aside0.mk h0
  have hm : l.length ≤ 9223372036854775807 := h0.2.1
  have HSM := Aside0.mk hsm
  have HBB := Aside0.mk hB
  have HB : Aside0 (Below w.heap.size w w) := ⟨Below.refl _ _⟩
  unfold checkS
  clear h0 hsm hB
  by_cases hl0 : l.length = 0
  · rw [if_pos hl0]
    have hl1 : ((l.length : Int) == 0) = true := by simp; exact List.length_eq_zero_iff.1 hl0
    have hl2 : (l.length : Int) = 0 := by omega
    clear hl0
    go_enter Try.func15, Try.ntmps15
    go_wp2_with (first | ((with_reducible refine gate_dst (N := 1) rfl ?_); refine box_event ?hg (N := 1) ?hd (cs := #[.slice A0 l.length c0]) (t := 24) ?hr ?_; (case hd => rfl); (case hg => rfl); (case hr => first | (go_simp; done) | (go_simp; rfl)); intro g1 hg_ w1 hbox_ hb_; have BK1 := Aside0.mk (hbox_); have GBK1 : Aside0 (w.heap.size ≤ g1) := ⟨by rw [hg_]; exact below_size HB.out⟩; replace HB : Aside0 (Below w.heap.size w w1) := ⟨below_step HB.out hb_⟩; clear hg_ hbox_ hb_; have hk1 : w1.cell? ⟨g1, 0, none⟩ = some (.slice A0 l.length c0) := blk_cell BK1.out 0) | ((with_reducible refine gate_dst (N := 13) rfl ?_); refine Kd.R_lit k40 _ 40 ?hg (N := 13) ?hd (xs := [⟨51, 0, 0, -1⟩]) (inner := [.int .i64 51, .int .i64 0, .int .i64 0, .int .i64 (-1)]) (ok := fun _ => True) (okp := fun _ => True) ?hr ?hp (fun _ hk => hk) trivial (Below.refl _ _) (Nat.le_refl _) (by simp) ?_; (case hd => rfl); (case hg => rfl); (case hr => first | (go_simp; done) | (go_simp; rfl)); (case hp => exact (Reps.snoc (Reps.none _ _) (k40_mkM _ _ _ _) rfl)); intro v_ wl ho_ hb_ hg_ hn_; have HO : Aside0 (k40.R 40 wl w1.heap.size (fun _ => True) v_ [⟨51, 0, 0, -1⟩]) := ⟨ho_⟩; have HBL : Aside0 (Below w.heap.size w wl) := ⟨below_step HB.out hb_⟩; clear ho_ hb_ hg_ hn_))
    go_ret
    obtain ⟨A, c, rfl, hle, hC⟩ := Kd.R_reads HO.out
    exact ⟨A, c, rfl, hle, hC, HBL.out⟩
  rw [if_neg hl0]
  have hl1 : ((l.length : Int) == 0) = false := by simp; intro h; exact hl0 (by rw [h]; rfl)
  obtain ⟨ad2, _, rfl, _, _⟩ := el_get HC.out 0 (by omega)
  obtain ⟨CL, hCL⟩ : ∃ CL, (List.range l.length).flatMap (modF l) = CL := ⟨_, rfl⟩
  rw [hCL]
  have HCL := Aside0.mk hCL
  clear hCL
  go_enter Try.func15, Try.ntmps15
  go_wp2_with (first | ((with_reducible refine gate_dst (N := 1) rfl ?_); refine box_event ?hg (N := 1) ?hd (cs := #[.slice (some ad2) l.length c0]) (t := 24) ?hr ?_; (case hd => rfl); (case hg => rfl); (case hr => first | (go_simp; done) | (go_simp; rfl)); intro g1 hg_ w1 hbox_ hb_; have BK1 := Aside0.mk (hbox_); have GBK1 : Aside0 (w.heap.size ≤ g1) := ⟨by rw [hg_]; exact below_size HB.out⟩; replace HB : Aside0 (Below w.heap.size w w1) := ⟨below_step HB.out hb_⟩; clear hg_ hbox_ hb_; have hk1 : w1.cell? ⟨g1, 0, none⟩ = some (.slice (some ad2) l.length c0) := blk_cell BK1.out 0))
  clear hk1
  have HO : Aside0 (k40.R 40 w1 w.heap.size (fun _ => True) (.slice none 0 0) ((List.range 0).flatMap (modF l))) := ⟨Kd.R_nil _ _ _ _ _⟩
  go_loopw [3, 4] (fun a b wr => ∃ n : Nat, b = .int .i64 (n : Int) ∧ n ≤ l.length ∧ Aside0 (k40.R 40 wr w.heap.size (fun _ => True) a ((List.range n).flatMap (modF l))) ∧ Aside0 (wr.heap[g1]? = some (.cells #[.slice (some ad2) l.length c0] 24 (0, 0))) ∧ Aside0 (Below w.heap.size w wr)) (fun _ b _ => l.length - (intOf b).toNat)
  case atStart => exact ⟨0, rfl, Nat.zero_le _, HO, BK1, HB⟩
  case round =>
    clear HO BK1 HB
    obtain ⟨n, rfl, hn, HO, BK1, HB⟩ := hrel
    have hk1 : wr.cell? ⟨g1, 0, none⟩ = some (.slice (some ad2) l.length c0) := blk_cell BK1.out 0
    by_cases hlt : n < l.length
    · have hnl2 : (n : Int) < (l.length : Int) := by omega
      have hln := flat_len (modF l) 1001 n (fun i _ => modF_len l i HSM.out)
      have hlm := HSM.out.1
      have hsml := HSM.out.2 l[n] (List.getElem_mem hlt)
      have hst : (List.range (n + 1)).flatMap (modF l) = (List.range n).flatMap (modF l) ++ modF l n := flat_step _ _
      have hmf : modF l n = (if moduleS l n l[n] ≠ 0 then [⟨moduleS l n l[n], 0, n, -1⟩] else []) ++ itemsF l n l[n] l[n].f3.length := by unfold modF; rw [List.getElem?_eq_getElem hlt]
      rw [hmf] at hst
      obtain ⟨T, hT⟩ : ∃ T, (List.range n).flatMap (modF l) = T := ⟨_, rfl⟩
      rw [hT] at hst hln HO
      have KM := Aside0.mk (fun w' hD => module_any (some ad2) c0 l n hlt w' hD (by omega))
      obtain ⟨e, he⟩ : ∃ e, moduleS l n l[n] = e := ⟨_, rfl⟩
      rw [he] at KM hst
      have KI := Aside0.mk (fun (i : Nat) (hi : i < l[n].f3.length) w' hD => item_any (some ad2) c0 l n i hlt hi w' hD (HBB.out _ (List.getElem_mem hlt) _ (List.getElem_mem hi)))
      have HST := Aside0.mk hst
      have hT1 : T.length ≤ 1001000 := by have : n * 1001 ≤ 999 * 1001 := Nat.mul_le_mul_right _ (by omega); omega
      have HTL : Aside0 ((T.length + 1) * 32 ≤ 140737488355328) := ⟨by omega⟩
      have HM3 := Aside0.mk hsml.2.2
      clear hst hmf hT he hln hlm hsml
      obtain ⟨wo, rfl⟩ : ∃ wo : World, wo = wr := ⟨_, rfl⟩
      go_wp2_with fail
      refine (KM.out _ (Kd.C_below HC.out HB.out)).mono ?_
      rintro e' wb ⟨rfl, hb⟩
      replace HO := Aside0.mk (Kd.R_below HO.out hb)
      replace BK1 := Aside0.mk (blk_below BK1.out hb)
      replace HB := Aside0.mk (below_step HB.out hb)
      clear hb hk1
      by_cases he0 : e = 0
      · subst he0
        have hst := HST.out
        rw [if_neg (by decide), List.nil_append] at hst
        replace HST := Aside0.mk hst
        clear hst
        go_wp2
        replace HO : Aside0 (k40.R 40 wb w.heap.size (fun _ => True) u3 (T ++ itemsF l n l[n] 0)) := ⟨by simpa [itemsF] using HO.out⟩
        go_loopw [3, 6] (fun a b wr => ∃ i : Nat, b = .int .i64 (i : Int) ∧ i ≤ l[n].f3.length ∧ Aside0 (k40.R 40 wr w.heap.size (fun _ => True) a (T ++ itemsF l n l[n] i)) ∧ Aside0 (wr.heap[g1]? = some (.cells #[.slice (some ad2) l.length c0] 24 (0, 0))) ∧ Aside0 (Below w.heap.size w wr)) (fun _ b _ => l[n].f3.length - (intOf b).toNat)
        case atStart => exact ⟨0, rfl, Nat.zero_le _, HO, BK1, HB⟩
        case round =>
          clear HO BK1 HB
          obtain ⟨i, rfl, hi, HO, BK1, HB⟩ := hrel
          have hk1 : wr.cell? ⟨g1, 0, none⟩ = some (.slice (some ad2) l.length c0) := blk_cell BK1.out 0
          have hm3 : l[n].f3.length ≤ 1000 := HM3.out
          obtain ⟨ad3, M1, d1, M2, d2, M3, d3, e9, hy1, hy2, hy3, hy4, _⟩ := at34 (Kd.C_below HC.out HB.out) n hlt
          obtain rfl := Option.some.inj e9
          clear hy1 hy2 hy3 e9
          by_cases hil : i < l[n].f3.length
          · have hil2 : (i : Int) < (l[n].f3.length : Int) := by omega
            have hq := itemsF_len l n l[n] i
            have hst2 : itemsF l n l[n] (i + 1) = itemsF l n l[n] i ++ itemF l n l[n] i := flat_step _ _
            have hif : itemF l n l[n] i = if itemS l n l[n] (l[n].f3.take i) l[n].f3[i] ≠ 0 then [⟨itemS l n l[n] (l[n].f3.take i) l[n].f3[i], 0, n, i⟩] else [] := by unfold itemF; rw [List.getElem?_eq_getElem hil]
            rw [hif] at hst2
            have KIi := Aside0.mk (KI.out i hil)
            obtain ⟨e2, he2⟩ : ∃ e2, itemS l n l[n] (l[n].f3.take i) l[n].f3[i] = e2 := ⟨_, rfl⟩
            rw [he2] at hst2 KIi
            obtain ⟨T2, hT2⟩ : ∃ T2, T ++ itemsF l n l[n] i = T2 := ⟨_, rfl⟩
            have hl2 : T2.length ≤ 1002001 := by rw [← hT2, List.length_append]; omega
            have HT2 : Aside0 (T ++ itemsF l n l[n] (i + 1) = T2 ++ if e2 ≠ 0 then [⟨e2, 0, n, i⟩] else []) := ⟨by rw [hst2, ← List.append_assoc, hT2]⟩
            rw [hT2] at HO
            have HTL : Aside0 ((T2.length + 1) * 32 ≤ 140737488355328) := ⟨by omega⟩
            clear hst2 hif he2 hT2 hq
            obtain ⟨wo2, rfl⟩ : ∃ wo2 : World, wo2 = wr := ⟨_, rfl⟩
            go_wp2_with fail
            refine (KIi.out _ (Kd.C_below HC.out HB.out)).mono ?_
            rintro e' wc ⟨rfl, hb⟩
            replace HO := Aside0.mk (Kd.R_below HO.out hb)
            replace BK1 := Aside0.mk (blk_below BK1.out hb)
            replace HB := Aside0.mk (below_step HB.out hb)
            clear hb hk1 hy4
            by_cases he2 : e2 = 0
            · subst he2
              have ht2 := HT2.out
              rw [if_neg (by decide), List.append_nil] at ht2
              replace HT2 := Aside0.mk ht2
              clear ht2
              go_wp2
              go_roundw
              case rel => exact ⟨i + 1, by go_num, by omega, ⟨by rw [HT2.out]; exact HO.out⟩, BK1, HB⟩
              case measure => simp [intOf]; omega
            · have he3 : (e2 != 0) = true := by simpa using he2
              have ht2 := HT2.out
              rw [if_pos he2] at ht2
              replace HT2 := Aside0.mk ht2
              clear ht2
              go_wp2_with (first | (at_builtin; refine Kd.R_append k40 (w0 := w) w.heap.size rfl (.tmp 49) (.tmp 54) 28 40 _ 32 rfl Try.underlying28 info40 rfl (show 0 < 4 by decide) (by omega) u3 T2 ⟨e2, 0, n, i⟩ [.int .i64 e2, .int .i64 0, .int .i64 n, .int .i64 i] (fun _ => True) (fun _ => False) rfl rfl ?hp (fun _ h => h.elim) (fun _ _ => trivial) ?hO ?hB ?hs ?hl ?_; (case hp => exact (k40_mkM _ _ _ _)); (case hO => exact HO.out); (case hB => exact HB.out); (case hs => exact below_size HB.out); (case hl => exact HTL.out); intro v1 w2 ho hb hgr hat; replace BK1 : Aside0 (w2.heap[g1]? = some (.cells #[.slice (some ad2) l.length c0] 24 (0, 0))) := ⟨blk_grown BK1.out hgr (Kd.R_ne HO.out BK1.out (by decide))⟩; replace HO := Aside0.mk ho; replace HB := Aside0.mk hb; clear ho hb hgr hat))
              go_roundw
              case rel => exact ⟨i + 1, by go_num, by omega, ⟨by rw [HT2.out]; exact HO.out⟩, BK1, HB⟩
              case measure => simp [intOf]; omega
          · obtain rfl : i = l[n].f3.length := by omega
            replace HO : Aside0 (k40.R 40 wr w.heap.size (fun _ => True) u3 ((List.range (n + 1)).flatMap (modF l))) := ⟨by rw [HST.out]; exact HO.out⟩
            go_wp2
            go_roundw
            case rel => exact ⟨n + 1, by go_num, by omega, HO, BK1, HB⟩
            case measure => simp [intOf]; omega
      · have he1 : (e != 0) = true := by simpa using he0
        have hst := HST.out
        rw [if_pos he0, ← List.append_assoc] at hst
        replace HST := Aside0.mk hst
        have hT2 : (T ++ [(⟨e, 0, n, -1⟩ : S40)]).length ≤ 1001001 := by simp; omega
        clear hst
        go_wp2_with (first | (at_builtin; refine Kd.R_append k40 (w0 := w) w.heap.size rfl (.tmp 26) (.tmp 30) 28 40 _ 32 rfl Try.underlying28 info40 rfl (show 0 < 4 by decide) (by omega) u3 T ⟨e, 0, n, (-1)⟩ [.int .i64 e, .int .i64 0, .int .i64 n, .int .i64 (-1)] (fun _ => True) (fun _ => False) rfl rfl ?hp (fun _ h => h.elim) (fun _ _ => trivial) ?hO ?hB ?hs ?hl ?_; (case hp => exact (k40_mkM _ _ _ _)); (case hO => exact HO.out); (case hB => exact HB.out); (case hs => exact below_size HB.out); (case hl => exact HTL.out); intro v1 w2 ho hb hgr hat; replace BK1 : Aside0 (w2.heap[g1]? = some (.cells #[.slice (some ad2) l.length c0] 24 (0, 0))) := ⟨blk_grown BK1.out hgr (Kd.R_ne HO.out BK1.out (by decide))⟩; replace HO := Aside0.mk ho; replace HB := Aside0.mk hb; clear ho hb hgr hat))
        obtain ⟨T, hT⟩ : ∃ T', T ++ [(⟨e, 0, n, -1⟩ : S40)] = T' := ⟨_, rfl⟩
        rw [hT] at HO HST hT2
        clear hT hT1
        have hT1 := hT2
        clear hT2
        replace HO : Aside0 (k40.R 40 w2 w.heap.size (fun _ => True) v1 (T ++ itemsF l n l[n] 0)) := ⟨by simpa [itemsF] using HO.out⟩
        go_loopw [3, 6] (fun a b wr => ∃ i : Nat, b = .int .i64 (i : Int) ∧ i ≤ l[n].f3.length ∧ Aside0 (k40.R 40 wr w.heap.size (fun _ => True) a (T ++ itemsF l n l[n] i)) ∧ Aside0 (wr.heap[g1]? = some (.cells #[.slice (some ad2) l.length c0] 24 (0, 0))) ∧ Aside0 (Below w.heap.size w wr)) (fun _ b _ => l[n].f3.length - (intOf b).toNat)
        case atStart => exact ⟨0, rfl, Nat.zero_le _, HO, BK1, HB⟩
        case round =>
          clear HO BK1 HB
          obtain ⟨i, rfl, hi, HO, BK1, HB⟩ := hrel
          have hk1 : wr.cell? ⟨g1, 0, none⟩ = some (.slice (some ad2) l.length c0) := blk_cell BK1.out 0
          have hm3 : l[n].f3.length ≤ 1000 := HM3.out
          obtain ⟨ad3, M1, d1, M2, d2, M3, d3, e9, hy1, hy2, hy3, hy4, _⟩ := at34 (Kd.C_below HC.out HB.out) n hlt
          obtain rfl := Option.some.inj e9
          clear hy1 hy2 hy3 e9
          by_cases hil : i < l[n].f3.length
          · have hil2 : (i : Int) < (l[n].f3.length : Int) := by omega
            have hq := itemsF_len l n l[n] i
            have hst2 : itemsF l n l[n] (i + 1) = itemsF l n l[n] i ++ itemF l n l[n] i := flat_step _ _
            have hif : itemF l n l[n] i = if itemS l n l[n] (l[n].f3.take i) l[n].f3[i] ≠ 0 then [⟨itemS l n l[n] (l[n].f3.take i) l[n].f3[i], 0, n, i⟩] else [] := by unfold itemF; rw [List.getElem?_eq_getElem hil]
            rw [hif] at hst2
            have KIi := Aside0.mk (KI.out i hil)
            obtain ⟨e2, he2⟩ : ∃ e2, itemS l n l[n] (l[n].f3.take i) l[n].f3[i] = e2 := ⟨_, rfl⟩
            rw [he2] at hst2 KIi
            obtain ⟨T2, hT2⟩ : ∃ T2, T ++ itemsF l n l[n] i = T2 := ⟨_, rfl⟩
            have hl2 : T2.length ≤ 1002001 := by rw [← hT2, List.length_append]; omega
            have HT2 : Aside0 (T ++ itemsF l n l[n] (i + 1) = T2 ++ if e2 ≠ 0 then [⟨e2, 0, n, i⟩] else []) := ⟨by rw [hst2, ← List.append_assoc, hT2]⟩
            rw [hT2] at HO
            have HTL : Aside0 ((T2.length + 1) * 32 ≤ 140737488355328) := ⟨by omega⟩
            clear hst2 hif he2 hT2 hq
            obtain ⟨wo2, rfl⟩ : ∃ wo2 : World, wo2 = wr := ⟨_, rfl⟩
            go_wp2_with fail
            refine (KIi.out _ (Kd.C_below HC.out HB.out)).mono ?_
            rintro e' wc ⟨rfl, hb⟩
            replace HO := Aside0.mk (Kd.R_below HO.out hb)
            replace BK1 := Aside0.mk (blk_below BK1.out hb)
            replace HB := Aside0.mk (below_step HB.out hb)
            clear hb hk1 hy4
            by_cases he2 : e2 = 0
            · subst he2
              have ht2 := HT2.out
              rw [if_neg (by decide), List.append_nil] at ht2
              replace HT2 := Aside0.mk ht2
              clear ht2
              go_wp2
              go_roundw
              case rel => exact ⟨i + 1, by go_num, by omega, ⟨by rw [HT2.out]; exact HO.out⟩, BK1, HB⟩
              case measure => simp [intOf]; omega
            · have he3 : (e2 != 0) = true := by simpa using he2
              have ht2 := HT2.out
              rw [if_pos he2] at ht2
              replace HT2 := Aside0.mk ht2
              clear ht2
              go_wp2_with (first | (at_builtin; refine Kd.R_append k40 (w0 := w) w.heap.size rfl (.tmp 49) (.tmp 54) 28 40 _ 32 rfl Try.underlying28 info40 rfl (show 0 < 4 by decide) (by omega) u3 T2 ⟨e2, 0, n, i⟩ [.int .i64 e2, .int .i64 0, .int .i64 n, .int .i64 i] (fun _ => True) (fun _ => False) rfl rfl ?hp (fun _ h => h.elim) (fun _ _ => trivial) ?hO ?hB ?hs ?hl ?_; (case hp => exact (k40_mkM _ _ _ _)); (case hO => exact HO.out); (case hB => exact HB.out); (case hs => exact below_size HB.out); (case hl => exact HTL.out); intro v1 w2 ho hb hgr hat; replace BK1 : Aside0 (w2.heap[g1]? = some (.cells #[.slice (some ad2) l.length c0] 24 (0, 0))) := ⟨blk_grown BK1.out hgr (Kd.R_ne HO.out BK1.out (by decide))⟩; replace HO := Aside0.mk ho; replace HB := Aside0.mk hb; clear ho hb hgr hat))
              go_roundw
              case rel => exact ⟨i + 1, by go_num, by omega, ⟨by rw [HT2.out]; exact HO.out⟩, BK1, HB⟩
              case measure => simp [intOf]; omega
          · obtain rfl : i = l[n].f3.length := by omega
            replace HO : Aside0 (k40.R 40 wr w.heap.size (fun _ => True) u3 ((List.range (n + 1)).flatMap (modF l))) := ⟨by rw [HST.out]; exact HO.out⟩
            go_wp2
            go_roundw
            case rel => exact ⟨n + 1, by go_num, by omega, HO, BK1, HB⟩
            case measure => simp [intOf]; omega
    · obtain rfl : n = l.length := by omega
      rw [HCL.out] at HO
      obtain ⟨A, c, rfl, hle, hC⟩ := Kd.R_reads HO.out
      have HLE := Aside0.mk hle
      have HCC := Aside0.mk hC
      clear hle hC
      go_wp2
      go_ret
      exact ⟨A, c, rfl, HLE.out, HCC.out, HB.out⟩
def eqF (x y : S40) : Bool := x.f0 == y.f0 && (x.f1 == y.f1 && (x.f2 == y.f2 && x.f3 == y.f3))
def gNe (b : List S40) (x : S40) (i : Nat) : Option Unit := if eqF x (b.getD i z40) = true then none else some ()
/-- Are two lists of faults one? -/
def sameS (a b : List S40) : Bool := a.length == b.length && (fst (gNe b) a 0).isNone
theorem gNe_no {b : List S40} {x y : S40} {i : Nat} (h : b.getD i z40 = y) (hq : eqF x y = true) : gNe b x i = none := by unfold gNe; rw [h, if_pos hq]
theorem gNe_yes {b : List S40} {x y : S40} {i : Nat} (h : b.getD i z40 = y) (hq : eqF x y = false) : gNe b x i = some () := by unfold gNe; rw [h, if_neg (by simp [hq])]
theorem fst_none {α β : Type} {g : α → Nat → Option β} : ∀ (l : List α) (i : Nat), (∀ j x, l[j]? = some x → g x (i + j) = none) → fst g l i = none
  | [], _, _ => rfl
  | x :: r, i, h => by
    rw [fst, show g x i = none from h 0 x rfl]
    exact fst_none r (i + 1) (fun j y hj => by rw [Nat.add_assoc, Nat.add_comm 1 j]; exact h (j + 1) y (by simpa using hj))
theorem same_refl (a : List S40) : sameS a a = true := by
  unfold sameS
  rw [fst_none a 0 (fun j x hj => by unfold gNe; rw [Nat.zero_add, List.getD_eq_getElem?_getD, hj]; simp [eqF])]
  simp
set_option maxHeartbeats 8000000 in
theorem same_any (A0 A1 : Option Addr) (c0 c1 : Nat) (a b : List S40) (w : World) (ha : Kd.C k40 w A0 a.length a) (hb : Kd.C k40 w A1 b.length b) :
    Calls Try.prog 13 #[.slice A0 a.length c0, .slice A1 b.length c1] w fun e w' => e = .returned (.bool (sameS a b)) ∧ Below w.heap.size w w' := by
  have HA := Aside0.mk ha
  have HC := Aside0.mk hb
  have hm1 : a.length ≤ 9223372036854775807 := ha.2.1
  have hm2 : b.length ≤ 9223372036854775807 := hb.2.1
  obtain ⟨z, hz⟩ : ∃ z, fst (gNe b) a 0 = z := ⟨_, rfl⟩
  unfold sameS
  rw [hz]
  have HZ := Aside0.mk hz
  clear hz ha hb
  by_cases hl : a.length = b.length
  · have hl1 : (a.length == b.length) = true := by simpa using hl
    have hl2 : ((a.length : Int) != (b.length : Int)) = false := by simp; omega
    rw [hl1, Bool.true_and]
    have HL := Aside0.mk hl
    clear hl hl1
    go_enter Try.func13, Try.ntmps13
    go_wp2
    go_loopw [5] (fun v wr => ∃ i : Nat, v = .int .i64 (i : Int) ∧ i ≤ a.length ∧ Aside0 (fst (gNe b) (a.drop i) i = z) ∧ Aside0 (Below w.heap.size w wr)) (fun v _ => a.length - (intOf v).toNat)
    case atStart => exact ⟨0, rfl, Nat.zero_le _, HZ, ⟨Below.refl _ _⟩⟩
    case round =>
      obtain ⟨i, rfl, hi, HI, HB⟩ := hrel
      by_cases hlt : i < a.length
      · have hlb : i < b.length := by have := HL.out; omega
        have hi0 : (0 : Int) ≤ (i : Int) := by omega
        have hi1 : (i : Int) < (a.length : Int) := by omega
        have hi2 : (i : Int) < (b.length : Int) := by omega
        obtain ⟨ad, rfl, hx0, hx1, hx2, hx3⟩ := at40 (Kd.C_below HA.out HB.out) i hlt
        obtain ⟨ad2, rfl, hy0, hy1, hy2, hy3⟩ := at40 (Kd.C_below HC.out HB.out) i hlb
        have hgd : b.getD i z40 = b[i] := by simp [List.getD_eq_getElem?_getD, hlb]
        obtain ⟨x, hx⟩ : ∃ x, a[i] = x := ⟨_, rfl⟩
        obtain ⟨y, hy⟩ : ∃ y, b[i] = y := ⟨_, rfl⟩
        have HX := Aside0.mk hx
        rw [hx] at hx0 hx1 hx2 hx3
        rw [hy] at hy0 hy1 hy2 hy3 hgd
        have HGD := Aside0.mk hgd
        clear hx hy hgd
        cases h0 : (x.f0 == y.f0) <;> cases h1 : (x.f1 == y.f1) <;> cases h2 : (x.f2 == y.f2) <;> cases h3 : (x.f3 == y.f3)
        all_goals (
          have HQ : Aside0 (eqF x y = (x.f0 == y.f0 && (x.f1 == y.f1 && (x.f2 == y.f2 && x.f3 == y.f3)))) := ⟨rfl⟩
          rw [h0, h1, h2, h3] at HQ
          go_wp2
          go_quiet (fail)
          go_wp2
          first
          | (have hp := gNe_no HGD.out HQ.out
             have HE := (fst_miss (gNe b) a i hlt (by rw [HX.out]; exact hp)).symm.trans HI.out
             go_roundw
             (case rel => exact ⟨i + 1, by go_num, by omega, ⟨HE⟩, ⟨pw_below_drewN HB.out _⟩⟩)
             (case measure => simp [intOf]; omega))
          | (have hp := gNe_yes HGD.out HQ.out
             have HE := (fst_hit (gNe b) a i hlt (by rw [HX.out]; exact hp)).symm.trans HI.out
             go_ret
             exact ⟨by rw [← HE]; rfl, pw_below_drewN HB.out _⟩))
      · have HE := (fst_end (gNe b) a i (by omega)).symm.trans HI.out
        go_wp2
        go_ret
        exact ⟨by rw [← HE]; rfl, HB.out⟩
  · have hl1 : (a.length == b.length) = false := by simpa using hl
    have hl2 : ((a.length : Int) != (b.length : Int)) = true := by simp; omega
    rw [hl1, Bool.false_and]
    clear hl hl1
    go_enter Try.func13, Try.ntmps13
    go_wp2
    go_ret
    exact ⟨rfl, Below.refl _ _⟩
open Go.MapKept Go.ChangeMaps
/-- The entries of a map, in the order in which they were laid. -/
def iEF (kv : List (Int × Int)) (j : Nat) : List MapEntry := (kv.zipIdx j).map fun p => { key := .int .i64 p.1.1, val := .int .i64 p.1.2, born := p.2 }
def iEs (kv : List (Int × Int)) : Array MapEntry := (iEF kv 0).toArray
theorem iEs_push (kv : List (Int × Int)) (k v : Int) : (iEs kv).push { key := .int .i64 k, val := .int .i64 v, born := kv.length } = iEs (kv ++ [(k, v)]) := by
  simp [iEs, iEF, List.zipIdx_append]
theorem find_iEF (y : Int) : ∀ (kv : List (Int × Int)) (j i : Nat), ∃ r, Instr.findNow (.int .i64) (.int .i64 y) (iEF kv j) i = some r ∧ r.map (·.2) = (kv.lookup y).map (Value.int .i64)
  | [], j, i => ⟨none, rfl, rfl⟩
  | (x, v) :: kv, j, i => by
    obtain ⟨r, h1, h2⟩ := find_iEF y kv (j + 1) (i + 1)
    by_cases e : y = x
    · subst e
      exact ⟨some (i, .int .i64 v), by simp [iEF, Instr.findNow, Instr.sameNow], by simp⟩
    · refine ⟨r, ?_, by rw [h2, List.lookup_cons, (by simpa using e : (y == x) = false)]⟩
      simp only [iEF] at h1
      simp [iEF, Instr.findNow, Instr.sameNow, h1, (by simpa using e : (y == x) = false)]
theorem run_look {w : World} {m : Nat} {kv : List (Int × Int)} (h : w.heap[m]? = some (.map (iEs kv) kv.length)) (y : Int) :
    (Instr.lookup 76 (.map (some m)) (.int .i64 y) false).run Try.prog w = .ok (.int .i64 ((kv.lookup y).getD 0)) w := by
  obtain ⟨r, h1, h2⟩ := find_iEF y kv 0 0
  have hk := run_findKey (P := Try.prog) (w := w) (kt := 3) (k := .int .i64 y) (l := (iEs kv).toList) Try.underlying3 h1
  have hc : ∀ e, (Instr.checkKey e 10000 3 (.int .i64 y)).run Try.prog w = .ok () w := fun e => run_checkKey (P := Try.prog) (w := w) (kt := 3) (k := .int .i64 y) Try.underlying3 rfl e 9999
  unfold Instr.lookup
  simp only [Sem.run_bind, run_underlying Try.underlying76, Result.andThen, Go.MapKept.run_getObj_map (P := Try.prog) h, Sem.run_pure, hc, hk]
  cases r with
  | none =>
    cases hl : kv.lookup y with
    | some v => rw [hl] at h2; cases h2
    | none => simp [Result.andThen, Try.zeroValue3]
  | some p =>
    cases hl : kv.lookup y with
    | none => rw [hl] at h2; cases h2
    | some v => rw [hl] at h2; simp at h2; simp [h2]
theorem run_lookOk {w : World} {m : Nat} {kv : List (Int × Int)} (h : w.heap[m]? = some (.map (iEs kv) kv.length)) (y : Int) :
    (Instr.lookup 76 (.map (some m)) (.int .i64 y) true).run Try.prog w = .ok (.tuple #[.int .i64 ((kv.lookup y).getD 0), .bool (kv.lookup y).isSome]) w := by
  obtain ⟨r, h1, h2⟩ := find_iEF y kv 0 0
  have hk := run_findKey (P := Try.prog) (w := w) (kt := 3) (k := .int .i64 y) (l := (iEs kv).toList) Try.underlying3 h1
  have hc : ∀ e, (Instr.checkKey e 10000 3 (.int .i64 y)).run Try.prog w = .ok () w := fun e => run_checkKey (P := Try.prog) (w := w) (kt := 3) (k := .int .i64 y) Try.underlying3 rfl e 9999
  unfold Instr.lookup
  simp only [Sem.run_bind, run_underlying Try.underlying76, Result.andThen, Go.MapKept.run_getObj_map (P := Try.prog) h, Sem.run_pure, hc, hk]
  cases r with
  | none =>
    cases hl : kv.lookup y with
    | some v => rw [hl] at h2; cases h2
    | none => simp [Result.andThen, Try.zeroValue3]
  | some p =>
    cases hl : kv.lookup y with
    | none => rw [hl] at h2; cases h2
    | some v => rw [hl] at h2; simp at h2; simp [h2]
theorem run_put {w : World} {m : Nat} {kv : List (Int × Int)} (h : w.heap[m]? = some (.map (iEs kv) kv.length)) (k v : Int) (hn : kv.lookup k = none) :
    (Instr.mapUpdate 76 (.map (some m)) (.int .i64 k) (.int .i64 v)).run Try.prog w = .ok () { w with heap := w.heap.set! m (.map (iEs (kv ++ [(k, v)])) (kv ++ [(k, v)]).length) } := by
  obtain ⟨r, h1, h2⟩ := find_iEF k kv 0 0
  rw [hn] at h2
  obtain rfl : r = none := by cases r <;> simp_all
  have hk := run_findKey (P := Try.prog) (w := w) (kt := 3) (k := .int .i64 k) (l := (iEs kv).toList) Try.underlying3 h1
  have hc : ∀ e, (Instr.checkKey e 10000 3 (.int .i64 k)).run Try.prog w = .ok () w := fun e => run_checkKey (P := Try.prog) (w := w) (kt := 3) (k := .int .i64 k) Try.underlying3 rfl e 9999
  unfold Instr.mapUpdate
  simp only [Sem.run_bind, run_underlying Try.underlying76, Result.andThen, Go.MapKept.run_getObj_map (P := Try.prog) h, Sem.run_pure, hc, hk, Go.MapKept.run_setObj_map (P := Try.prog) _ h, iEs_push]
  simp
section
variable {ops : Array Oper} {rest : List Oper} {o : Oper} {a : Act} {Q : Exit → Act → World → Prop}
theorem make_event {W : World} (hgd : o.guard = none) {N : Tmp} (_hd : o.dst = some N) (ho : o.op = .makeMap 76 none)
    (h : ∀ g, g = W.heap.size → ∀ w1, w1.heap[g]? = some (.map (iEs []) ([] : List (Int × Int)).length) → Below W.heap.size W w1 → wpList Try.prog ops Q rest (a.put o.dst (.map (some g))) w1) : wpList Try.prog ops Q (o :: rest) a W :=
  Kd.event_run hgd (v := .map (some W.heap.size)) (w1 := W.alloc (.map #[] 0)) (by simp [execOp, ho, Instr.makeMap, Result.andThen]) (h _ rfl _ (blk_new W _) (below_alloc (Below.refl _ _) _))
theorem put_event {W : World} (hN : o.dst = none) (hgd : o.guard = none) (mo : Operand) (k v : Int) (ho : o.op = .insert 76 mo (.const (.int .i64 k)) (.const (.int .i64 v))) {g : Nat} {kv : List (Int × Int)} (hm : a.eval mo = .map (some g))
    (hg : W.heap[g]? = some (.map (iEs kv) kv.length)) (hn : kv.lookup k = none)
    (h : ∀ w1, w1.heap[g]? = some (.map (iEs (kv ++ [(k, v)])) (kv ++ [(k, v)]).length) → (∀ j, j ≠ g → w1.heap[j]? = W.heap[j]?) → w1.heap.size = W.heap.size → (∀ B, B ≤ g → ∀ w0, Below B w0 W → Below B w0 w1) → wpList Try.prog ops Q rest a w1) : wpList Try.prog ops Q (o :: rest) a W := by
  have hrun := run_put hg k v hn
  have hlt : g < W.heap.size := blk_lt hg
  have hfar : ∀ j, j ≠ g → (W.heap.set! g (.map (iEs (kv ++ [(k, v)])) (kv ++ [(k, v)]).length))[j]? = W.heap[j]? := fun j hj => by
    simp [Array.getElem?_setIfInBounds]; intro e; exact absurd e.symm hj
  have e1 : a.eval (.const (.int .i64 k)) = .int .i64 k := rfl
  have e2 : a.eval (.const (.int .i64 v)) = .int .i64 v := rfl
  refine wpList_plain hgd fun K hK => ?_
  unfold Oper.wp execOp
  simp only [ho, hm, e1, e2, Sem.run_bind, Sem.run_pure, Result.andThen_ok, hrun]
  show K (a.put o.dst undef) _
  rw [hN]
  refine hK a _ (h _ ?_ hfar (by simp) (fun B hB w0 hb => ⟨hb.os, hb.tape, hb.output, by simpa using hb.size, fun k hk => (hfar k (by omega)).trans (hb.block k hk)⟩))
  simp [Array.getElem?_setIfInBounds, hlt]
end
theorem beq_swap (a b : ByteArray) : (a.toList == b.toList) = (b.toList == a.toList) := by rw [Bool.eq_iff_iff, beq_iff_eq, beq_iff_eq]; exact ⟨Eq.symm, Eq.symm⟩
def gP {α : Type} (p : α → Bool) (x : α) (i : Nat) : Option Int := if p x = true then some (i : Int) else none
/-- What a function value does that is asked of a row's elements. -/
structure Asks {α : Type} (K : Nat) (caps : Array Value) (w : World) (d : Kd α) (l : List α) (p : α → Bool) : Prop where
  mk :: (out : ∀ (i : Nat) (hi : i < l.length) (cs : List Value) (w' : World), Below w.heap.size w w' → d.K w' l[i] cs → Calls Try.prog K (#[.agg cs.toArray] ++ caps) w' fun e w'' => e = .returned (.bool (p l[i])) ∧ Below w'.heap.size w' w'')
set_option maxHeartbeats 16000000 in
set_option maxRecDepth 100000 in
theorem indexFunc59 (K : Nat) (caps : Array Value) (p : S59 → Bool) (A0 : Option Addr) (c0 : Nat) (l : List S59) (w : World) (h : Kd.C k59 w A0 l.length l)
    (ha : Asks K caps w k59 l p) (eg : ∀ args w, (callFunc K args).run Try.prog w = .ok (.enter K args) w) :
    Calls Try.prog 33 #[.slice A0 l.length c0, .func (.func K) #[] caps] w fun e w' => e = .returned (.int .i64 ((fst (gP p) l 0).getD (-1))) ∧ Below w.heap.size w w' := by
  have HC := Aside0.mk h
  have hm : l.length ≤ 9223372036854775807 := h.2.1
  obtain ⟨z, hz⟩ : ∃ z, fst (gP p) l 0 = z := ⟨_, rfl⟩
  rw [hz]
  have HZ := Aside0.mk hz
  have HA := Aside0.mk ha
  have hu := Try.underlying59
  clear hz h ha
  go_enter Try.func33, Try.ntmps33
  go_wp2
  go_loopw [5, 8] (fun _ v wr => ∃ i : Nat, v = .int .i64 (i : Int) ∧ i ≤ l.length ∧ Aside0 (fst (gP p) (l.drop i) i = z) ∧ Aside0 (Below w.heap.size w wr)) (fun _ v _ => l.length - (intOf v).toNat)
  case atStart => exact ⟨0, rfl, Nat.zero_le _, HZ, ⟨Below.refl _ _⟩⟩
  case round =>
    obtain ⟨i, rfl, hi, HI, HB⟩ := hrel
    by_cases hlt : i < l.length
    · obtain ⟨ad, cx, rfl, hK, hcx⟩ := el_get HC.out i hlt
      have HK := Aside0.mk hK
      have hi0 : (0 : Int) ≤ (i : Int) := by omega
      have hi1 : (i : Int) < (l.length : Int) := by omega
      have hp := HA.out.out i hlt
      obtain ⟨b, hb0⟩ : ∃ b, p l[i] = b := ⟨_, rfl⟩
      rw [hb0] at hp
      have HPB := Aside0.mk hb0
      have HP := Aside0.mk hp
      obtain rfl := k59_open hK
      have HX := Aside0.mk hcx
      clear hp hb0 hK hcx
      go_wp2_with (first | ((with_reducible refine gate_dst (N := 15) rfl ?_); refine wpList_load_cells rfl 59 (.tmp 14) rfl _ rfl [.bool l[i].f0, .string l[i].f1, .string l[i].f2.f0, .int .i64 l[i].f2.f1] ?hc _ Try.underlying59 rfl ?hi ?_; (case hc => exact HX.out _ HB.out); (case hi => kernel_rfl)))
      refine (HP.out _ _ HB.out (k59.K_below HB.out HK.out)).mono ?_
      rintro e w1 ⟨rfl, hb⟩
      replace HB := Aside0.mk (below_step HB.out hb)
      clear hb
      cases b
      · have HE := (fst_miss (gP p) l i hlt (by unfold gP; rw [HPB.out]; rfl)).symm.trans HI.out
        go_wp2
        go_roundw
        case rel => exact ⟨i + 1, by go_num, by omega, ⟨HE⟩, HB⟩
        case measure => simp [intOf]; omega
      · have HE := (fst_hit (gP p) l i hlt (b := (i : Int)) (by unfold gP; rw [HPB.out]; rfl)).symm.trans HI.out
        go_wp2
        go_ret
        exact ⟨by rw [← HE]; rfl, HB.out⟩
    · have HE := (fst_end (gP p) l i (by omega)).symm.trans HI.out
      go_wp2
      go_ret
      exact ⟨by rw [← HE]; rfl, HB.out⟩
set_option maxHeartbeats 16000000 in
set_option maxRecDepth 100000 in
theorem indexFunc34 (K : Nat) (caps : Array Value) (p : S34 → Bool) (A0 : Option Addr) (c0 : Nat) (l : List S34) (w : World) (h : Kd.C k34 w A0 l.length l)
    (ha : Asks K caps w k34 l p) (eg : ∀ args w, (callFunc K args).run Try.prog w = .ok (.enter K args) w) :
    Calls Try.prog 53 #[.slice A0 l.length c0, .func (.func K) #[] caps] w fun e w' => e = .returned (.int .i64 ((fst (gP p) l 0).getD (-1))) ∧ Below w.heap.size w w' := by
  have HC := Aside0.mk h
  have hm : l.length ≤ 9223372036854775807 := h.2.1
  obtain ⟨z, hz⟩ : ∃ z, fst (gP p) l 0 = z := ⟨_, rfl⟩
  rw [hz]
  have HZ := Aside0.mk hz
  have HA := Aside0.mk ha
  have hu := Try.underlying34
  clear hz h ha
  go_enter Try.func53, Try.ntmps53
  go_wp2
  go_loopw [5, 8] (fun _ v wr => ∃ i : Nat, v = .int .i64 (i : Int) ∧ i ≤ l.length ∧ Aside0 (fst (gP p) (l.drop i) i = z) ∧ Aside0 (Below w.heap.size w wr)) (fun _ v _ => l.length - (intOf v).toNat)
  case atStart => exact ⟨0, rfl, Nat.zero_le _, HZ, ⟨Below.refl _ _⟩⟩
  case round =>
    obtain ⟨i, rfl, hi, HI, HB⟩ := hrel
    by_cases hlt : i < l.length
    · obtain ⟨ad, cx, rfl, hK, hcx⟩ := el_get HC.out i hlt
      have HK := Aside0.mk hK
      have hi0 : (0 : Int) ≤ (i : Int) := by omega
      have hi1 : (i : Int) < (l.length : Int) := by omega
      have hp := HA.out.out i hlt
      obtain ⟨b, hb0⟩ : ∃ b, p l[i] = b := ⟨_, rfl⟩
      rw [hb0] at hp
      have HPB := Aside0.mk hb0
      have HP := Aside0.mk hp
      obtain ⟨A1, c1, A2, c2, A3, c3, rfl, _⟩ := k34_open hK
      have HX := Aside0.mk hcx
      clear hp hb0 hK hcx
      go_wp2_with (first | ((with_reducible refine gate_dst (N := 15) rfl ?_); refine wpList_load_cells rfl 34 (.tmp 14) rfl _ rfl [.string l[i].f0, .slice A1 l[i].f1.length c1, .slice A2 l[i].f2.length c2, .slice A3 l[i].f3.length c3] ?hc _ Try.underlying34 rfl ?hi ?_; (case hc => exact HX.out _ HB.out); (case hi => kernel_rfl)))
      refine (HP.out _ _ HB.out (k34.K_below HB.out HK.out)).mono ?_
      rintro e w1 ⟨rfl, hb⟩
      replace HB := Aside0.mk (below_step HB.out hb)
      clear hb
      cases b
      · have HE := (fst_miss (gP p) l i hlt (by unfold gP; rw [HPB.out]; rfl)).symm.trans HI.out
        go_wp2
        go_roundw
        case rel => exact ⟨i + 1, by go_num, by omega, ⟨HE⟩, HB⟩
        case measure => simp [intOf]; omega
      · have HE := (fst_hit (gP p) l i hlt (b := (i : Int)) (by unfold gP; rw [HPB.out]; rfl)).symm.trans HI.out
        go_wp2
        go_ret
        exact ⟨by rw [← HE]; rfl, HB.out⟩
    · have HE := (fst_end (gP p) l i (by omega)).symm.trans HI.out
      go_wp2
      go_ret
      exact ⟨by rw [← HE]; rfl, HB.out⟩
set_option maxHeartbeats 16000000 in
set_option maxRecDepth 100000 in
theorem indexFunc49 (K : Nat) (caps : Array Value) (p : S49 → Bool) (A0 : Option Addr) (c0 : Nat) (l : List S49) (w : World) (h : Kd.C k49 w A0 l.length l)
    (ha : Asks K caps w k49 l p) (eg : ∀ args w, (callFunc K args).run Try.prog w = .ok (.enter K args) w) :
    Calls Try.prog 35 #[.slice A0 l.length c0, .func (.func K) #[] caps] w fun e w' => e = .returned (.int .i64 ((fst (gP p) l 0).getD (-1))) ∧ Below w.heap.size w w' := by
  have HC := Aside0.mk h
  have hm : l.length ≤ 9223372036854775807 := h.2.1
  obtain ⟨z, hz⟩ : ∃ z, fst (gP p) l 0 = z := ⟨_, rfl⟩
  rw [hz]
  have HZ := Aside0.mk hz
  have HA := Aside0.mk ha
  have hu := Try.underlying49
  clear hz h ha
  go_enter Try.func35, Try.ntmps35
  go_wp2
  go_loopw [5, 8] (fun _ v wr => ∃ i : Nat, v = .int .i64 (i : Int) ∧ i ≤ l.length ∧ Aside0 (fst (gP p) (l.drop i) i = z) ∧ Aside0 (Below w.heap.size w wr)) (fun _ v _ => l.length - (intOf v).toNat)
  case atStart => exact ⟨0, rfl, Nat.zero_le _, HZ, ⟨Below.refl _ _⟩⟩
  case round =>
    obtain ⟨i, rfl, hi, HI, HB⟩ := hrel
    by_cases hlt : i < l.length
    · obtain ⟨ad, cx, rfl, hK, hcx⟩ := el_get HC.out i hlt
      have HK := Aside0.mk hK
      have hi0 : (0 : Int) ≤ (i : Int) := by omega
      have hi1 : (i : Int) < (l.length : Int) := by omega
      have hp := HA.out.out i hlt
      obtain ⟨b, hb0⟩ : ∃ b, p l[i] = b := ⟨_, rfl⟩
      rw [hb0] at hp
      have HPB := Aside0.mk hb0
      have HP := Aside0.mk hp
      obtain ⟨A7, c7, A8, c8, A19, c19, A30, c30, A41, c41, rfl, _⟩ := k49_open hK
      have HX := Aside0.mk hcx
      clear hp hb0 hK hcx
      go_wp2_with (first | ((with_reducible refine gate_dst (N := 15) rfl ?_); refine wpList_load_cells rfl 49 (.tmp 14) rfl _ rfl [.int .i64 l[i].f0, .string l[i].f1, .string l[i].f2.f0, .int .i64 l[i].f2.f1, .string l[i].f3.f0, .int .i64 l[i].f3.f1, .string l[i].f4, .slice A7 l[i].f5.length c7, .slice A8 l[i].f6.length c8, .int .i64 l[i].f7.f0, .string l[i].f7.f1.f0, .int .i64 l[i].f7.f1.f1, .string l[i].f7.f2.f0, .int .i64 l[i].f7.f2.f1, .string l[i].f7.f3.f0, .int .i64 l[i].f7.f3.f1, .string l[i].f7.f4.f0, .int .i64 l[i].f7.f4.f1, .string l[i].f7.f5, .slice A19 l[i].f7.f6.length c19, .int .i64 l[i].f8.f0, .string l[i].f8.f1.f0, .int .i64 l[i].f8.f1.f1, .string l[i].f8.f2.f0, .int .i64 l[i].f8.f2.f1, .string l[i].f8.f3.f0, .int .i64 l[i].f8.f3.f1, .string l[i].f8.f4.f0, .int .i64 l[i].f8.f4.f1, .string l[i].f8.f5, .slice A30 l[i].f8.f6.length c30, .int .i64 l[i].f9.f0, .string l[i].f9.f1.f0, .int .i64 l[i].f9.f1.f1, .string l[i].f9.f2.f0, .int .i64 l[i].f9.f2.f1, .string l[i].f9.f3.f0, .int .i64 l[i].f9.f3.f1, .string l[i].f9.f4.f0, .int .i64 l[i].f9.f4.f1, .string l[i].f9.f5, .slice A41 l[i].f9.f6.length c41] ?hc _ Try.underlying49 rfl ?hi ?_; (case hc => exact HX.out _ HB.out); (case hi => kernel_rfl)))
      refine (HP.out _ _ HB.out (k49.K_below HB.out HK.out)).mono ?_
      rintro e w1 ⟨rfl, hb⟩
      replace HB := Aside0.mk (below_step HB.out hb)
      clear hb
      cases b
      · have HE := (fst_miss (gP p) l i hlt (by unfold gP; rw [HPB.out]; rfl)).symm.trans HI.out
        go_wp2
        go_roundw
        case rel => exact ⟨i + 1, by go_num, by omega, ⟨HE⟩, HB⟩
        case measure => simp [intOf]; omega
      · have HE := (fst_hit (gP p) l i hlt (b := (i : Int)) (by unfold gP; rw [HPB.out]; rfl)).symm.trans HI.out
        go_wp2
        go_ret
        exact ⟨by rw [← HE]; rfl, HB.out⟩
    · have HE := (fst_end (gP p) l i (by omega)).symm.trans HI.out
      go_wp2
      go_ret
      exact ⟨by rw [← HE]; rfl, HB.out⟩
set_option maxHeartbeats 16000000 in
theorem indexStr (A0 : Option Addr) (c0 : Nat) (l : List ByteArray) (nm : ByteArray) (w : World) (h : Kd.C Kd.string w A0 l.length l) :
    Calls Try.prog 32 #[.slice A0 l.length c0, .string nm] w fun e w' => e = .returned (.int .i64 ((fst (gName nm) l 0).getD (-1))) ∧ Below w.heap.size w w' := by
  have HC := Aside0.mk h
  have hm : l.length ≤ 9223372036854775807 := h.2.1
  obtain ⟨z, hz⟩ : ∃ z, fst (gName nm) l 0 = z := ⟨_, rfl⟩
  rw [hz]
  have HZ := Aside0.mk hz
  clear hz h
  go_enter Try.func32, Try.ntmps32
  go_wp2
  go_loopw [5, 8] (fun _ v wr => ∃ i : Nat, v = .int .i64 (i : Int) ∧ i ≤ l.length ∧ Aside0 (fst (gName nm) (l.drop i) i = z) ∧ Aside0 (Below w.heap.size w wr)) (fun _ v _ => l.length - (intOf v).toNat)
  case atStart => exact ⟨0, rfl, Nat.zero_le _, HZ, ⟨Below.refl _ _⟩⟩
  case round =>
    obtain ⟨i, rfl, hi, HI, HB⟩ := hrel
    by_cases hlt : i < l.length
    · obtain ⟨ad, rfl, hx0⟩ := atStr (Kd.C_below HC.out HB.out) i hlt
      have hi0 : (0 : Int) ≤ (i : Int) := by omega
      have hi1 : (i : Int) < (l.length : Int) := by omega
      cases hq : (nm.toList == l[i].toList)
      · have HE := (fst_miss (gName nm) l i hlt (gName_miss ((beq_swap _ _).trans hq))).symm.trans HI.out
        go_wp2
        go_roundw
        case rel => exact ⟨i + 1, by go_num, by omega, ⟨HE⟩, HB⟩
        case measure => simp [intOf]; omega
      · have HE := (fst_hit (gName nm) l i hlt (gName_hit ((beq_swap _ _).trans hq))).symm.trans HI.out
        go_wp2
        go_ret
        exact ⟨by rw [← HE]; rfl, HB.out⟩
    · have HE := (fst_end (gName nm) l i (by omega)).symm.trans HI.out
      go_wp2
      go_ret
      exact ⟨by rw [← HE]; rfl, HB.out⟩
def hasStr (l : List ByteArray) (nm : ByteArray) : Bool := (fst (gName nm) l 0).isSome
theorem hasStr_idx (l : List ByteArray) (nm : ByteArray) : decide (0 ≤ (fst (gName nm) l 0).getD (-1)) = hasStr l nm := by
  unfold hasStr
  cases h : fst (gName nm) l 0 with
  | none => rfl
  | some b =>
    have := fst_range (g := gName nm) (fun x i b h => by unfold gName at h; split at h <;> simp_all) l 0 b h
    simp; omega
set_option maxHeartbeats 16000000 in
theorem containsStr (A0 : Option Addr) (c0 : Nat) (l : List ByteArray) (nm : ByteArray) (w : World) (h : Kd.C Kd.string w A0 l.length l) :
    Calls Try.prog 44 #[.slice A0 l.length c0, .string nm] w fun e w' => e = .returned (.bool (hasStr l nm)) ∧ Below w.heap.size w w' := by
  have K1 := Aside0.mk (indexStr A0 c0 l nm w h)
  rw [← hasStr_idx]
  generalize (fst (gName nm) l 0).getD (-1) = z at K1 ⊢
  clear h
  go_enter Try.func44, Try.ntmps44
  go_wp2_with fail
  refine K1.out.mono ?_
  rintro e w1 ⟨rfl, hb⟩
  go_wp2
  go_ret
  exact ⟨rfl, hb⟩
theorem atInt {w : World} {A : Option Addr} {l : List Int} (h : Kd.C (Kd.int .i64) w A l.length l) (i : Nat) (hi : i < l.length) : ∃ ad, A = some ad ∧ w.cell? (ad.add i) = some (.int .i64 l[i]) := by
  obtain ⟨ad, e, hc⟩ := Kd.at_int h (i : Int) (by omega) (by omega)
  have e2 : Go.Proofs.YtnfhlhjbmcofoaaW.PrintWords.rd l (i : Int) = l[i] := by simp [Go.Proofs.YtnfhlhjbmcofoaaW.PrintWords.rd, List.getD_eq_getElem?_getD, hi]
  rw [e2, Int.toNat_natCast] at hc
  exact ⟨ad, e, hc⟩
def gInt (nm : Int) (x : Int) (i : Nat) : Option Int := if x = nm then some (i : Int) else none
theorem gInt_hit {nm x : Int} {i : Nat} (h : (nm == x) = true) : gInt nm x i = some (i : Int) := by unfold gInt; rw [if_pos (by simpa using (by simpa using h : nm = x).symm)]
theorem gInt_miss {nm x : Int} {i : Nat} (h : (nm == x) = false) : gInt nm x i = none := by unfold gInt; rw [if_neg]; intro e; subst e; simp at h
set_option maxHeartbeats 16000000 in
theorem indexInt (A0 : Option Addr) (c0 : Nat) (l : List Int) (nm : Int) (w : World) (h : Kd.C (Kd.int .i64) w A0 l.length l) :
    Calls Try.prog 70 #[.slice A0 l.length c0, .int .i64 nm] w fun e w' => e = .returned (.int .i64 ((fst (gInt nm) l 0).getD (-1))) ∧ Below w.heap.size w w' := by
  have HC := Aside0.mk h
  have hm : l.length ≤ 9223372036854775807 := h.2.1
  obtain ⟨z, hz⟩ : ∃ z, fst (gInt nm) l 0 = z := ⟨_, rfl⟩
  rw [hz]
  have HZ := Aside0.mk hz
  clear hz h
  go_enter Try.func70, Try.ntmps70
  go_wp2
  go_loopw [5, 8] (fun _ v wr => ∃ i : Nat, v = .int .i64 (i : Int) ∧ i ≤ l.length ∧ Aside0 (fst (gInt nm) (l.drop i) i = z) ∧ Aside0 (Below w.heap.size w wr)) (fun _ v _ => l.length - (intOf v).toNat)
  case atStart => exact ⟨0, rfl, Nat.zero_le _, HZ, ⟨Below.refl _ _⟩⟩
  case round =>
    obtain ⟨i, rfl, hi, HI, HB⟩ := hrel
    by_cases hlt : i < l.length
    · obtain ⟨ad, rfl, hx0⟩ := atInt (Kd.C_below HC.out HB.out) i hlt
      have hi0 : (0 : Int) ≤ (i : Int) := by omega
      have hi1 : (i : Int) < (l.length : Int) := by omega
      cases hq : (nm == l[i])
      · have HE := (fst_miss (gInt nm) l i hlt (gInt_miss hq)).symm.trans HI.out
        go_wp2
        go_roundw
        case rel => exact ⟨i + 1, by go_num, by omega, ⟨HE⟩, HB⟩
        case measure => simp [intOf]; omega
      · have HE := (fst_hit (gInt nm) l i hlt (gInt_hit hq)).symm.trans HI.out
        go_wp2
        go_ret
        exact ⟨by rw [← HE]; rfl, HB.out⟩
    · have HE := (fst_end (gInt nm) l i (by omega)).symm.trans HI.out
      go_wp2
      go_ret
      exact ⟨by rw [← HE]; rfl, HB.out⟩
def hasInt (l : List Int) (nm : Int) : Bool := (fst (gInt nm) l 0).isSome
theorem hasInt_idx (l : List Int) (nm : Int) : decide (0 ≤ (fst (gInt nm) l 0).getD (-1)) = hasInt l nm := by
  unfold hasInt
  cases h : fst (gInt nm) l 0 with
  | none => rfl
  | some b =>
    have := fst_range (g := gInt nm) (fun x i b h => by unfold gInt at h; split at h <;> simp_all) l 0 b h
    simp; omega
set_option maxHeartbeats 16000000 in
theorem containsInt (A0 : Option Addr) (c0 : Nat) (l : List Int) (nm : Int) (w : World) (h : Kd.C (Kd.int .i64) w A0 l.length l) :
    Calls Try.prog 65 #[.slice A0 l.length c0, .int .i64 nm] w fun e w' => e = .returned (.bool (hasInt l nm)) ∧ Below w.heap.size w w' := by
  have K1 := Aside0.mk (indexInt A0 c0 l nm w h)
  rw [← hasInt_idx]
  generalize (fst (gInt nm) l 0).getD (-1) = z at K1 ⊢
  clear h
  go_enter Try.func65, Try.ntmps65
  go_wp2_with fail
  refine K1.out.mono ?_
  rintro e w1 ⟨rfl, hb⟩
  go_wp2
  go_ret
  exact ⟨rfl, hb⟩
theorem enters_my {P : Program} {f : FuncId} {fn : Func} {c : Code} (hf : P.funcs[f]? = some fn) (hname : (fn.name == "runtime.NumGoroutine") = false) (hb : fn.body = some c) : ∀ (args : Array Value) (w : World), (callFunc f args).run P w = .ok (.enter f args) w := by
  intro args w
  have h1 : fn.name ≠ "runtime.NumGoroutine" := by simpa using hname
  simp [callFunc, hf, h1, hb, mark]
theorem enter54 : ∀ args w, (callFunc 54 args).run Try.prog w = .ok (.enter 54 args) w := enters_my Try.func54 (by kernel_rfl) rfl
theorem enter34 : ∀ args w, (callFunc 34 args).run Try.prog w = .ok (.enter 34 args) w := enters_my Try.func34 (by kernel_rfl) rfl
theorem enter36 : ∀ args w, (callFunc 36 args).run Try.prog w = .ok (.enter 36 args) w := enters_my Try.func36 (by kernel_rfl) rfl
set_option maxHeartbeats 4000000 in
theorem clo54 (p : Addr) (m : S34) (cs : List Value) (nm : ByteArray) (w : World) (hp : w.cell? p = some (.string nm)) (h : k34.K w m cs) :
    Calls Try.prog 54 #[.agg cs.toArray, .pointer (some p)] w fun e w' => e = .returned (.bool (eqS m.f0 nm)) ∧ Below w.heap.size w w' := by
  obtain ⟨A1, c1, A2, c2, A3, c3, rfl, _⟩ := k34_open h
  have hbk := World.block_lt_of_cell? w _ hp
  have H : Aside0 ((m.f0.toList == nm.toList) = eqS m.f0 nm) := ⟨rfl⟩
  clear h
  go_enter Try.func54, Try.ntmps54
  go_wp2
  go_ret
  exact ⟨by rw [← H.out]; rfl, below_alloc (Below.refl _ _) _⟩
set_option maxHeartbeats 4000000 in
theorem clo34 (p : Addr) (m : S59) (cs : List Value) (nm : ByteArray) (w : World) (hp : w.cell? p = some (.string nm)) (h : k59.K w m cs) :
    Calls Try.prog 34 #[.agg cs.toArray, .pointer (some p)] w fun e w' => e = .returned (.bool (eqS m.f1 nm)) ∧ Below w.heap.size w w' := by
  obtain rfl := k59_open h
  have hbk := World.block_lt_of_cell? w _ hp
  have H : Aside0 ((m.f1.toList == nm.toList) = eqS m.f1 nm) := ⟨rfl⟩
  clear h
  go_enter Try.func34, Try.ntmps34
  go_wp2
  go_ret
  exact ⟨by rw [← H.out]; rfl, below_alloc (Below.refl _ _) _⟩
def kv4 : List (Int × Int) := [(1, 4), (2, 5), (5, 6), (7, 7)]
theorem kv4_ik (k : Int) : (kv4.lookup k).getD 0 = ik k := by
  unfold kv4 ik
  by_cases h1 : k = 1
  · subst h1; rfl
  by_cases h2 : k = 2
  · subst h2; rfl
  by_cases h5 : k = 5
  · subst h5; rfl
  by_cases h7 : k = 7
  · subst h7; rfl
  have e1 : (k == 1) = false := by simpa using h1
  have e2 : (k == 2) = false := by simpa using h2
  have e5 : (k == 5) = false := by simpa using h5
  have e7 : (k == 7) = false := by simpa using h7
  simp [List.lookup_cons, e1, e2, e5, e7, h1, h2, h5, h7]
theorem ik_range (k : Int) : 0 ≤ ik k := by unfold ik; split; decide; split; decide; split; decide; split <;> decide
set_option maxHeartbeats 16000000 in
set_option maxRecDepth 100000 in
theorem clo36 (p8 p3 : Addr) (g : Nat) (x : S49) (cs : List Value) (nm : ByteArray) (w : World) (hp : w.cell? p3 = some (.string nm)) (hp8 : w.cell? p8 = some (.map (some g))) (hg : w.heap[g]? = some (.map (iEs kv4) kv4.length)) (h : k49.K w x cs) :
    Calls Try.prog 36 #[.agg cs.toArray, .pointer (some p8), .pointer (some p3)] w fun e w' => e = .returned (.bool (decide (0 < ik x.f0) && eqS x.f1 nm)) ∧ Below w.heap.size w w' := by
  obtain ⟨A7, c7, A8, c8, A19, c19, A30, c30, A41, c41, rfl, _⟩ := k49_open h
  have hbk := World.block_lt_of_cell? w _ hp
  have hbk8 := World.block_lt_of_cell? w _ hp8
  have hgl : g < w.heap.size := blk_lt hg
  have HG := Aside0.mk hg
  obtain ⟨q, hq⟩ : ∃ q, eqS x.f1 nm = q := ⟨_, rfl⟩
  have HQ : Aside0 ((x.f1.toList == nm.toList) = q) := ⟨hq⟩
  have hk : ∀ w', w'.heap[g]? = some (.map (iEs kv4) kv4.length) → (Instr.lookup 76 (.map (some g)) (.int .i64 x.f0) false).run Try.prog w' = .ok (.int .i64 (ik x.f0)) w' := fun w' h' => by rw [run_look h', kv4_ik]
  have HK := Aside0.mk hk
  obtain ⟨k, hkk⟩ : ∃ k, ik x.f0 = k := ⟨_, rfl⟩
  rw [hq]
  rw [hkk] at HK ⊢
  have HB : Aside0 (Below w.heap.size w w) := ⟨Below.refl _ _⟩
  clear h hg hq hk hkk
  go_enter Try.func36, Try.ntmps36
  by_cases hk0 : 0 < k
  · have hkd : decide (0 < k) = true := by simpa using hk0
    have hqq := HQ.out
    rw [hkd]
    cases q
    · go_wp2_with (first | ((with_reducible refine gate_dst (N := 3) rfl ?_); refine box_event ?hg (N := 3) ?hd (cs := #[.int .i64 x.f0, .string x.f1, .string x.f2.f0, .int .i64 x.f2.f1, .string x.f3.f0, .int .i64 x.f3.f1, .string x.f4, .slice A7 x.f5.length c7, .slice A8 x.f6.length c8, .int .i64 x.f7.f0, .string x.f7.f1.f0, .int .i64 x.f7.f1.f1, .string x.f7.f2.f0, .int .i64 x.f7.f2.f1, .string x.f7.f3.f0, .int .i64 x.f7.f3.f1, .string x.f7.f4.f0, .int .i64 x.f7.f4.f1, .string x.f7.f5, .slice A19 x.f7.f6.length c19, .int .i64 x.f8.f0, .string x.f8.f1.f0, .int .i64 x.f8.f1.f1, .string x.f8.f2.f0, .int .i64 x.f8.f2.f1, .string x.f8.f3.f0, .int .i64 x.f8.f3.f1, .string x.f8.f4.f0, .int .i64 x.f8.f4.f1, .string x.f8.f5, .slice A30 x.f8.f6.length c30, .int .i64 x.f9.f0, .string x.f9.f1.f0, .int .i64 x.f9.f1.f1, .string x.f9.f2.f0, .int .i64 x.f9.f2.f1, .string x.f9.f3.f0, .int .i64 x.f9.f3.f1, .string x.f9.f4.f0, .int .i64 x.f9.f4.f1, .string x.f9.f5, .slice A41 x.f9.f6.length c41]) (t := 49) ?hr ?_; (case hd => rfl); (case hg => rfl); (case hr => first | (go_simp; done) | (go_simp; rfl)); intro g1 hg_ w1 hbox_ hb_; have BK1 := Aside0.mk (hbox_); have GBK1 : Aside0 (w.heap.size ≤ g1) := ⟨by rw [hg_]; exact below_size HB.out⟩; replace HB : Aside0 (Below w.heap.size w w1) := ⟨below_step HB.out hb_⟩; clear hg_ hbox_ hb_; have hx0 : w1.cell? ⟨g1, 0, none⟩ = some (.int .i64 x.f0) := blk_cell BK1.out 0; have hx1 : w1.cell? ⟨g1, 1, none⟩ = some (.string x.f1) := blk_cell BK1.out 1; replace hp := pw_cell_below HB.out hp; replace hp8 := pw_cell_below HB.out hp8; have hlk := HK.out w1 (blk_below HG.out HB.out)))
      go_ret
      exact ⟨rfl, HB.out⟩
    · go_wp2_with (first | ((with_reducible refine gate_dst (N := 3) rfl ?_); refine box_event ?hg (N := 3) ?hd (cs := #[.int .i64 x.f0, .string x.f1, .string x.f2.f0, .int .i64 x.f2.f1, .string x.f3.f0, .int .i64 x.f3.f1, .string x.f4, .slice A7 x.f5.length c7, .slice A8 x.f6.length c8, .int .i64 x.f7.f0, .string x.f7.f1.f0, .int .i64 x.f7.f1.f1, .string x.f7.f2.f0, .int .i64 x.f7.f2.f1, .string x.f7.f3.f0, .int .i64 x.f7.f3.f1, .string x.f7.f4.f0, .int .i64 x.f7.f4.f1, .string x.f7.f5, .slice A19 x.f7.f6.length c19, .int .i64 x.f8.f0, .string x.f8.f1.f0, .int .i64 x.f8.f1.f1, .string x.f8.f2.f0, .int .i64 x.f8.f2.f1, .string x.f8.f3.f0, .int .i64 x.f8.f3.f1, .string x.f8.f4.f0, .int .i64 x.f8.f4.f1, .string x.f8.f5, .slice A30 x.f8.f6.length c30, .int .i64 x.f9.f0, .string x.f9.f1.f0, .int .i64 x.f9.f1.f1, .string x.f9.f2.f0, .int .i64 x.f9.f2.f1, .string x.f9.f3.f0, .int .i64 x.f9.f3.f1, .string x.f9.f4.f0, .int .i64 x.f9.f4.f1, .string x.f9.f5, .slice A41 x.f9.f6.length c41]) (t := 49) ?hr ?_; (case hd => rfl); (case hg => rfl); (case hr => first | (go_simp; done) | (go_simp; rfl)); intro g1 hg_ w1 hbox_ hb_; have BK1 := Aside0.mk (hbox_); have GBK1 : Aside0 (w.heap.size ≤ g1) := ⟨by rw [hg_]; exact below_size HB.out⟩; replace HB : Aside0 (Below w.heap.size w w1) := ⟨below_step HB.out hb_⟩; clear hg_ hbox_ hb_; have hx0 : w1.cell? ⟨g1, 0, none⟩ = some (.int .i64 x.f0) := blk_cell BK1.out 0; have hx1 : w1.cell? ⟨g1, 1, none⟩ = some (.string x.f1) := blk_cell BK1.out 1; replace hp := pw_cell_below HB.out hp; replace hp8 := pw_cell_below HB.out hp8; have hlk := HK.out w1 (blk_below HG.out HB.out)))
      go_ret
      exact ⟨rfl, HB.out⟩
  · have hkd : decide (0 < k) = false := by simpa using hk0
    rw [hkd]
    go_wp2_with (first | ((with_reducible refine gate_dst (N := 3) rfl ?_); refine box_event ?hg (N := 3) ?hd (cs := #[.int .i64 x.f0, .string x.f1, .string x.f2.f0, .int .i64 x.f2.f1, .string x.f3.f0, .int .i64 x.f3.f1, .string x.f4, .slice A7 x.f5.length c7, .slice A8 x.f6.length c8, .int .i64 x.f7.f0, .string x.f7.f1.f0, .int .i64 x.f7.f1.f1, .string x.f7.f2.f0, .int .i64 x.f7.f2.f1, .string x.f7.f3.f0, .int .i64 x.f7.f3.f1, .string x.f7.f4.f0, .int .i64 x.f7.f4.f1, .string x.f7.f5, .slice A19 x.f7.f6.length c19, .int .i64 x.f8.f0, .string x.f8.f1.f0, .int .i64 x.f8.f1.f1, .string x.f8.f2.f0, .int .i64 x.f8.f2.f1, .string x.f8.f3.f0, .int .i64 x.f8.f3.f1, .string x.f8.f4.f0, .int .i64 x.f8.f4.f1, .string x.f8.f5, .slice A30 x.f8.f6.length c30, .int .i64 x.f9.f0, .string x.f9.f1.f0, .int .i64 x.f9.f1.f1, .string x.f9.f2.f0, .int .i64 x.f9.f2.f1, .string x.f9.f3.f0, .int .i64 x.f9.f3.f1, .string x.f9.f4.f0, .int .i64 x.f9.f4.f1, .string x.f9.f5, .slice A41 x.f9.f6.length c41]) (t := 49) ?hr ?_; (case hd => rfl); (case hg => rfl); (case hr => first | (go_simp; done) | (go_simp; rfl)); intro g1 hg_ w1 hbox_ hb_; have BK1 := Aside0.mk (hbox_); have GBK1 : Aside0 (w.heap.size ≤ g1) := ⟨by rw [hg_]; exact below_size HB.out⟩; replace HB : Aside0 (Below w.heap.size w w1) := ⟨below_step HB.out hb_⟩; clear hg_ hbox_ hb_; have hx0 : w1.cell? ⟨g1, 0, none⟩ = some (.int .i64 x.f0) := blk_cell BK1.out 0; have hx1 : w1.cell? ⟨g1, 1, none⟩ = some (.string x.f1) := blk_cell BK1.out 1; replace hp := pw_cell_below HB.out hp; replace hp8 := pw_cell_below HB.out hp8; have hlk := HK.out w1 (blk_below HG.out HB.out)))
    go_ret
    exact ⟨rfl, HB.out⟩
set_option maxHeartbeats 16000000 in
theorem sfind_any (A0 : Option Addr) (c0 : Nat) (l : List S34) (nm : ByteArray) (w : World) (h : Kd.C k34 w A0 l.length l) :
    Calls Try.prog 40 #[.agg #[.slice A0 l.length c0], .string nm] w fun e w' => e = .returned (.int .i64 (findS l nm)) ∧ Below w.heap.size w w' := by
  have HC := Aside0.mk h
  have HB : Aside0 (Below w.heap.size w w) := ⟨Below.refl _ _⟩
  have e : findS l nm = (fst (gP fun m : S34 => eqS m.f0 nm) l 0).getD (-1) := rfl
  rw [e]
  clear h e
  go_enter Try.func40, Try.ntmps40
  go_wp2_with (first | ((with_reducible refine gate_dst (N := 2) rfl ?_); refine box_event ?hg (N := 2) ?hd (cs := #[.slice A0 l.length c0]) (t := 24) ?hr ?_; (case hd => rfl); (case hg => rfl); (case hr => first | (go_simp; done) | (go_simp; rfl)); intro g2 hg_ w2 hbox_ hb_; have BK2 := Aside0.mk (hbox_); have GBK2 : Aside0 (w.heap.size ≤ g2) := ⟨by rw [hg_]; exact below_size HB.out⟩; replace HB : Aside0 (Below w.heap.size w w2) := ⟨below_step HB.out hb_⟩; clear hg_ hbox_ hb_; have hk2 : w2.cell? ⟨g2, 0, none⟩ = some (.slice A0 l.length c0) := blk_cell BK2.out 0) | ((with_reducible refine gate_dst (N := 3) rfl ?_); refine box_event ?hg (N := 3) ?hd (cs := #[.string nm]) (t := 9) ?hr ?_; (case hd => rfl); (case hg => rfl); (case hr => first | (go_simp; done) | (go_simp; rfl)); intro g3 hg_ w3 hbox_ hb_; replace BK2 := Aside0.mk (blk_below BK2.out hb_); have BK3 := Aside0.mk (hbox_); have GBK3 : Aside0 (w.heap.size ≤ g3) := ⟨by rw [hg_]; exact below_size HB.out⟩; replace HB : Aside0 (Below w.heap.size w w3) := ⟨below_step HB.out hb_⟩; clear hg_ hbox_ hb_; replace hk2 : w3.cell? ⟨g2, 0, none⟩ = some (.slice A0 l.length c0) := blk_cell BK2.out 0))
  refine (indexFunc34 54 #[.pointer (some ⟨g3, 0, none⟩)] (fun m => eqS m.f0 nm) A0 c0 l w3 (Kd.C_below HC.out HB.out) ⟨fun i hi cs w' hb hk => clo54 _ l[i] cs nm w' (by rw [blk_cell (blk_below BK3.out hb)]; rfl) hk⟩ enter54).mono ?_
  rintro e w4 ⟨rfl, hb⟩
  go_wp2
  go_ret
  exact ⟨rfl, below_step HB.out hb⟩
theorem fst_pair {α : Type} (g : α → Nat → Option (Int × Int)) (p : α → Bool) (v : α → Int) (hg : ∀ x i, g x i = if p x = true then some (v x, (i : Int)) else none) : ∀ (l : List α) (i : Nat), fst g l i = match fst (gP p) l i with
    | none => none
    | some b => (l[b.toNat - i]?).map fun x => (v x, b)
  | [], i => rfl
  | x :: r, i => by
    rw [fst, fst, hg]
    unfold gP
    by_cases h : p x = true
    · rw [if_pos h, if_pos h]; simp
    · rw [if_neg h, if_neg h]
      simp only
      rw [fst_pair g p v hg r (i + 1)]
      unfold gP at *
      cases hq : fst (fun x i => if p x = true then some ((i : Nat) : Int) else none) r (i + 1) with
      | none => rfl
      | some b =>
        have h1 := fst_range (g := fun x (i : Nat) => if p x = true then some (i : Int) else none) (fun x i b h => by split at h <;> simp_all) r (i + 1) b hq
        have h2 : b.toNat - i = (b.toNat - (i + 1)) + 1 := by omega
        simp only
        rw [h2, List.getElem?_cons_succ]
theorem gP_some {α : Type} {p : α → Bool} {l : List α} {b : Int} (h : fst (gP p) l 0 = some b) : ∃ n : Nat, b = (n : Int) ∧ n < l.length := by
  have h1 := fst_range (g := gP p) (fun x i b h => by unfold gP at h; split at h <;> simp_all) l 0 b h
  exact ⟨b.toNat, by omega, by omega⟩
theorem at59z {w : World} {A : Option Addr} {l : List S59} (h : Kd.C k59 w A l.length l) (i : Nat) (hi : i < l.length) : ∃ ad, A = some ad ∧ w.cell? (ad.add (i * 4)) = some (.bool l[i].f0) := by
  obtain ⟨ad, e, h0, _⟩ := at59 h i hi
  exact ⟨ad, e, h0⟩
theorem kind_split (m : S34) (nm : ByteArray) : kindS m nm = if 0 ≤ paramS m.f1 nm then (1, paramS m.f1 nm) else
    match fst (gP fun p : S59 => eqS p.f1 nm) m.f2 0 with
    | some b => (if (m.f2.getD b.toNat z59).f0 = true then 2 else 3, b)
    | none => match fst (gP fun x : S49 => decide (0 < ik x.f0) && eqS x.f1 nm) m.f3 0 with
      | some b => (ik (m.f3.getD b.toNat z49).f0, b)
      | none => (0, 0) := by
  unfold kindS
  rw [fst_pair (gPort nm) (fun p => eqS p.f1 nm) (fun p => if p.f0 = true then 2 else 3) (fun x i => rfl),
    fst_pair (gItem nm) (fun x => decide (0 < ik x.f0) && eqS x.f1 nm) (fun x => ik x.f0) (fun x i => by
      unfold gItem
      by_cases h : eqS x.f1 nm = true ∧ 0 < ik x.f0
      · rw [if_pos h, if_pos (by simp [h.1, h.2])]
      · rw [if_neg h, if_neg (by simp; intro h2; simpa [h2] using h)])]
  split
  · rfl
  · cases h1 : fst (gP fun p : S59 => eqS p.f1 nm) m.f2 0 with
    | some b =>
      obtain ⟨n, rfl, hn⟩ := gP_some h1
      simp [List.getElem?_eq_getElem hn, List.getD_eq_getElem?_getD]
    | none =>
      cases h2 : fst (gP fun x : S49 => decide (0 < ik x.f0) && eqS x.f1 nm) m.f3 0 with
      | some b =>
        obtain ⟨n, rfl, hn⟩ := gP_some h2
        simp [List.getElem?_eq_getElem hn, List.getD_eq_getElem?_getD]
      | none => rfl
set_option maxHeartbeats 32000000 in
set_option maxRecDepth 100000 in
theorem skind_any (m : S34) (cs : List Value) (nm : ByteArray) (w : World) (h : k34.K w m cs) :
    Calls Try.prog 16 #[.agg cs.toArray, .string nm] w fun e w' => e = .returned (.tuple #[.int .i64 (kindS m nm).1, .int .i64 (kindS m nm).2]) ∧ Below w.heap.size w w' := by
  obtain ⟨A1, c1, A2, c2, A3, c3, rfl, hl1, hC1, hl2, hC2, hl3, hC3⟩ := k34_open h
  have HC2 := Aside0.mk hC2
  have HC3 := Aside0.mk hC3
  have HB : Aside0 (Below w.heap.size w w) := ⟨Below.refl _ _⟩
  have K1 := Aside0.mk (fun w' (hb : Below w.heap.size w w') => indexStr A1 c1 m.f1 nm w' (Kd.C_below hC1 hb))
  have K2 := Aside0.mk (fun (p : Addr) w' (hb : Below w.heap.size w w') (hp : w'.cell? p = some (.string nm)) => indexFunc59 34 #[.pointer (some p)] (fun p => eqS p.f1 nm) A2 c2 m.f2 w' (Kd.C_below hC2 hb) ⟨fun i hi cs w'' hb' hk => clo34 p m.f2[i] cs nm w'' (pw_cell_below hb' hp) hk⟩ enter34)
  have K3 := Aside0.mk (fun (p8 p3 : Addr) (g : Nat) w' (hb : Below w.heap.size w w') (hp : w'.cell? p3 = some (.string nm)) (hp8 : w'.cell? p8 = some (.map (some g))) (hg : w'.heap[g]? = some (.map (iEs kv4) kv4.length)) =>
    indexFunc49 36 #[.pointer (some p8), .pointer (some p3)] (fun x => decide (0 < ik x.f0) && eqS x.f1 nm) A3 c3 m.f3 w' (Kd.C_below hC3 hb) ⟨fun i hi cs w'' hb' hk => clo36 p8 p3 g m.f3[i] cs nm w'' (pw_cell_below hb' hp) (pw_cell_below hb' hp8) (blk_below hg hb') hk⟩ enter36)
  rw [kind_split]
  have hps : paramS m.f1 nm = (fst (gName nm) m.f1 0).getD (-1) := rfl
  rw [← hps] at K1
  obtain ⟨p, hp⟩ : ∃ p, paramS m.f1 nm = p := ⟨_, rfl⟩
  rw [hp] at K1 ⊢
  clear h hl1 hC1 hl2 hC2 hl3 hC3 hps hp
  by_cases h0 : 0 ≤ p
  · rw [if_pos h0]
    go_enter Try.func16, Try.ntmps16
    go_wp2_with (first | ((with_reducible refine gate_dst (N := 2) rfl ?_); refine box_event ?hg (N := 2) ?hd (cs := #[.string m.f0, .slice A1 m.f1.length c1, .slice A2 m.f2.length c2, .slice A3 m.f3.length c3]) (t := 34) ?hr ?_; (case hd => rfl); (case hg => rfl); (case hr => first | (go_simp; done) | (go_simp; rfl)); intro g2 hg_ w2 hbox_ hb_; have BK2 := Aside0.mk (hbox_); have GBK2 : Aside0 (w.heap.size ≤ g2) := ⟨by rw [hg_]; exact below_size HB.out⟩; replace HB : Aside0 (Below w.heap.size w w2) := ⟨below_step HB.out hb_⟩; clear hg_ hbox_ hb_) | ((with_reducible refine gate_dst (N := 3) rfl ?_); refine box_event ?hg (N := 3) ?hd (cs := #[.string nm]) (t := 9) ?hr ?_; (case hd => rfl); (case hg => rfl); (case hr => first | (go_simp; done) | (go_simp; rfl)); intro g3 hg_ w3 hbox_ hb_; replace BK2 := Aside0.mk (blk_below BK2.out hb_); have BK3 := Aside0.mk (hbox_); have GBK3 : Aside0 (w.heap.size ≤ g3) := ⟨by rw [hg_]; exact below_size HB.out⟩; replace HB : Aside0 (Below w.heap.size w w3) := ⟨below_step HB.out hb_⟩; clear hg_ hbox_ hb_; have hk21 : w3.cell? ⟨g2, 1, none⟩ = some (.slice A1 m.f1.length c1) := blk_cell BK2.out 1; have hk22 : w3.cell? ⟨g2, 2, none⟩ = some (.slice A2 m.f2.length c2) := blk_cell BK2.out 2; have hk23 : w3.cell? ⟨g2, 3, none⟩ = some (.slice A3 m.f3.length c3) := blk_cell BK2.out 3; have hk3 : w3.cell? ⟨g3, 0, none⟩ = some (.string nm) := blk_cell BK3.out 0))
    refine (K1.out _ HB.out).mono ?_
    rintro e w4 ⟨rfl, hb⟩
    clear hk21 hk22 hk23 hk3
    replace BK2 := Aside0.mk (blk_below BK2.out hb)
    replace BK3 := Aside0.mk (blk_below BK3.out hb)
    replace HB := Aside0.mk (below_step HB.out hb)
    clear hb
    have hk21 : w4.cell? ⟨g2, 1, none⟩ = some (.slice A1 m.f1.length c1) := blk_cell BK2.out 1
    have hk22 : w4.cell? ⟨g2, 2, none⟩ = some (.slice A2 m.f2.length c2) := blk_cell BK2.out 2
    have hk23 : w4.cell? ⟨g2, 3, none⟩ = some (.slice A3 m.f3.length c3) := blk_cell BK2.out 3
    have hk3 : w4.cell? ⟨g3, 0, none⟩ = some (.string nm) := blk_cell BK3.out 0
    go_wp2
    go_ret2
    exact ⟨rfl, HB.out⟩
  rw [if_neg h0]
  cases hz : fst (gP fun p : S59 => eqS p.f1 nm) m.f2 0 with
  | some b =>
    obtain ⟨n, rfl, hn⟩ := gP_some hz
    rw [hz] at K2
    dsimp only
    rw [Int.toNat_natCast, show m.f2.getD n z59 = m.f2[n] by simp [List.getD_eq_getElem?_getD, hn]]
    have hn2 : (n : Int) < (m.f2.length : Int) := by omega
    have hn0 : (0 : Int) ≤ (n : Int) := by omega
    obtain ⟨ad, rfl, hy0⟩ := at59z HC2.out n hn
    clear hz K3
    cases hf : m.f2[n].f0
    all_goals (
      rw [hf] at hy0
      go_enter Try.func16, Try.ntmps16
      go_wp2_with (first | ((with_reducible refine gate_dst (N := 2) rfl ?_); refine box_event ?hg (N := 2) ?hd (cs := #[.string m.f0, .slice A1 m.f1.length c1, .slice (some ad) m.f2.length c2, .slice A3 m.f3.length c3]) (t := 34) ?hr ?_; (case hd => rfl); (case hg => rfl); (case hr => first | (go_simp; done) | (go_simp; rfl)); intro g2 hg_ w2 hbox_ hb_; have BK2 := Aside0.mk (hbox_); have GBK2 : Aside0 (w.heap.size ≤ g2) := ⟨by rw [hg_]; exact below_size HB.out⟩; replace HB : Aside0 (Below w.heap.size w w2) := ⟨below_step HB.out hb_⟩; clear hg_ hbox_ hb_) | ((with_reducible refine gate_dst (N := 3) rfl ?_); refine box_event ?hg (N := 3) ?hd (cs := #[.string nm]) (t := 9) ?hr ?_; (case hd => rfl); (case hg => rfl); (case hr => first | (go_simp; done) | (go_simp; rfl)); intro g3 hg_ w3 hbox_ hb_; replace BK2 := Aside0.mk (blk_below BK2.out hb_); have BK3 := Aside0.mk (hbox_); have GBK3 : Aside0 (w.heap.size ≤ g3) := ⟨by rw [hg_]; exact below_size HB.out⟩; replace HB : Aside0 (Below w.heap.size w w3) := ⟨below_step HB.out hb_⟩; clear hg_ hbox_ hb_; have hk21 : w3.cell? ⟨g2, 1, none⟩ = some (.slice A1 m.f1.length c1) := blk_cell BK2.out 1; have hk22 : w3.cell? ⟨g2, 2, none⟩ = some (.slice (some ad) m.f2.length c2) := blk_cell BK2.out 2; have hk23 : w3.cell? ⟨g2, 3, none⟩ = some (.slice A3 m.f3.length c3) := blk_cell BK2.out 3; have hk3 : w3.cell? ⟨g3, 0, none⟩ = some (.string nm) := blk_cell BK3.out 0))
      refine (K1.out _ HB.out).mono ?_
      rintro e w4 ⟨rfl, hb⟩
      clear hk21 hk22 hk23 hk3
      replace BK2 := Aside0.mk (blk_below BK2.out hb)
      replace BK3 := Aside0.mk (blk_below BK3.out hb)
      replace HB := Aside0.mk (below_step HB.out hb)
      clear hb
      have hk21 : w4.cell? ⟨g2, 1, none⟩ = some (.slice A1 m.f1.length c1) := blk_cell BK2.out 1
      have hk22 : w4.cell? ⟨g2, 2, none⟩ = some (.slice (some ad) m.f2.length c2) := blk_cell BK2.out 2
      have hk23 : w4.cell? ⟨g2, 3, none⟩ = some (.slice A3 m.f3.length c3) := blk_cell BK2.out 3
      have hk3 : w4.cell? ⟨g3, 0, none⟩ = some (.string nm) := blk_cell BK3.out 0
      go_wp2_with fail
      refine (K2.out ⟨g3, 0, none⟩ w4 HB.out (by rw [blk_cell BK3.out]; rfl)).mono ?_
      rintro e w5 ⟨rfl, hb⟩
      clear hk21 hk22 hk23 hk3
      replace BK2 := Aside0.mk (blk_below BK2.out hb)
      replace BK3 := Aside0.mk (blk_below BK3.out hb)
      replace HB := Aside0.mk (below_step HB.out hb)
      clear hb
      have hk21 : w5.cell? ⟨g2, 1, none⟩ = some (.slice A1 m.f1.length c1) := blk_cell BK2.out 1
      have hk22 : w5.cell? ⟨g2, 2, none⟩ = some (.slice (some ad) m.f2.length c2) := blk_cell BK2.out 2
      have hk23 : w5.cell? ⟨g2, 3, none⟩ = some (.slice A3 m.f3.length c3) := blk_cell BK2.out 3
      have hk3 : w5.cell? ⟨g3, 0, none⟩ = some (.string nm) := blk_cell BK3.out 0
      replace hy0 := pw_cell_below HB.out hy0
      go_wp2
      go_ret2
      exact ⟨rfl, HB.out⟩)
  | none =>
    rw [hz] at K2
    clear hz
    cases hz : fst (gP fun x : S49 => decide (0 < ik x.f0) && eqS x.f1 nm) m.f3 0 with
    | none =>
      rw [hz] at K3
      dsimp only
      clear hz
      go_enter Try.func16, Try.ntmps16
      go_wp2_with (first | ((with_reducible refine gate_dst (N := 2) rfl ?_); refine box_event ?hg (N := 2) ?hd (cs := #[.string m.f0, .slice A1 m.f1.length c1, .slice A2 m.f2.length c2, .slice A3 m.f3.length c3]) (t := 34) ?hr ?_; (case hd => rfl); (case hg => rfl); (case hr => first | (go_simp; done) | (go_simp; rfl)); intro g2 hg_ w2 hbox_ hb_; have BK2 := Aside0.mk (hbox_); have GBK2 : Aside0 (w.heap.size ≤ g2) := ⟨by rw [hg_]; exact below_size HB.out⟩; replace HB : Aside0 (Below w.heap.size w w2) := ⟨below_step HB.out hb_⟩; clear hg_ hbox_ hb_) | ((with_reducible refine gate_dst (N := 3) rfl ?_); refine box_event ?hg (N := 3) ?hd (cs := #[.string nm]) (t := 9) ?hr ?_; (case hd => rfl); (case hg => rfl); (case hr => first | (go_simp; done) | (go_simp; rfl)); intro g3 hg_ w3 hbox_ hb_; replace BK2 := Aside0.mk (blk_below BK2.out hb_); have BK3 := Aside0.mk (hbox_); have GBK3 : Aside0 (w.heap.size ≤ g3) := ⟨by rw [hg_]; exact below_size HB.out⟩; replace HB : Aside0 (Below w.heap.size w w3) := ⟨below_step HB.out hb_⟩; clear hg_ hbox_ hb_; have hk21 : w3.cell? ⟨g2, 1, none⟩ = some (.slice A1 m.f1.length c1) := blk_cell BK2.out 1; have hk22 : w3.cell? ⟨g2, 2, none⟩ = some (.slice A2 m.f2.length c2) := blk_cell BK2.out 2; have hk23 : w3.cell? ⟨g2, 3, none⟩ = some (.slice A3 m.f3.length c3) := blk_cell BK2.out 3; have hk3 : w3.cell? ⟨g3, 0, none⟩ = some (.string nm) := blk_cell BK3.out 0))
      refine (K1.out _ HB.out).mono ?_
      rintro e w4 ⟨rfl, hb⟩
      clear hk21 hk22 hk23 hk3
      replace BK2 := Aside0.mk (blk_below BK2.out hb)
      replace BK3 := Aside0.mk (blk_below BK3.out hb)
      replace HB := Aside0.mk (below_step HB.out hb)
      clear hb
      have hk21 : w4.cell? ⟨g2, 1, none⟩ = some (.slice A1 m.f1.length c1) := blk_cell BK2.out 1
      have hk22 : w4.cell? ⟨g2, 2, none⟩ = some (.slice A2 m.f2.length c2) := blk_cell BK2.out 2
      have hk23 : w4.cell? ⟨g2, 3, none⟩ = some (.slice A3 m.f3.length c3) := blk_cell BK2.out 3
      have hk3 : w4.cell? ⟨g3, 0, none⟩ = some (.string nm) := blk_cell BK3.out 0
      go_wp2_with fail
      refine (K2.out ⟨g3, 0, none⟩ w4 HB.out (by rw [blk_cell BK3.out]; rfl)).mono ?_
      rintro e w5 ⟨rfl, hb⟩
      clear hk21 hk22 hk23 hk3
      replace BK2 := Aside0.mk (blk_below BK2.out hb)
      replace BK3 := Aside0.mk (blk_below BK3.out hb)
      replace HB := Aside0.mk (below_step HB.out hb)
      clear hb
      have hk21 : w5.cell? ⟨g2, 1, none⟩ = some (.slice A1 m.f1.length c1) := blk_cell BK2.out 1
      have hk22 : w5.cell? ⟨g2, 2, none⟩ = some (.slice A2 m.f2.length c2) := blk_cell BK2.out 2
      have hk23 : w5.cell? ⟨g2, 3, none⟩ = some (.slice A3 m.f3.length c3) := blk_cell BK2.out 3
      have hk3 : w5.cell? ⟨g3, 0, none⟩ = some (.string nm) := blk_cell BK3.out 0
      have BKO2 := BK2
      have BKO3 := BK3
      clear hk21 hk22 hk23 hk3
      go_wp2_with (first | ((with_reducible refine gate_dst (N := 31) rfl ?_); refine make_event rfl (N := 31) rfl rfl ?_; intro g6 hg6 w6 hm6 hb; replace BK2 := Aside0.mk (blk_below BK2.out hb); replace BK3 := Aside0.mk (blk_below BK3.out hb); have BK6 := Aside0.mk hm6; have GBK6 : Aside0 (w.heap.size ≤ g6) := ⟨by rw [hg6]; exact below_size HB.out⟩; have NE2 : Aside0 (g2 ≠ g6) := ⟨by rw [hg6]; exact Nat.ne_of_lt (blk_lt (w := w5) BKO2.out)⟩; have NE3 : Aside0 (g3 ≠ g6) := ⟨by rw [hg6]; exact Nat.ne_of_lt (blk_lt (w := w5) BKO3.out)⟩; replace HB := Aside0.mk (below_step HB.out hb); clear hg6 hm6 hb) | ((with_reducible refine gate_ (.insert 76 (.tmp 31) (.const (.int .i64 1)) (.const (.int .i64 4))) rfl ?_); refine put_event rfl rfl (.tmp 31) 1 4 rfl (g := g6) (kv := []) rfl BK6.out rfl ?_; intro w61 hm6 hfar hsz hbel; replace BK2 := Aside0.mk ((hfar _ NE2.out).trans BK2.out); replace BK3 := Aside0.mk ((hfar _ NE3.out).trans BK3.out); replace BK6 := Aside0.mk hm6; replace HB := Aside0.mk (hbel _ GBK6.out w HB.out); clear hm6 hfar hsz hbel) | ((with_reducible refine gate_ (.insert 76 (.tmp 31) (.const (.int .i64 2)) (.const (.int .i64 5))) rfl ?_); refine put_event rfl rfl (.tmp 31) 2 5 rfl (g := g6) (kv := [] ++ [(1, 4)]) rfl BK6.out rfl ?_; intro w62 hm6 hfar hsz hbel; replace BK2 := Aside0.mk ((hfar _ NE2.out).trans BK2.out); replace BK3 := Aside0.mk ((hfar _ NE3.out).trans BK3.out); replace BK6 := Aside0.mk hm6; replace HB := Aside0.mk (hbel _ GBK6.out w HB.out); clear hm6 hfar hsz hbel) | ((with_reducible refine gate_ (.insert 76 (.tmp 31) (.const (.int .i64 5)) (.const (.int .i64 6))) rfl ?_); refine put_event rfl rfl (.tmp 31) 5 6 rfl (g := g6) (kv := ([] ++ [(1, 4)]) ++ [(2, 5)]) rfl BK6.out rfl ?_; intro w63 hm6 hfar hsz hbel; replace BK2 := Aside0.mk ((hfar _ NE2.out).trans BK2.out); replace BK3 := Aside0.mk ((hfar _ NE3.out).trans BK3.out); replace BK6 := Aside0.mk hm6; replace HB := Aside0.mk (hbel _ GBK6.out w HB.out); clear hm6 hfar hsz hbel) | ((with_reducible refine gate_ (.insert 76 (.tmp 31) (.const (.int .i64 7)) (.const (.int .i64 7))) rfl ?_); refine put_event rfl rfl (.tmp 31) 7 7 rfl (g := g6) (kv := (([] ++ [(1, 4)]) ++ [(2, 5)]) ++ [(5, 6)]) rfl BK6.out rfl ?_; intro w64 hm6 hfar hsz hbel; replace BK2 := Aside0.mk ((hfar _ NE2.out).trans BK2.out); replace BK3 := Aside0.mk ((hfar _ NE3.out).trans BK3.out); replace BK6 := Aside0.mk hm6; replace HB := Aside0.mk (hbel _ GBK6.out w HB.out); clear hm6 hfar hsz hbel; have hk23 : w64.cell? ⟨g2, 3, none⟩ = some (.slice A3 m.f3.length c3) := blk_cell BK2.out 3; have hg2s : g2 < w64.heap.size := blk_lt BK2.out; have hg3s : g3 < w64.heap.size := blk_lt BK3.out; have hg6s : g6 < w64.heap.size := blk_lt BK6.out))
      have BK8 := Aside0.mk (alloc_new w64 (.cells #[.map (some g6)] 76))
      replace BK2 := Aside0.mk (blk_alloc BK2.out (.cells #[.map (some g6)] 76))
      replace BK3 := Aside0.mk (blk_alloc BK3.out (.cells #[.map (some g6)] 76))
      replace BK6 := Aside0.mk (blk_alloc BK6.out (.cells #[.map (some g6)] 76))
      replace HB := Aside0.mk (below_alloc HB.out (.cells #[.map (some g6)] 76))
      refine (K3.out ⟨w64.heap.size, 0, none⟩ ⟨g3, 0, none⟩ g6 _ HB.out (by rw [blk_cell BK3.out]; rfl) (by rw [blk_cell BK8.out]; rfl) BK6.out).mono ?_
      rintro e w9 ⟨rfl, hb⟩
      replace BK2 := Aside0.mk (blk_below BK2.out hb)
      replace BK6 := Aside0.mk (blk_below BK6.out hb)
      replace BK8 := Aside0.mk (blk_below BK8.out hb)
      replace HB := Aside0.mk (below_step HB.out hb)
      clear hb hk23 hg2s hg3s hg6s
      go_wp2
      go_ret2
      exact ⟨rfl, HB.out⟩
    | some b =>
      obtain ⟨n, rfl, hn⟩ := gP_some hz
      rw [hz] at K3
      dsimp only
      rw [Int.toNat_natCast, show m.f3.getD n z49 = m.f3[n] by simp [List.getD_eq_getElem?_getD, hn]]
      have hn2 : (n : Int) < (m.f3.length : Int) := by omega
      have hn0 : (0 : Int) ≤ (n : Int) := by omega
      obtain ⟨ad, rfl, hy0, _⟩ := at49a HC3.out n hn
      obtain ⟨kd, hkd⟩ : ∃ k, m.f3[n].f0 = k := ⟨_, rfl⟩
      rw [hkd] at hy0 ⊢
      clear hz hkd
      go_enter Try.func16, Try.ntmps16
      go_wp2_with (first | ((with_reducible refine gate_dst (N := 2) rfl ?_); refine box_event ?hg (N := 2) ?hd (cs := #[.string m.f0, .slice A1 m.f1.length c1, .slice A2 m.f2.length c2, .slice (some ad) m.f3.length c3]) (t := 34) ?hr ?_; (case hd => rfl); (case hg => rfl); (case hr => first | (go_simp; done) | (go_simp; rfl)); intro g2 hg_ w2 hbox_ hb_; have BK2 := Aside0.mk (hbox_); have GBK2 : Aside0 (w.heap.size ≤ g2) := ⟨by rw [hg_]; exact below_size HB.out⟩; replace HB : Aside0 (Below w.heap.size w w2) := ⟨below_step HB.out hb_⟩; clear hg_ hbox_ hb_) | ((with_reducible refine gate_dst (N := 3) rfl ?_); refine box_event ?hg (N := 3) ?hd (cs := #[.string nm]) (t := 9) ?hr ?_; (case hd => rfl); (case hg => rfl); (case hr => first | (go_simp; done) | (go_simp; rfl)); intro g3 hg_ w3 hbox_ hb_; replace BK2 := Aside0.mk (blk_below BK2.out hb_); have BK3 := Aside0.mk (hbox_); have GBK3 : Aside0 (w.heap.size ≤ g3) := ⟨by rw [hg_]; exact below_size HB.out⟩; replace HB : Aside0 (Below w.heap.size w w3) := ⟨below_step HB.out hb_⟩; clear hg_ hbox_ hb_; have hk21 : w3.cell? ⟨g2, 1, none⟩ = some (.slice A1 m.f1.length c1) := blk_cell BK2.out 1; have hk22 : w3.cell? ⟨g2, 2, none⟩ = some (.slice A2 m.f2.length c2) := blk_cell BK2.out 2; have hk23 : w3.cell? ⟨g2, 3, none⟩ = some (.slice (some ad) m.f3.length c3) := blk_cell BK2.out 3; have hk3 : w3.cell? ⟨g3, 0, none⟩ = some (.string nm) := blk_cell BK3.out 0))
      refine (K1.out _ HB.out).mono ?_
      rintro e w4 ⟨rfl, hb⟩
      clear hk21 hk22 hk23 hk3
      replace BK2 := Aside0.mk (blk_below BK2.out hb)
      replace BK3 := Aside0.mk (blk_below BK3.out hb)
      replace HB := Aside0.mk (below_step HB.out hb)
      clear hb
      have hk21 : w4.cell? ⟨g2, 1, none⟩ = some (.slice A1 m.f1.length c1) := blk_cell BK2.out 1
      have hk22 : w4.cell? ⟨g2, 2, none⟩ = some (.slice A2 m.f2.length c2) := blk_cell BK2.out 2
      have hk23 : w4.cell? ⟨g2, 3, none⟩ = some (.slice (some ad) m.f3.length c3) := blk_cell BK2.out 3
      have hk3 : w4.cell? ⟨g3, 0, none⟩ = some (.string nm) := blk_cell BK3.out 0
      go_wp2_with fail
      refine (K2.out ⟨g3, 0, none⟩ w4 HB.out (by rw [blk_cell BK3.out]; rfl)).mono ?_
      rintro e w5 ⟨rfl, hb⟩
      clear hk21 hk22 hk23 hk3
      replace BK2 := Aside0.mk (blk_below BK2.out hb)
      replace BK3 := Aside0.mk (blk_below BK3.out hb)
      replace HB := Aside0.mk (below_step HB.out hb)
      clear hb
      have hk21 : w5.cell? ⟨g2, 1, none⟩ = some (.slice A1 m.f1.length c1) := blk_cell BK2.out 1
      have hk22 : w5.cell? ⟨g2, 2, none⟩ = some (.slice A2 m.f2.length c2) := blk_cell BK2.out 2
      have hk23 : w5.cell? ⟨g2, 3, none⟩ = some (.slice (some ad) m.f3.length c3) := blk_cell BK2.out 3
      have hk3 : w5.cell? ⟨g3, 0, none⟩ = some (.string nm) := blk_cell BK3.out 0
      have BKO2 := BK2
      have BKO3 := BK3
      clear hk21 hk22 hk23 hk3
      go_wp2_with (first | ((with_reducible refine gate_dst (N := 31) rfl ?_); refine make_event rfl (N := 31) rfl rfl ?_; intro g6 hg6 w6 hm6 hb; replace BK2 := Aside0.mk (blk_below BK2.out hb); replace BK3 := Aside0.mk (blk_below BK3.out hb); have BK6 := Aside0.mk hm6; have GBK6 : Aside0 (w.heap.size ≤ g6) := ⟨by rw [hg6]; exact below_size HB.out⟩; have NE2 : Aside0 (g2 ≠ g6) := ⟨by rw [hg6]; exact Nat.ne_of_lt (blk_lt (w := w5) BKO2.out)⟩; have NE3 : Aside0 (g3 ≠ g6) := ⟨by rw [hg6]; exact Nat.ne_of_lt (blk_lt (w := w5) BKO3.out)⟩; replace HB := Aside0.mk (below_step HB.out hb); clear hg6 hm6 hb) | ((with_reducible refine gate_ (.insert 76 (.tmp 31) (.const (.int .i64 1)) (.const (.int .i64 4))) rfl ?_); refine put_event rfl rfl (.tmp 31) 1 4 rfl (g := g6) (kv := []) rfl BK6.out rfl ?_; intro w61 hm6 hfar hsz hbel; replace BK2 := Aside0.mk ((hfar _ NE2.out).trans BK2.out); replace BK3 := Aside0.mk ((hfar _ NE3.out).trans BK3.out); replace BK6 := Aside0.mk hm6; replace HB := Aside0.mk (hbel _ GBK6.out w HB.out); clear hm6 hfar hsz hbel) | ((with_reducible refine gate_ (.insert 76 (.tmp 31) (.const (.int .i64 2)) (.const (.int .i64 5))) rfl ?_); refine put_event rfl rfl (.tmp 31) 2 5 rfl (g := g6) (kv := [] ++ [(1, 4)]) rfl BK6.out rfl ?_; intro w62 hm6 hfar hsz hbel; replace BK2 := Aside0.mk ((hfar _ NE2.out).trans BK2.out); replace BK3 := Aside0.mk ((hfar _ NE3.out).trans BK3.out); replace BK6 := Aside0.mk hm6; replace HB := Aside0.mk (hbel _ GBK6.out w HB.out); clear hm6 hfar hsz hbel) | ((with_reducible refine gate_ (.insert 76 (.tmp 31) (.const (.int .i64 5)) (.const (.int .i64 6))) rfl ?_); refine put_event rfl rfl (.tmp 31) 5 6 rfl (g := g6) (kv := ([] ++ [(1, 4)]) ++ [(2, 5)]) rfl BK6.out rfl ?_; intro w63 hm6 hfar hsz hbel; replace BK2 := Aside0.mk ((hfar _ NE2.out).trans BK2.out); replace BK3 := Aside0.mk ((hfar _ NE3.out).trans BK3.out); replace BK6 := Aside0.mk hm6; replace HB := Aside0.mk (hbel _ GBK6.out w HB.out); clear hm6 hfar hsz hbel) | ((with_reducible refine gate_ (.insert 76 (.tmp 31) (.const (.int .i64 7)) (.const (.int .i64 7))) rfl ?_); refine put_event rfl rfl (.tmp 31) 7 7 rfl (g := g6) (kv := (([] ++ [(1, 4)]) ++ [(2, 5)]) ++ [(5, 6)]) rfl BK6.out rfl ?_; intro w64 hm6 hfar hsz hbel; replace BK2 := Aside0.mk ((hfar _ NE2.out).trans BK2.out); replace BK3 := Aside0.mk ((hfar _ NE3.out).trans BK3.out); replace BK6 := Aside0.mk hm6; replace HB := Aside0.mk (hbel _ GBK6.out w HB.out); clear hm6 hfar hsz hbel; have hk23 : w64.cell? ⟨g2, 3, none⟩ = some (.slice (some ad) m.f3.length c3) := blk_cell BK2.out 3; have hg2s : g2 < w64.heap.size := blk_lt BK2.out; have hg3s : g3 < w64.heap.size := blk_lt BK3.out; have hg6s : g6 < w64.heap.size := blk_lt BK6.out))
      have BK8 := Aside0.mk (alloc_new w64 (.cells #[.map (some g6)] 76))
      replace BK2 := Aside0.mk (blk_alloc BK2.out (.cells #[.map (some g6)] 76))
      replace BK3 := Aside0.mk (blk_alloc BK3.out (.cells #[.map (some g6)] 76))
      replace BK6 := Aside0.mk (blk_alloc BK6.out (.cells #[.map (some g6)] 76))
      replace HB := Aside0.mk (below_alloc HB.out (.cells #[.map (some g6)] 76))
      refine (K3.out ⟨w64.heap.size, 0, none⟩ ⟨g3, 0, none⟩ g6 _ HB.out (by rw [blk_cell BK3.out]; rfl) (by rw [blk_cell BK8.out]; rfl) BK6.out).mono ?_
      rintro e w9 ⟨rfl, hb⟩
      replace BK2 := Aside0.mk (blk_below BK2.out hb)
      replace BK6 := Aside0.mk (blk_below BK6.out hb)
      replace BK8 := Aside0.mk (blk_below BK8.out hb)
      replace HB := Aside0.mk (below_step HB.out hb)
      clear hb hk23 hg2s hg3s hg6s
      replace hy0 := pw_cell_below HB.out hy0
      have hk23 : w9.cell? ⟨g2, 3, none⟩ = some (.slice (some ad) m.f3.length c3) := blk_cell BK2.out 3
      have hk80 : w9.cell? ⟨w64.heap.size, 0, none⟩ = some (.map (some g6)) := blk_cell BK8.out 0
      have hlk : (Instr.lookup 76 (.map (some g6)) (.int .i64 kd) false).run Try.prog w9 = .ok (.int .i64 (ik kd)) w9 := by rw [← kv4_ik]; exact run_look BK6.out kd
      have hlk2 : (Instr.lookup 76 (.map (some g6)) (.int .i64 kd) false).run Try.prog w9.drew = .ok (.int .i64 (ik kd)) w9.drew := by rw [← kv4_ik]; exact run_look (blk_drew BK6.out) kd
      go_wp2
      go_region_held3 (fun w' => w'.cell? ⟨w64.heap.size, 0, none⟩ = some (.map (some g6)) ∧ w'.cell? ⟨g2, 3, none⟩ = some (.slice (some ad) m.f3.length c3) ∧ w'.cell? (ad.add (n * 42)) = some (.int .i64 kd))
        (go_keep)
        (fail)
      go_wp2
      go_ret2
      exact ⟨rfl, below_drew HB.out⟩
end Go.Proofs.Ytnfhlhjbmcofoaa.S
