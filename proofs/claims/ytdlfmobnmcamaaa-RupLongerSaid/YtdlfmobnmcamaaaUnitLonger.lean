/- The law RupLonger, walked. Written for this claim. -/
import Derived.Test.YtdlfmobnmcamaaaRupEv
import Derived.Outline
namespace Go.Proofs.Ytdlfmobnmcamaaa.Q
open Go.RowKit Go.Proofs.YtdlfmobnmcamaaaW.PrintWords Go.Proofs.YtdlfmobnmcamaaaW.PrintLast Go.Proofs.YtdlfmobnmcamaaaW.PrintMore
set_option linter.unusedVariables false
set_option linter.unusedSimpArgs false
/-- What is asked of a proof that is one. -/
structure LongerAsk (l p : List (List Int)) (a more : List Int) : Prop where
  sl : ∀ c ∈ l, ∀ y ∈ c, Sm y
  sp : ∀ c ∈ p, ∀ y ∈ c, Sm y
  sa : ∀ y ∈ a, Sm y
  sm : ∀ y ∈ more, Sm y
  nl : l.length ≤ 40
  np : p.length ≤ 40
  fl : l.flatten.length ≤ 320
  fp : p.flatten.length ≤ 320
  na : a.length ≤ 4
  nm : more.length ≤ 4
theorem N_bound {α : Type} {d : Kd α} {e base : Nat} {ok : Nat → Prop} {W : World} {v : Value} {xs : List α} (h : Kd.N d e W base ok v xs) : Kd.N d e W base (fun k => ok k ∧ k < W.heap.size) v xs := by
  have hlt := Kd.N_lt h
  obtain ⟨h0, rows, hl, hR, hf⟩ := h
  exact ⟨fun k hk => ⟨h0 k hk, hlt k hk⟩, rows, hl, hR, fun j x c hx hc => Foot.mono (Foot.bound (hf j x c hx hc)) (fun k hk => ⟨⟨hk.1.1, hk.2⟩, hk.1.2⟩)⟩
theorem N_mono' {α : Type} {d : Kd α} {e base : Nat} {ok ok' : Nat → Prop} {W : World} {v : Value} {xs : List α} (h : Kd.N d e W base ok v xs) (hok : ∀ k, ok k → ok' k) : Kd.N d e W base ok' v xs := Kd.N_mono h hok
theorem askc_longer {l p l' p' : List (List Int)} {a a' more : List Int} (h : LongerAsk l p a more) (h1 : ∀ c ∈ l', c ∈ l ∨ c = more) (h2 : ∀ c ∈ p', c ∈ p ∨ c = more) (h3 : ∀ y ∈ a', y ∈ a ∨ y ∈ more) (n1 : l'.length ≤ 41) (n2 : p'.length ≤ 41) (f1 : l'.flatten.length ≤ 1000) (f2 : p'.flatten.length ≤ 1000) (n3 : a'.length ≤ 8) : Askc l' p' a' :=
  askc_of (fun c hc => (h1 c hc).elim (h.sl c) (fun e => e ▸ h.sm)) (fun c hc => (h2 c hc).elim (h.sp c) (fun e => e ▸ h.sm)) (fun y hy => (h3 y hy).elim (h.sa y) (h.sm y)) (by omega) (by omega) (by omega) (by omega) (by omega)
theorem longer_wide {l p : List (List Int)} {a more : List Int} (h : LongerAsk l p a more) : Askc (l ++ [more]) p a :=
  askc_longer h (fun c hc => by simpa using hc) (fun c hc => .inl hc) (fun y hy => .inl hy) (by have := h.nl; simp; omega) (by have := h.np; omega) (by have := h.fl; have := h.nm; simp only [List.flatten_append, List.flatten_cons, List.flatten_nil, List.length_append, List.append_nil]; omega) (by have := h.fp; omega) (by have := h.na; omega)
theorem longer_long {l p : List (List Int)} {a more : List Int} (h : LongerAsk l p a more) : Askc l p (a ++ more) :=
  askc_longer h (fun c hc => .inl hc) (fun c hc => .inl hc) (fun y hy => List.mem_append.1 hy) (by have := h.nl; omega) (by have := h.np; omega) (by have := h.fl; omega) (by have := h.fp; omega) (by have := h.na; have := h.nm; rw [List.length_append]; omega)
theorem longer_ahead {l p : List (List Int)} {a more : List Int} (h : LongerAsk l p a more) : Askc l (more :: p) a :=
  askc_longer h (fun c hc => .inl hc) (fun c hc => (List.mem_cons.1 hc).symm) (fun y hy => .inl hy) (by have := h.nl; omega) (by have := h.np; simp; omega) (by have := h.fl; omega) (by have := h.fp; have := h.nm; simp only [List.flatten_cons, List.length_append]; omega) (by have := h.na; omega)
theorem longer_behind {l p : List (List Int)} {a more : List Int} (h : LongerAsk l p a more) : Askc l (p ++ [more]) a :=
  askc_longer h (fun c hc => .inl hc) (fun c hc => by simpa using hc) (fun y hy => .inl hy) (by have := h.nl; omega) (by have := h.np; simp; omega) (by have := h.fl; omega) (by have := h.fp; have := h.nm; simp only [List.flatten_append, List.flatten_cons, List.flatten_nil, List.length_append, List.append_nil]; omega) (by have := h.na; omega)
theorem longer_same {l p : List (List Int)} {a more : List Int} (h : LongerAsk l p a more) : Askc l p a :=
  askc_longer h (fun c hc => .inl hc) (fun c hc => .inl hc) (fun y hy => .inl hy) (by have := h.nl; omega) (by have := h.np; omega) (by have := h.fl; omega) (by have := h.fp; omega) (by have := h.na; omega)
theorem longer_step {l p : List (List Int)} {a more : List Int} (h : LongerAsk l p a more) : Ask8 l (opp more) := ⟨h.sl, opp_sm h.sm, by have := h.fl; omega, by rw [opp_len]; have := h.nm; omega⟩
theorem longer_facts {l p : List (List Int)} {a more : List Int} (h : LongerAsk l p a more) (hc : checkOf l 8 p a = true) :
    checkOf (l ++ [more]) 8 p a = true ∧ checkOf l 8 p (a ++ more) = true ∧ (stepOf l 8 more = true → checkOf l 8 (more :: p) a = true ∧ checkOf l 8 (p ++ [more]) a = true) := by
  have hk := (check_iff (longer_same h) (by omega) (by omega)).1 hc
  refine ⟨(check_iff (longer_wide h) (by omega) (by omega)).2 (chk_more (fun c hc => List.mem_append_left _ hc) (fun x hx => hx) hk), (check_iff (longer_long h) (by omega) (by omega)).2 (chk_more (fun c hc => hc) (fun x hx => List.mem_append_left _ hx) hk), fun hs => ?_⟩
  have hcf := (step_iff (longer_step h)).1 hs
  exact ⟨(check_iff (longer_ahead h) (by omega) (by omega)).2 ⟨hcf, chk_more (fun c hc => List.mem_append_left _ hc) (fun x hx => hx) hk⟩, (check_iff (longer_behind h) (by omega) (by omega)).2 (chk_behind hcf hk)⟩
set_option maxHeartbeats 32000000 in
set_option maxRecDepth 100000 in
theorem longer_any (A0 : Option Addr) (c0 : Nat) (x0 : List (List Int)) (a1 : Int) (A2 : Option Addr) (c2 : Nat) (x2 : List (List Int)) (A3 : Option Addr) (c3 : Nat) (x3 : List Int) (A4 : Option Addr) (c4 : Nat) (x4 : List Int) (w : World) (hr0 : Kd.C (Kd.slice 3 (Kd.int .i64)) w A0 x0.length x0) (hc0 : x0.length ≤ c0) (hr2 : Kd.C (Kd.slice 3 (Kd.int .i64)) w A2 x2.length x2) (hc2 : x2.length ≤ c2) (hr3 : Kd.C (Kd.int .i64) w A3 x3.length x3) (hc3 : x3.length ≤ c3) (hr4 : Kd.C (Kd.int .i64) w A4 x4.length x4) (hc4 : x4.length ≤ c4)
    (hw0 : ∀ c ∈ x0, ∀ y ∈ c, Wf y) (hw2 : ∀ c ∈ x2, ∀ y ∈ c, Wf y) (hw3 : ∀ y ∈ x3, Wf y) (hw4 : ∀ y ∈ x4, Wf y) :
    Calls Try.prog 5 #[.agg #[.slice A0 x0.length c0, .int .i64 a1, .slice A2 x2.length c2, .slice A3 x3.length c3, .slice A4 x4.length c4]] w fun e w' => e = .returned (.bool true) ∧ Below w.heap.size w w' := by
  obtain ⟨l, hl⟩ : ∃ l, smallsOf x0 = l := ⟨_, rfl⟩
  obtain ⟨p, hp⟩ : ∃ l, smallsOf x2 = l := ⟨_, rfl⟩
  obtain ⟨a, ha⟩ : ∃ l, knownOf x3 4 = l := ⟨_, rfl⟩
  obtain ⟨more, hmo⟩ : ∃ l, knownOf x4 4 = l := ⟨_, rfl⟩
  have HASK : Aside0 (LongerAsk l p a more) := ⟨by
    rw [← hl, ← hp, ← ha, ← hmo]
    exact ⟨smalls_sm hw0, smalls_sm hw2, known_sm hw3 4, known_sm hw4 4, smalls_len x0, smalls_len x2, smalls_flat x0, smalls_flat x2, known_len x3 4, known_len x4 4⟩⟩
  obtain ⟨kl, hkl⟩ := Ev.rounds (smalls_ev x0)
  rw [hl] at hkl
  obtain ⟨kp, hkp⟩ := Ev.rounds (smalls_ev x2)
  rw [hp] at hkp
  obtain ⟨ka, hka⟩ := Ev.rounds (small_ev (x3.take 4) (by rw [List.length_take]; omega))
  rw [show smallOf (x3.take 4) = a from ha] at hka
  obtain ⟨km, hkm⟩ := Ev.rounds (small_ev (x4.take 4) (by rw [List.length_take]; omega))
  rw [show smallOf (x4.take 4) = more from hmo] at hkm
  obtain ⟨qa, hqa⟩ : ∃ q, x3.take 4 = q := ⟨_, rfl⟩
  obtain ⟨qm, hqm⟩ : ∃ q, x4.take 4 = q := ⟨_, rfl⟩
  have hcuta := cut_f x3 4 (by omega)
  have hcutm := cut_f x4 4 (by omega)
  rw [hqa] at hcuta hka
  rw [hqm] at hcutm hkm
  have HR0 := Aside0.mk hr0
  have HC0 := Aside0.mk hc0
  have HR2 := Aside0.mk hr2
  have HC2 := Aside0.mk hc2
  have HR3 := Aside0.mk hr3
  have HC3 := Aside0.mk hc3
  have HR4 := Aside0.mk hr4
  have HC4 := Aside0.mk hc4
  have HKL := Aside0.mk hkl
  have HKP := Aside0.mk hkp
  have HKA := Aside0.mk hka
  have HKM := Aside0.mk hkm
  have HCA := Aside0.mk hcuta
  have HCM := Aside0.mk hcutm
  clear hr0 hc0 hr2 hc2 hr3 hc3 hr4 hc4 hw0 hw2 hw3 hw4 hl hp ha hmo hkl hkp hka hkm hqa hqm hcuta hcutm
  go_enter Try.func5, Try.ntmps5
  go_wp2_with fail
  obtain ⟨W0, hW0⟩ : ∃ W0, (w.alloc (.cells #[.slice A0 x0.length c0, .int .i64 a1, .slice A2 x2.length c2, .slice A3 x3.length c3, .slice A4 x4.length c4] 25)) = W0 := ⟨_, rfl⟩
  have k0 : W0.heap[w.heap.size]? = some (.cells [.slice A0 x0.length c0, .int .i64 a1, .slice A2 x2.length c2, .slice A3 x3.length c3, .slice A4 x4.length c4].toArray 25 (0, 0)) := by rw [← hW0]; exact alloc_new _ _
  have z0 : w.heap.size < W0.heap.size := by rw [← hW0]; simp
  have b0 : Below w.heap.size w W0 := by rw [← hW0]; exact below_alloc (Below.refl _ _) _
  rw [hW0]
  have K0 := Aside0.mk k0
  have Z0 := Aside0.mk z0
  have B0 := Aside0.mk b0
  clear hW0 k0 z0 b0
  refine (head20_any W0).mono ?_
  rintro e w1 ⟨rfl, hb⟩
  have HB1 := Aside0.mk hb
  have hx : w1.cell? ⟨w.heap.size, 0, none⟩ = some (.slice A0 x0.length c0) := by rw [cell_of_row _ _ 0 _ _ _ ((hb.block _ Z0.out).trans K0.out)]; rfl
  clear hb
  go_wp2_with fail
  refine (proofmarkref18_Smalls.calls kl A0 c0 x0 l w1 (Kd.C_below HR0.out (below_then B0.out B0.out.size HB1.out)) HC0.out HKL.out).mono ?_
  rintro e w2 ⟨v2, rfl, ho, hb⟩
  obtain ⟨Al, cl, rfl⟩ := Kd.S_slice ho
  have HFl2 := Aside0.mk (Kd.C_F (Kd.heap_slice 3 (Kd.heap_int .i64)) (Kd.S_reads' ho).2.2)
  have HCl := Aside0.mk (Kd.S_reads' ho).2.1
  have HB2 := Aside0.mk (below_then HB1.out HB1.out.size hb)
  have hx2 : w2.cell? ⟨w.heap.size, 2, none⟩ = some (.slice A2 x2.length c2) := by rw [cell_of_row _ _ 2 _ _ _ ((HB2.out.block _ Z0.out).trans K0.out)]; rfl
  clear ho hb hx HB1
  go_wp2_with fail
  refine (proofmarkref18_Smalls.calls kp A2 c2 x2 p w2 (Kd.C_below HR2.out (below_then B0.out B0.out.size HB2.out)) HC2.out HKP.out).mono ?_
  rintro e w3 ⟨v3, rfl, ho, hb⟩
  obtain ⟨Ap, cp, rfl⟩ := Kd.S_slice ho
  have HFp3 := Aside0.mk (Kd.C_F (Kd.heap_slice 3 (Kd.heap_int .i64)) (Kd.S_reads' ho).2.2)
  have HCp := Aside0.mk (Kd.S_reads' ho).2.1
  have HCl3 := Aside0.mk (Kd.C_below (Kd.F_now HFl2.out) hb)
  have HB3 := Aside0.mk (below_then HB2.out HB2.out.size hb)
  have hx3 : w3.cell? ⟨w.heap.size, 3, none⟩ = some (.slice A3 x3.length c3) := by rw [cell_of_row _ _ 3 _ _ _ ((HB3.out.block _ Z0.out).trans K0.out)]; rfl
  clear ho hb hx2 HB2 HFl2
  go_wp2_with fail
  refine (proofmarkref18_Cut.calls A3 c3 x3 4 qa w3 (Kd.C_below HR3.out (below_then B0.out B0.out.size HB3.out)) HC3.out HCA.out).mono ?_
  rintro e w4 ⟨v4, rfl, ho, hb⟩
  obtain ⟨A9, c9, rfl⟩ := Kd.R_slice ho
  have HO4 := Aside0.mk (Kd.R_reads' ho)
  have HB4 := Aside0.mk (below_then HB3.out HB3.out.size hb)
  have HCl4 := Aside0.mk (Kd.C_below HCl3.out hb)
  have HCp4 := Aside0.mk (Kd.C_below (Kd.F_now HFp3.out) hb)
  clear ho hb hx3 HB3 HCl3 HFp3
  go_wp2_with fail
  refine (proofmarkref18_Small.calls ka A9 c9 qa a w4 HO4.out.2.2 HO4.out.2.1 HKA.out).mono ?_
  rintro e w5 ⟨v5, rfl, ho, hb⟩
  obtain ⟨Aa, ca, rfl⟩ := Kd.R_slice ho
  have HCa := Aside0.mk (Kd.R_reads' ho).2.1
  have HFa5 := Aside0.mk (Kd.R_reads' ho).2.2
  have HB5 := Aside0.mk (below_then HB4.out HB4.out.size hb)
  have HCl5 := Aside0.mk (Kd.C_below HCl4.out hb)
  have HCp5 := Aside0.mk (Kd.C_below HCp4.out hb)
  have hx4 : w5.cell? ⟨w.heap.size, 4, none⟩ = some (.slice A4 x4.length c4) := by rw [cell_of_row _ _ 4 _ _ _ ((HB5.out.block _ Z0.out).trans K0.out)]; rfl
  clear ho hb HB4 HCl4 HCp4 HO4
  go_wp2_with fail
  refine (proofmarkref18_Cut.calls A4 c4 x4 4 qm w5 (Kd.C_below HR4.out (below_then B0.out B0.out.size HB5.out)) HC4.out HCM.out).mono ?_
  rintro e w6 ⟨v6, rfl, ho, hb⟩
  obtain ⟨A8, c8, rfl⟩ := Kd.R_slice ho
  have HO6 := Aside0.mk (Kd.R_reads' ho)
  have HB6 := Aside0.mk (below_then HB5.out HB5.out.size hb)
  have HCl6 := Aside0.mk (Kd.C_below HCl5.out hb)
  have HCp6 := Aside0.mk (Kd.C_below HCp5.out hb)
  have HFa6 := Aside0.mk (Kd.C_below HFa5.out hb)
  clear ho hb hx4 HB5 HCl5 HCp5 HFa5
  go_wp2_with fail
  refine (proofmarkref18_Small.calls km A8 c8 qm more w6 HO6.out.2.2 HO6.out.2.1 HKM.out).mono ?_
  rintro e w7 ⟨v7, rfl, ho, hb⟩
  obtain ⟨Am, cm, rfl⟩ := Kd.R_slice ho
  have HCm := Aside0.mk (Kd.R_reads' ho).2.1
  have HFm7 := Aside0.mk (Kd.R_reads' ho).2.2
  have HB7 := Aside0.mk (below_then HB6.out HB6.out.size hb)
  have HCl7 := Aside0.mk (Kd.C_below HCl6.out hb)
  have HCp7 := Aside0.mk (Kd.C_below HCp6.out hb)
  have HFa7 := Aside0.mk (Kd.C_below HFa6.out hb)
  clear ho hb HB6 HCl6 HCp6 HFa6 HO6
  go_wp2_with fail
  have KC := check_any Al cl l 8 Ap cp p Aa ca a w7 HCl7.out HCl.out HCp7.out HCp.out HFa7.out HCa.out (Askc.small (longer_same HASK.out))
  cases hchk : checkOf l 8 p a with
  | false =>
    rw [hchk] at KC
    clear hchk
    refine KC.mono ?_
    rintro e w8 ⟨rfl, hb⟩
    have HB8 := Aside0.mk (below_then B0.out B0.out.size (below_then HB7.out HB7.out.size hb))
    clear hb KC
    go_wp2_with fail
    go_ret
    exact ⟨rfl, HB8.out⟩
  | true =>
    have HFACT := Aside0.mk (longer_facts HASK.out hchk)
    have HCHK := Aside0.mk hchk
    rw [hchk] at KC
    clear hchk
    refine KC.mono ?_
    rintro e w8 ⟨rfl, hb⟩
    have HB8 := Aside0.mk (below_then B0.out B0.out.size (below_then HB7.out HB7.out.size hb))
    have HFl := Aside0.mk (Kd.C_F (Kd.heap_slice 3 (Kd.heap_int .i64)) (Kd.C_below HCl7.out hb))
    have HFp := Aside0.mk (Kd.C_F (Kd.heap_slice 3 (Kd.heap_int .i64)) (Kd.C_below HCp7.out hb))
    have HFa := Aside0.mk (Kd.C_F (Kd.heap_int .i64) (Kd.C_below HFa7.out hb))
    have HFm := Aside0.mk (Kd.C_F (Kd.heap_int .i64) (Kd.C_below HFm7.out hb))
    clear hb KC HCl7 HCp7 HFa7 HFm7 HB7 HR0 HC0 HR2 HC2 HR3 HC3 HR4 HC4 HKL HKP HKA HKM HCA HCM
    obtain ⟨wd, hwd⟩ : ∃ q, l ++ [more] = q := ⟨_, rfl⟩
    have HWD := Aside0.mk hwd
    obtain ⟨lg, hlg⟩ : ∃ q, a ++ more = q := ⟨_, rfl⟩
    have HLG := Aside0.mk hlg
    clear hwd hlg
    go_wp2_with (first | ((with_reducible refine gate_dst (N := 33) rfl ?_); refine Kd.N_lit (Kd.slice 3 (Kd.int .i64)) _ 23 ?hg (N' := 33) ?hd (xs := ([] : List (List Int))) (inner := []) (ok := fun _ => True) (okp := fun _ => True) ?hr ?hp (fun _ hk => hk) trivial (Below.refl _ _) (Nat.le_refl _) (by simp) ?_; (case hd => rfl); (case hg => rfl); (case hr => first | (go_simp; done) | (go_simp; rfl)); (case hp => exact (Reps.none _ _)); intro v33 w9 ho hb hg_ hnew_; have HO33 := Aside0.mk ho; have HB9 := Aside0.mk hb; clear ho hb hg_ hnew_) | ((with_reducible refine gate_builtin (b := .append) (xs := #[.tmp 33, .tmp 34]) rfl ?_); at_builtin; refine Kd.N_append_rows (Kd.slice 3 (Kd.int .i64)) (w0 := w8) w8.heap.size rfl (.tmp 33) (.tmp 34) 22 23 (.slice none 0 0) 24 rfl Try.underlying22 info23 rfl (by decide) (by omega) v33 [] l Al l.length cl (fun _ => True) (fun k => k < w8.heap.size) rfl rfl HO33.out (Kd.F_step HFl.out (fun k hk _ => HB9.out.block k hk)) (fun k hk => ⟨trivial, fun e => by have := Kd.N_base HO33.out k e.symm; omega⟩) (fun _ _ => trivial) HB9.out HB9.out.size (by have := HASK.out.nl; simp only [List.length_nil]; omega) ?_; intro v35 w10 ho hb hg hat; rw [List.nil_append] at ho; have HO35 := Aside0.mk ho; have HB10 := Aside0.mk hb; clear ho hb hg hat) | ((with_reducible refine gate_builtin (b := .append) (xs := #[.tmp 36, .tmp 38]) rfl ?_); at_builtin; refine Kd.N_append (Kd.slice 3 (Kd.int .i64)) (w0 := w8) w8.heap.size rfl (.tmp 36) (.tmp 38) 22 23 (.slice none 0 0) 24 rfl Try.underlying22 info23 rfl (by decide) (by omega) v35 l more [.slice Am more.length cm] (fun _ => True) (fun k => k < w8.heap.size) rfl rfl (Kd.FK_slice_mk HCm.out (Kd.F_step HFm.out (fun k hk _ => HB10.out.block k hk))) (fun k hk => ⟨trivial, fun e => by have := Kd.N_base HO35.out k e.symm; omega⟩) (fun _ _ => trivial) HO35.out HB10.out HB10.out.size (by have := HASK.out.nl; omega) ?_; intro v39 w11 ho hb hg hat; rw [HWD.out] at ho; obtain ⟨Aw, cw, rfl⟩ := Kd.N_slice ho; have HWc := Aside0.mk (Kd.N_reads' ho).2.1; have HW11 := Aside0.mk (Kd.N_reads' ho).2.2; have HB11 := Aside0.mk hb; clear ho hb hg hat) | ((with_reducible refine gate_dst (N := 40) rfl ?_); refine Kd.R_lit (Kd.int .i64) _ 3 ?hg (N := 40) ?hd (xs := ([] : List Int)) (inner := []) (ok := fun _ => True) (okp := fun _ => True) ?hr ?hp (fun _ hk => hk) trivial (Below.refl _ _) (Nat.le_refl _) (by simp) ?_; (case hd => rfl); (case hg => rfl); (case hr => first | (go_simp; done) | (go_simp; rfl)); (case hp => exact (Reps.none _ _)); intro v40 w12 ho hb hg_ hnew_; have HO40 := Aside0.mk ho; have HB12 := Aside0.mk hb; clear ho hb hg_ hnew_) | ((with_reducible refine gate_builtin (b := .append) (xs := #[.tmp 40, .tmp 41]) rfl ?_); at_builtin; refine Kd.R_append_rows (Kd.int .i64) (w0 := w11) w11.heap.size rfl (.tmp 40) (.tmp 41) 23 3 (.int .i64 0) 8 rfl Try.underlying23 info3 rfl (by decide) (by omega) v40 [] a _ _ _ (fun _ => True) (fun _ => False) rfl rfl HO40.out (Kd.F_now (Kd.F_step HFa.out (fun k hk _ => (below_then HB11.out HB11.out.size HB12.out).block k hk))) (fun _ _ h => h) (fun _ h => h.elim) (fun _ _ => trivial) HB12.out HB12.out.size (by have := HASK.out.na; have := HASK.out.nm; (try simp only [List.length_nil]); omega) ?_; intro v42 w13 ho hb hg hat; rw [List.nil_append] at ho; have HO42 := Aside0.mk ho; have HB13 := Aside0.mk hb; clear ho hb hg hat) | ((with_reducible refine gate_builtin (b := .append) (xs := #[.tmp 43, .tmp 44]) rfl ?_); at_builtin; refine Kd.R_append_rows (Kd.int .i64) (w0 := w11) w11.heap.size rfl (.tmp 43) (.tmp 44) 23 3 (.int .i64 0) 8 rfl Try.underlying23 info3 rfl (by decide) (by omega) v42 a more _ _ _ (fun _ => True) (fun _ => False) rfl rfl HO42.out (Kd.F_now (Kd.F_step HFm.out (fun k hk _ => (below_then HB11.out HB11.out.size HB13.out).block k hk))) (fun _ _ h => h) (fun _ h => h.elim) (fun _ _ => trivial) HB13.out HB13.out.size (by have := HASK.out.na; have := HASK.out.nm; (try simp only [List.length_nil]); omega) ?_; intro v45 w14 ho hb hg hat; rw [HLG.out] at ho; obtain ⟨Ag, cg, rfl⟩ := Kd.R_slice ho; have HGc := Aside0.mk (Kd.R_reads' ho).2.1; have HG14 := Aside0.mk (Kd.R_reads' ho).2.2; have HB14 := Aside0.mk hb; have HB814 := Aside0.mk (below_then HB11.out HB11.out.size hb); clear ho hb hg hat) | ((with_reducible refine gate_dst (N := 46) rfl ?_); refine Kd.N_lit (Kd.slice 3 (Kd.int .i64)) _ 23 ?hg (N' := 46) ?hd (xs := ([] : List (List Int))) (inner := []) (ok := fun k => k < w8.heap.size ∨ w14.heap.size ≤ k) (okp := fun k => k < w8.heap.size ∨ w14.heap.size ≤ k) ?hr ?hp (fun _ hk => hk) (.inr (Nat.le_refl _)) (Below.refl _ _) (Nat.le_refl _) (by simp) ?_; (case hd => rfl); (case hg => rfl); (case hr => first | (go_simp; done) | (go_simp; rfl)); (case hp => exact (Reps.none _ _)); intro v46 w15 ho hb hg_ hnew_; have HO46 := Aside0.mk ho; have HB15 := Aside0.mk hb; clear ho hb hg_ hnew_) | ((with_reducible refine gate_builtin (b := .append) (xs := #[.tmp 46, .tmp 47]) rfl ?_); at_builtin; refine Kd.N_append_rows (Kd.slice 3 (Kd.int .i64)) (w0 := w14) w14.heap.size rfl (.tmp 46) (.tmp 47) 22 23 (.slice none 0 0) 24 rfl Try.underlying22 info23 rfl (by decide) (by omega) v46 [] p Ap p.length cp (fun k => k < w8.heap.size ∨ w14.heap.size ≤ k) (fun k => k < w8.heap.size) rfl rfl HO46.out (Kd.F_step HFp.out (fun k hk _ => (below_then HB814.out HB814.out.size HB15.out).block k hk)) (fun k hk => ⟨.inl hk, fun e => by have := Kd.N_base HO46.out k e.symm; have := HB814.out.size; omega⟩) (fun _ hk => .inr (Nat.le_trans HB15.out.size hk)) HB15.out HB15.out.size (by have := HASK.out.np; simp only [List.length_nil]; omega) ?_; intro v48 w16 ho hb hg hat; rw [List.nil_append] at ho; have HO48 := Aside0.mk ho; have HB16 := Aside0.mk hb; have HB816 := Aside0.mk (below_then HB814.out HB814.out.size hb); clear ho hb hg hat) | ((with_reducible refine gate_dst (N := 49) rfl ?_); refine Kd.N_lit (Kd.slice 3 (Kd.int .i64)) _ 23 ?hg (N' := 49) ?hd (xs := ([] : List (List Int))) (inner := []) (ok := fun k => k < w8.heap.size ∨ w16.heap.size ≤ k) (okp := fun k => k < w8.heap.size ∨ w16.heap.size ≤ k) ?hr ?hp (fun _ hk => hk) (.inr (Nat.le_refl _)) (Below.refl _ _) (Nat.le_refl _) (by simp) ?_; (case hd => rfl); (case hg => rfl); (case hr => first | (go_simp; done) | (go_simp; rfl)); (case hp => exact (Reps.none _ _)); intro v49 w17 ho hb hg_ hnew_; have HO49 := Aside0.mk ho; have HB17 := Aside0.mk hb; have HB817 := Aside0.mk (below_then HB816.out HB816.out.size hb); clear ho hb hg_ hnew_))
    have KS := step_any Al cl l 8 Am cm more w17 (Kd.F_now (Kd.F_step HFl.out (fun k hk _ => HB817.out.block k hk))) HCl.out (Kd.F_now (Kd.F_step HFm.out (fun k hk _ => HB817.out.block k hk))) HCm.out (Ask8.small (longer_step HASK.out))
    clear HO33 HO35 HO40 HO42 HO46
    have HB1417 := Aside0.mk (below_then HB16.out HB16.out.size HB17.out)
    cases hst : stepOf l 8 more with
    | false =>
      rw [hst] at KS
      refine KS.mono ?_
      rintro e w18 ⟨rfl, hb⟩
      have HO49b := Aside0.mk (Kd.N_below HO49.out hb)
      have HB18 := Aside0.mk (below_then HB17.out HB17.out.size hb)
      have HB818 := Aside0.mk (below_then HB817.out HB817.out.size hb)
      clear hb KS hst HO49
      go_wp2_with ((with_reducible refine gate_builtin (b := .append) (xs := #[.tmp 61, .tmp 62]) rfl ?_); at_builtin; refine Kd.N_append_rows (Kd.slice 3 (Kd.int .i64)) (w0 := w16) w16.heap.size rfl (.tmp 61) (.tmp 62) 22 23 (.slice none 0 0) 24 rfl Try.underlying22 info23 rfl (by decide) (by omega) v49 [] p Ap p.length cp (fun k => k < w8.heap.size ∨ w16.heap.size ≤ k) (fun k => k < w8.heap.size) rfl rfl HO49b.out (Kd.F_step HFp.out (fun k hk _ => HB818.out.block k hk)) (fun k hk => ⟨.inl hk, fun e => by have := Kd.N_base HO49b.out k e.symm; have := HB816.out.size; omega⟩) (fun _ hk => .inr (Nat.le_trans HB18.out.size hk)) HB18.out HB18.out.size (by have := HASK.out.np; simp only [List.length_nil]; omega) ?_; intro v63 w19 ho hb hg hat; rw [List.nil_append] at ho; obtain ⟨Ah, ch, rfl⟩ := Kd.N_slice ho; have HCh := Aside0.mk (Kd.N_reads' ho).2.1; have HCah := Aside0.mk (Kd.N_reads' ho).2.2; have HB19 := Aside0.mk hb; clear ho hb hg hat)
      have ho48 := Kd.N_below HO48.out HB19.out
      obtain ⟨Ab, cb, rfl⟩ := Kd.N_slice ho48
      have HCb := Aside0.mk (Kd.N_reads' ho48).2.1
      have HCbh := Aside0.mk (Kd.N_reads' ho48).2.2
      have HBg := Aside0.mk (below_then HB16.out HB16.out.size HB19.out)
      have HBw := Aside0.mk (below_then HB14.out HB14.out.size HBg.out)
      have HBz := Aside0.mk (below_then HB814.out HB814.out.size HBg.out)
      clear ho48
      obtain ⟨wz, hwz⟩ : ∃ wz, wz = w19 := ⟨_, rfl⟩
      have CW := Aside0.mk (Kd.C_below HW11.out HBw.out)
      have CG := Aside0.mk (Kd.C_below HG14.out HBg.out)
      have CL := Aside0.mk (Kd.F_now (Kd.F_step HFl.out (fun k hk _ => HBz.out.block k hk)))
      have CP := Aside0.mk (Kd.F_now (Kd.F_step HFp.out (fun k hk _ => HBz.out.block k hk)))
      have CA := Aside0.mk (Kd.F_now (Kd.F_step HFa.out (fun k hk _ => HBz.out.block k hk)))
      clear hwz
      have KC1 := check_any Aw cw wd 8 Ap cp p Aa ca a w19 CW.out HWc.out CP.out HCp.out CA.out HCa.out (by rw [← HWD.out]; exact Askc.small (longer_wide HASK.out))
      rw [show checkOf wd 8 p a = true by rw [← HWD.out]; exact HFACT.out.1] at KC1
      refine KC1.mono ?_
      rintro e u1 ⟨rfl, hb⟩
      have HU1 := Aside0.mk hb
      clear hb KC1
      go_wp2_with fail
      have KC2 := check_any Al cl l 8 Ap cp p Ag cg lg u1 (Kd.C_below CL.out HU1.out) HCl.out (Kd.C_below CP.out HU1.out) HCp.out (Kd.C_below CG.out HU1.out) HGc.out (by rw [← HLG.out]; exact Askc.small (longer_long HASK.out))
      rw [show checkOf l 8 p lg = true by rw [← HLG.out]; exact HFACT.out.2.1] at KC2
      refine KC2.mono ?_
      rintro e u2 ⟨rfl, hb⟩
      have HU2 := Aside0.mk (below_then HU1.out HU1.out.size hb)
      clear hb KC2
      go_wp2_with fail
      have KC3 := check_any Al cl l 8 Ah ch p Aa ca a u2 (Kd.C_below CL.out HU2.out) HCl.out (Kd.C_below HCah.out HU2.out) HCh.out (Kd.C_below CA.out HU2.out) HCa.out (Askc.small (longer_same HASK.out))
      rw [show checkOf l 8 p a = true by exact HCHK.out] at KC3
      refine KC3.mono ?_
      rintro e u3 ⟨rfl, hb⟩
      have HU3 := Aside0.mk (below_then HU2.out HU2.out.size hb)
      clear hb KC3
      go_wp2_with fail
      have KC4 := check_any Al cl l 8 Ab cb p Aa ca a u3 (Kd.C_below CL.out HU3.out) HCl.out (Kd.C_below HCbh.out HU3.out) HCb.out (Kd.C_below CA.out HU3.out) HCa.out (Askc.small (longer_same HASK.out))
      rw [show checkOf l 8 p a = true by exact HCHK.out] at KC4
      refine KC4.mono ?_
      rintro e u4 ⟨rfl, hb⟩
      have HU4 := Aside0.mk (below_then HU3.out HU3.out.size hb)
      clear hb KC4
      go_wp2_with fail
      go_ret
      exact ⟨rfl, below_then HB8.out HB8.out.size (below_then HBz.out HBz.out.size HU4.out)⟩
    | true =>
      rw [hst] at KS
      have HST := Aside0.mk (HFACT.out.2.2 hst)
      obtain ⟨ah, hah⟩ : ∃ q, more :: p = q := ⟨_, rfl⟩
      have HAH := Aside0.mk hah
      obtain ⟨bh, hbh⟩ : ∃ q, p ++ [more] = q := ⟨_, rfl⟩
      have HBH := Aside0.mk hbh
      refine KS.mono ?_
      rintro e w18 ⟨rfl, hb⟩
      have HO49b := Aside0.mk (Kd.N_below HO49.out hb)
      have HB18 := Aside0.mk (below_then HB17.out HB17.out.size hb)
      have HB818 := Aside0.mk (below_then HB817.out HB817.out.size hb)
      have HO48b := Aside0.mk (N_mono' (N_bound HO48.out) (ok' := fun k => k < w16.heap.size) (fun k hk => hk.2))
      have HV48 := Aside0.mk (fun k (e : some k = v48.ownBlock) => (⟨Kd.N_base HO48.out k e.symm, Kd.N_lt HO48.out k e.symm⟩ : w14.heap.size ≤ k ∧ k < w16.heap.size))
      clear hb KS hst HO49 hah hbh
      go_wp2_with (first | ((with_reducible refine gate_builtin (b := .append) (xs := #[.tmp 53, .tmp 55]) rfl ?_); at_builtin; refine Kd.N_append (Kd.slice 3 (Kd.int .i64)) (w0 := w16) w16.heap.size rfl (.tmp 53) (.tmp 55) 22 23 (.slice none 0 0) 24 rfl Try.underlying22 info23 rfl (by decide) (by omega) v49 [] more [.slice Am more.length cm] (fun k => k < w8.heap.size ∨ w16.heap.size ≤ k) (fun k => k < w8.heap.size) rfl rfl (Kd.FK_slice_mk HCm.out (Kd.F_step HFm.out (fun k hk _ => HB818.out.block k hk))) (fun k hk => ⟨.inl hk, fun e => by have := Kd.N_base HO49b.out k e.symm; have := HB816.out.size; omega⟩) (fun _ hk => .inr (Nat.le_trans HB18.out.size hk)) HO49b.out HB18.out HB18.out.size (by simp only [List.length_nil]; omega) ?_; intro v56 w19 ho hb hg hat; rw [List.nil_append] at ho; have HO56 := Aside0.mk ho; have HB19 := Aside0.mk hb; have HV56 := Aside0.mk (fun k (e : some k = v56.ownBlock) => (⟨Kd.N_base ho k e.symm, Kd.N_lt ho k e.symm⟩ : w16.heap.size ≤ k ∧ k < w19.heap.size)); have HO48c := Aside0.mk (N_mono' (Kd.N_below HO48b.out hb) (ok' := fun k => k < w16.heap.size ∨ w19.heap.size ≤ k) (fun k hk => .inl hk)); have HB1419 := Aside0.mk (below_then HB16.out HB16.out.size hb); clear ho hb hg hat) | ((with_reducible refine gate_builtin (b := .append) (xs := #[.tmp 57, .tmp 59]) rfl ?_); at_builtin; refine Kd.N_append (Kd.slice 3 (Kd.int .i64)) (w0 := w14) w14.heap.size rfl (.tmp 57) (.tmp 59) 22 23 (.slice none 0 0) 24 rfl Try.underlying22 info23 rfl (by decide) (by omega) v48 p more [.slice Am more.length cm] (fun k => k < w16.heap.size ∨ w19.heap.size ≤ k) (fun k => k < w8.heap.size) rfl rfl (Kd.FK_slice_mk HCm.out (Kd.F_step HFm.out (fun k hk _ => (below_then HB814.out HB814.out.size HB1419.out).block k hk))) (fun k hk => ⟨.inl (by have := HB816.out.size; omega), fun e => by have := (HV48.out k e).1; have := HB814.out.size; omega⟩) (fun _ hk => .inr hk) HO48c.out HB1419.out HB1419.out.size (by have := HASK.out.np; omega) ?_; intro v60 w20 ho hb hg hat; rw [HBH.out] at ho; have HO60 := Aside0.mk ho; have HB20 := Aside0.mk hb; have HZ20 := Aside0.mk hg.size; have HO56b := Aside0.mk (Kd.N_lower (Kd.N_step HO56.out (fun k hk hlt => hg.block k hlt (fun e => by have := HV48.out k e; have := HB816.out.size; have := HB814.out.size; omega))) HB16.out.size); clear ho hb hg hat) | ((with_reducible refine gate_builtin (b := .append) (xs := #[.tmp 61, .tmp 62]) rfl ?_); at_builtin; refine Kd.N_append_rows (Kd.slice 3 (Kd.int .i64)) (w0 := w14) w14.heap.size rfl (.tmp 61) (.tmp 62) 22 23 (.slice none 0 0) 24 rfl Try.underlying22 info23 rfl (by decide) (by omega) v56 [more] p Ap p.length cp (fun k => k < w8.heap.size ∨ w16.heap.size ≤ k) (fun k => k < w8.heap.size) rfl rfl HO56b.out (Kd.F_step HFp.out (fun k hk _ => (below_then HB814.out HB814.out.size HB20.out).block k hk)) (fun k hk => ⟨.inl hk, fun e => by have := Kd.N_base HO56b.out k e.symm; have := HB814.out.size; omega⟩) (fun _ hk => .inr (by have := HB19.out.size; have := HZ20.out; omega)) HB20.out HB20.out.size (by have := HASK.out.np; simp only [List.length_cons, List.length_nil]; omega) ?_; intro v63 w21 ho hb hg hat; rw [List.singleton_append, HAH.out] at ho; obtain ⟨Ah, ch, rfl⟩ := Kd.N_slice ho; have HCh := Aside0.mk (Kd.N_reads' ho).2.1; have HCah := Aside0.mk (Kd.N_reads' ho).2.2; have HB21 := Aside0.mk hb; have ho60 := Kd.N_step HO60.out (fun k hk hlt => hg.block k hlt (fun e => by have := HV56.out k e; omega)); obtain ⟨Ab, cb, rfl⟩ := Kd.N_slice ho60; have HCb := Aside0.mk (Kd.N_reads' ho60).2.1; have HCbh := Aside0.mk (Kd.N_reads' ho60).2.2; clear ho hb hg hat ho60 HO60))
      have HBg := HB21
      have HBw := Aside0.mk (below_then HB14.out HB14.out.size HBg.out)
      have HBz := Aside0.mk (below_then HB814.out HB814.out.size HBg.out)
      obtain ⟨wz, hwz⟩ : ∃ wz, wz = w21 := ⟨_, rfl⟩
      have CW := Aside0.mk (Kd.C_below HW11.out HBw.out)
      have CG := Aside0.mk (Kd.C_below HG14.out HBg.out)
      have CL := Aside0.mk (Kd.F_now (Kd.F_step HFl.out (fun k hk _ => HBz.out.block k hk)))
      have CP := Aside0.mk (Kd.F_now (Kd.F_step HFp.out (fun k hk _ => HBz.out.block k hk)))
      have CA := Aside0.mk (Kd.F_now (Kd.F_step HFa.out (fun k hk _ => HBz.out.block k hk)))
      clear hwz
      have KC1 := check_any Aw cw wd 8 Ap cp p Aa ca a w21 CW.out HWc.out CP.out HCp.out CA.out HCa.out (by rw [← HWD.out]; exact Askc.small (longer_wide HASK.out))
      rw [show checkOf wd 8 p a = true by rw [← HWD.out]; exact HFACT.out.1] at KC1
      refine KC1.mono ?_
      rintro e u1 ⟨rfl, hb⟩
      have HU1 := Aside0.mk hb
      clear hb KC1
      go_wp2_with fail
      have KC2 := check_any Al cl l 8 Ap cp p Ag cg lg u1 (Kd.C_below CL.out HU1.out) HCl.out (Kd.C_below CP.out HU1.out) HCp.out (Kd.C_below CG.out HU1.out) HGc.out (by rw [← HLG.out]; exact Askc.small (longer_long HASK.out))
      rw [show checkOf l 8 p lg = true by rw [← HLG.out]; exact HFACT.out.2.1] at KC2
      refine KC2.mono ?_
      rintro e u2 ⟨rfl, hb⟩
      have HU2 := Aside0.mk (below_then HU1.out HU1.out.size hb)
      clear hb KC2
      go_wp2_with fail
      have KC3 := check_any Al cl l 8 Ah ch ah Aa ca a u2 (Kd.C_below CL.out HU2.out) HCl.out (Kd.C_below HCah.out HU2.out) HCh.out (Kd.C_below CA.out HU2.out) HCa.out (by rw [← HAH.out]; exact Askc.small (longer_ahead HASK.out))
      rw [show checkOf l 8 ah a = true by rw [← HAH.out]; exact HST.out.1] at KC3
      refine KC3.mono ?_
      rintro e u3 ⟨rfl, hb⟩
      have HU3 := Aside0.mk (below_then HU2.out HU2.out.size hb)
      clear hb KC3
      go_wp2_with fail
      have KC4 := check_any Al cl l 8 Ab cb bh Aa ca a u3 (Kd.C_below CL.out HU3.out) HCl.out (Kd.C_below HCbh.out HU3.out) HCb.out (Kd.C_below CA.out HU3.out) HCa.out (by rw [← HBH.out]; exact Askc.small (longer_behind HASK.out))
      rw [show checkOf l 8 bh a = true by rw [← HBH.out]; exact HST.out.2] at KC4
      refine KC4.mono ?_
      rintro e u4 ⟨rfl, hb⟩
      have HU4 := Aside0.mk (below_then HU3.out HU3.out.size hb)
      clear hb KC4
      go_wp2_with fail
      go_ret
      exact ⟨rfl, below_then HB8.out HB8.out.size (below_then HBz.out HBz.out.size HU4.out)⟩
end Go.Proofs.Ytdlfmobnmcamaaa.Q
