/- Written by hyb.py, a program of this session that drives the kit's printer over this seat's translation: each function as a plain Lean function, and a proof that the Go code does what it says. Lean checks it. -/
import Derived.Test.YtdlfmobnmcamaaaQx0
import Derived.Test.YtdlfmobnmcamaaaShelf
import Derived.Sort.OwnSortedInts
namespace Go.Proofs.Ytdlfmobnmcamaaa.Q
open Go.RowKit Go.Proofs.YtdlfmobnmcamaaaW.PrintWords Go.Proofs.YtdlfmobnmcamaaaW.PrintLast Go.Proofs.YtdlfmobnmcamaaaW.PrintMore
attribute [local go_sem] max2_int min2_int max_two min_two max_three min_three max_four min_four   -- for this text's walks alone
set_option linter.unusedVariables false
set_option linter.unusedSimpArgs false

noncomputable section
-- HAND
/-! ### proofmarkref18_Cut: function 19, by hand -/
def proofmarkref18_Cut.f (l0 : List Int) (a1 : Int) : Option (List Int) := if a1 < 0 then none else if (l0.take (mn (l0.length : Int) a1).toNat).length < 17592186044416 then some (l0.take (mn (l0.length : Int) a1).toNat) else none
set_option maxHeartbeats 8000000 in
set_option maxRecDepth 100000 in
theorem cut_short (A0 : Option Addr) (c0 : Nat) (l0 : List Int) (a1 : Int) (w : World) (hr0 : Kd.C (Kd.int .i64) w A0 l0.length l0) (hc0 : l0.length ≤ c0) (h0 : 0 ≤ a1) (h1 : a1 ≤ (l0.length : Int)) (hlt : a1 < (l0.length : Int)) (hl : (l0.take a1.toNat).length < 17592186044416) :
    Calls Try.prog 19 #[.slice A0 l0.length c0, .int .i64 a1] w fun e w' => ∃ v0_ : Value, e = .returned (v0_) ∧ Kd.R (Kd.int .i64) 3 w' w.heap.size (fun _ => True) v0_ (l0.take a1.toNat) ∧ Below w.heap.size w w' := by
  have HL : Aside0 ((l0.take a1.toNat).length = a1.toNat) := ⟨by first | rfl | (rw [List.length_take]; omega)⟩
  have HR0 := Aside0.mk hr0
  have HC0 := Aside0.mk hc0
  have LM := Aside0.mk hl
  clear hr0 hc0 hl
  have HB := Aside0.mk (Below.refl w.heap.size w)
  obtain ⟨y105, hy105⟩ : ∃ y_ : List Int, y_ = (([] : List Int) ++ (l0.take a1.toNat)) := ⟨_, rfl⟩
  have Ny105 := Aside0.mk hy105
  have E : Aside0 ((l0.take a1.toNat) = y105) := ⟨by rw [hy105, List.nil_append]⟩
  clear hy105
  have hif : (if a1 < (l0.length : Int) then a1 else (l0.length : Int)) = a1 := by first | rw [if_pos hlt] | rw [if_neg (by omega)]
  have k0 := eq_true h0
  have k1 := eq_true h1
  go_enter Try.func19, Try.ntmps19
  go_wp2_with (first | ((with_reducible refine gate_dst (N := 5) rfl ?_); refine Kd.R_lit (Kd.int .i64) _ 3 ?hg (N := 5) ?hd (xs := ([] : List Int)) (inner := []) (ok := fun _ => True) (okp := fun _ => True) ?hr ?hp (fun _ hk => hk) trivial (Below.refl _ _) (Nat.le_refl _) (by simp) ?_; (case hd => rfl); (case hg => rfl); (case hr => first | (go_simp; done) | (go_simp; rfl)); (case hp => exact (Reps.none _ _)); intro v102 w7 ho8 hb hg_ hnew_; clear hg_ hnew_; have n0_ := Aside0.mk (Kd.R_lower ho8 (below_size HB.out)); have n1_ := Aside0.mk (below_step HB.out hb); clear HB; have HO103 := n0_; have HB := n1_; clear n0_ n1_; clear hb ho8; obtain ⟨i09, hi09, _, hsz9, _⟩ := info_parts info3; obtain ⟨hcut9, hA9, hC9⟩ := print_take_of (P := Try.prog) (Value.int .i64) 0 23 3 .i64 Try.underlying23 hi09 hsz9 A0 c0 l0 (a1) h0 h1 HC0.out; have HR104 : Aside0 (Kd.C (Kd.int .i64) w A0 (a1.toNat) (l0.take a1.toNat)) := ⟨by have z := Kd.C_of_reads (h1 := fun _ => rfl) (hA9 _ (Kd.reads_of_C HR0.out)); rw [HL.out] at z; exact z⟩; clear hA9 hC9 hi09 hsz9) | ((with_reducible refine gate_builtin (b := .append) (xs := #[.tmp 5, .tmp 11]) rfl ?_); at_builtin; refine Kd.R_append_rows (Kd.int .i64) (w0 := w) w.heap.size rfl (.tmp 5) (.tmp 11) 23 3 (.int .i64 0) 8 rfl Try.underlying23 info3 rfl (by decide) (by omega) v102 [] (l0.take a1.toNat) _ _ _ (fun _ => True) (fun _ => False) rfl rfl ?aO ?aR (fun _ _ h => h) (fun _ h => h.elim) ?aF ?aB ?aS ?aL ?_; (case aR => exact (Kd.C_below HR104.out HB.out)); (case aB => exact HB.out); (case aF => exact (fun _ _ => trivial)); (case aO => exact HO103.out); (case aS => exact (below_size HB.out)); (case aL => have := LM.out; have z := HL.out; simp only [List.length_nil]; omega); intro v106 w10 ho hb hg hat; rw [← Ny105.out] at ho; have n0_ := Aside0.mk (hb); have n1_ := Aside0.mk (ho); clear HB; clear HO103; have HB := n0_; have HO107 := n1_; clear n0_ n1_; clear ho hb hg hat))
  go_ret
  exact ⟨_, rfl, by have z := HO107.out; rw [← E.out] at z; exact z, HB.out⟩
set_option maxHeartbeats 8000000 in
set_option maxRecDepth 100000 in
theorem cut_long (A0 : Option Addr) (c0 : Nat) (l0 : List Int) (a1 : Int) (w : World) (hr0 : Kd.C (Kd.int .i64) w A0 l0.length l0) (hc0 : l0.length ≤ c0) (h0 : 0 ≤ (l0.length : Int)) (h1 : (l0.length : Int) ≤ (l0.length : Int)) (hlt : (l0.length : Int) ≤ a1) (hl : (l0).length < 17592186044416) :
    Calls Try.prog 19 #[.slice A0 l0.length c0, .int .i64 a1] w fun e w' => ∃ v0_ : Value, e = .returned (v0_) ∧ Kd.R (Kd.int .i64) 3 w' w.heap.size (fun _ => True) v0_ (l0) ∧ Below w.heap.size w w' := by
  have HL : Aside0 ((l0).length = l0.length) := ⟨by first | rfl | (rw [List.length_take]; omega)⟩
  have HR0 := Aside0.mk hr0
  have HC0 := Aside0.mk hc0
  have LM := Aside0.mk hl
  clear hr0 hc0 hl
  have HB := Aside0.mk (Below.refl w.heap.size w)
  obtain ⟨y105, hy105⟩ : ∃ y_ : List Int, y_ = (([] : List Int) ++ (l0)) := ⟨_, rfl⟩
  have Ny105 := Aside0.mk hy105
  have E : Aside0 ((l0) = y105) := ⟨by rw [hy105, List.nil_append]⟩
  clear hy105
  have hif : (if a1 < (l0.length : Int) then a1 else (l0.length : Int)) = (l0.length : Int) := by first | rw [if_pos hlt] | rw [if_neg (by omega)]
  have k0 := eq_true h0
  have k1 := eq_true h1
  go_enter Try.func19, Try.ntmps19
  go_wp2_with (first | ((with_reducible refine gate_dst (N := 5) rfl ?_); refine Kd.R_lit (Kd.int .i64) _ 3 ?hg (N := 5) ?hd (xs := ([] : List Int)) (inner := []) (ok := fun _ => True) (okp := fun _ => True) ?hr ?hp (fun _ hk => hk) trivial (Below.refl _ _) (Nat.le_refl _) (by simp) ?_; (case hd => rfl); (case hg => rfl); (case hr => first | (go_simp; done) | (go_simp; rfl)); (case hp => exact (Reps.none _ _)); intro v102 w7 ho8 hb hg_ hnew_; clear hg_ hnew_; have n0_ := Aside0.mk (Kd.R_lower ho8 (below_size HB.out)); have n1_ := Aside0.mk (below_step HB.out hb); clear HB; have HO103 := n0_; have HB := n1_; clear n0_ n1_; clear hb ho8; obtain ⟨i09, hi09, _, hsz9, _⟩ := info_parts info3; obtain ⟨hcut9, hA9, hC9⟩ := print_take_of (P := Try.prog) (Value.int .i64) 0 23 3 .i64 Try.underlying23 hi09 hsz9 A0 c0 l0 ((l0.length : Int)) h0 h1 HC0.out; have HR104 : Aside0 (Kd.C (Kd.int .i64) w A0 (l0.length) (l0)) := ⟨HR0.out⟩; clear hA9 hC9 hi09 hsz9) | ((with_reducible refine gate_builtin (b := .append) (xs := #[.tmp 5, .tmp 11]) rfl ?_); at_builtin; refine Kd.R_append_rows (Kd.int .i64) (w0 := w) w.heap.size rfl (.tmp 5) (.tmp 11) 23 3 (.int .i64 0) 8 rfl Try.underlying23 info3 rfl (by decide) (by omega) v102 [] (l0) _ _ _ (fun _ => True) (fun _ => False) rfl rfl ?aO ?aR (fun _ _ h => h) (fun _ h => h.elim) ?aF ?aB ?aS ?aL ?_; (case aR => exact (Kd.C_below HR104.out HB.out)); (case aB => exact HB.out); (case aF => exact (fun _ _ => trivial)); (case aO => exact HO103.out); (case aS => exact (below_size HB.out)); (case aL => have := LM.out; have z := HL.out; simp only [List.length_nil]; omega); intro v106 w10 ho hb hg hat; rw [← Ny105.out] at ho; have n0_ := Aside0.mk (hb); have n1_ := Aside0.mk (ho); clear HB; clear HO103; have HB := n0_; have HO107 := n1_; clear n0_ n1_; clear ho hb hg hat))
  go_ret
  exact ⟨_, rfl, by have z := HO107.out; rw [← E.out] at z; exact z, HB.out⟩
theorem proofmarkref18_Cut.calls (A0 : Option Addr) (c0 : Nat) (l0 : List Int) (a1 : Int) (r : List Int) (w : World) (hr0 : Kd.C (Kd.int .i64) w A0 l0.length l0) (hc0 : l0.length ≤ c0) (h : proofmarkref18_Cut.f l0 a1 = some r) :
    Calls Try.prog 19 #[.slice A0 l0.length c0, .int .i64 a1] w fun e w' => ∃ v0_ : Value, e = .returned (v0_) ∧ Kd.R (Kd.int .i64) 3 w' w.heap.size (fun _ => True) v0_ r ∧ Below w.heap.size w w' := by
  unfold proofmarkref18_Cut.f at h
  by_cases c1 : a1 < 0
  · rw [if_pos c1] at h; cases h
  · rw [if_neg c1] at h
    split at h
    · rename_i hl
      obtain rfl := Option.some.inj h
      by_cases c2 : a1 < (l0.length : Int)
      · have e : mn (l0.length : Int) a1 = a1 := by unfold mn; rw [if_pos c2]
        rw [e] at hl ⊢
        exact cut_short A0 c0 l0 a1 w hr0 hc0 (by omega) (by omega) c2 hl
      · have e : mn (l0.length : Int) a1 = (l0.length : Int) := by unfold mn; rw [if_neg c2]
        have e2 : l0.take ((l0.length : Int)).toNat = l0 := List.take_of_length_le (by simp)
        rw [e, e2] at hl ⊢
        exact cut_long A0 c0 l0 a1 w hr0 hc0 (by omega) (by omega) (by omega) hl
    · cases h

end
end Go.Proofs.Ytdlfmobnmcamaaa.Q
