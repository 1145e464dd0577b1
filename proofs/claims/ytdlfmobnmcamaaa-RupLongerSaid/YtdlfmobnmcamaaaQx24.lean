/- Written by hyb.py, a program of this session that drives the kit's printer over this seat's translation: each function as a plain Lean function, and a proof that the Go code does what it says. Lean checks it. -/
import Derived.Test.YtdlfmobnmcamaaaQx0
import Derived.Test.YtdlfmobnmcamaaaQx23
import Derived.Test.YtdlfmobnmcamaaaShelf
import Derived.Sort.OwnSortedInts
import Derived.Test.YtdlfmobnmcamaaaRupRef
namespace Go.Proofs.Ytdlfmobnmcamaaa.Q
open Go.RowKit Go.Proofs.YtdlfmobnmcamaaaW.PrintWords Go.Proofs.YtdlfmobnmcamaaaW.PrintLast Go.Proofs.YtdlfmobnmcamaaaW.PrintMore
attribute [local go_sem] max2_int min2_int max_two min_two max_three min_three max_four min_four   -- for this text's walks alone
set_option linter.unusedVariables false
set_option linter.unusedSimpArgs false

noncomputable section
-- HAND
/-! ### rup_Step: function 20, by hand -/
-- IMPORTS Derived.Test.YtdlfmobnmcamaaaRupRef
/-- The opposites of a clause's literals. -/
def opp (c : List Int) : List Int := c.map fun x => wrap64 (-x)
theorem opp_l0 (c : List Int) (hc : c.length < 17592186044416) : ∀ (d j : Nat) (a : List Int), c.length - j = d → j ≤ c.length → a = opp (c.take j) → ∃ k, rup_opposites.l0 k a c (c.length : Int) (j : Int) = some (opp c)
  | 0, j, a, hd, hj, ha => by
    refine ⟨1, ?_⟩
    rw [rup_opposites.l0, if_neg (by omega), ha, List.take_of_length_le (by omega)]
  | d + 1, j, a, hd, hj, ha => by
    have h : j < c.length := by omega
    have hr : YtdlfmobnmcamaaaW.PrintWords.rd c (j : Int) = c[j] := by simp [YtdlfmobnmcamaaaW.PrintWords.rd, List.getD_eq_getElem?_getD, h]
    have hw : wrap64 ((j : Int) + 1) = ((j + 1 : Nat) : Int) := by unfold wrap64; omega
    have hl : a.length = j := by rw [ha, opp, List.length_map, List.length_take]; omega
    obtain ⟨k, hk⟩ := opp_l0 c hc d (j + 1) (a ++ [wrap64 (-(YtdlfmobnmcamaaaW.PrintWords.rd c (j : Int)))]) (by omega) (by omega) (by rw [ha, hr, List.take_succ_eq_append_getElem h]; unfold opp; rw [List.map_append]; rfl)
    refine ⟨k + 1, ?_⟩
    rw [rup_opposites.l0, if_pos (by omega), if_pos (by omega), if_pos (by omega), if_pos (by omega), hw]
    exact hk
theorem opp_ev (c : List Int) (hc : c.length < 17592186044416) : ∃ k, rup_opposites.f k c = some (opp c) := opp_l0 c hc _ 0 [] rfl (Nat.zero_le _) (by simp [opp])
noncomputable def stepOf (l : List (List Int)) (vars : Int) (c : List Int) : Bool := refOf l vars (opp c)
def rup_Step.f (l : List (List Int)) (vars : Int) (c : List Int) : Option Bool := if Small l (opp c) then some (stepOf l vars c) else none
set_option maxHeartbeats 8000000 in
set_option maxRecDepth 100000 in
theorem step_any (A0 : Option Addr) (c0 : Nat) (l0 : List (List Int)) (a1 : Int) (A2 : Option Addr) (c2 : Nat) (l2 : List Int) (w : World) (hr0 : Kd.C (Kd.slice 3 (Kd.int .i64)) w A0 l0.length l0) (hc0 : l0.length ≤ c0) (hr2 : Kd.C (Kd.int .i64) w A2 l2.length l2) (hc2 : l2.length ≤ c2) (hs : Small l0 (opp l2)) :
    Calls Try.prog 20 #[.slice A0 l0.length c0, .int .i64 a1, .slice A2 l2.length c2] w fun e w' => e = .returned (.bool (stepOf l0 a1 l2)) ∧ Below w.heap.size w w' := by
  have hlen : l2.length < 17592186044416 := by have := hs.1; simp [opp] at this; omega
  obtain ⟨k, hk⟩ := opp_ev l2 hlen
  have HR0 := Aside0.mk hr0
  have HC0 := Aside0.mk hc0
  have HS := Aside0.mk hs
  have K1 := Aside0.mk (refuted_any A0 l0.length c0 a1 w)
  obtain ⟨w1, hw1⟩ : ∃ w1, refW w A0 l0.length c0 a1 = w1 := ⟨_, rfl⟩
  rw [hw1] at K1
  have s1 := alloc_size w (.cells #[.slice A0 l0.length c0] 22)
  have hz1 : w1.heap.size = w.heap.size + 1 + 1 := by rw [← hw1, refW, alloc_size, s1]
  have b1 : Below w.heap.size w w1 := by rw [← hw1]; exact below_alloc (below_alloc (Below.refl _ _) _) _
  have g1 : w1.heap[w.heap.size]? = some (.cells #[.slice A0 l0.length c0] 22 (0, 0)) := by rw [← hw1, refW, alloc_old _ _ _ (by omega)]; exact alloc_new _ _
  have g2 : w1.heap[w.heap.size + 1]? = some (.cells #[.int .i64 a1] 3 (0, 0)) := by rw [← hw1, refW, ← s1]; exact alloc_new _ _
  have HB1 := Aside0.mk b1
  have HG1 := Aside0.mk g1
  have HG2 := Aside0.mk g2
  have HZ1 := Aside0.mk hz1
  have K2 := Aside0.mk (rup_opposites.calls k A2 c2 l2 (opp l2) w1 (Kd.C_below hr2 b1) hc2 hk)
  clear hr0 hc0 hr2 hc2 hs hw1 b1 g1 g2 hk hz1 s1 hlen
  go_enter Try.func20, Try.ntmps20
  go_wp2_with fail
  refine K1.out.mono ?_
  rintro e w' ⟨rfl, rfl⟩
  go_wp2_with fail
  refine K2.out.mono ?_
  rintro e w2 ⟨v2, rfl, ho, hb⟩
  obtain ⟨A5, c5, rfl, hl5, hC5⟩ := Kd.R_reads ho
  have h1 := hb.block w.heap.size (by have := HZ1.out; omega)
  have h2 := hb.block (w.heap.size + 1) (by have := HZ1.out; omega)
  have hb2 := below_then HB1.out HB1.out.size hb
  have HB2 := Aside0.mk hb2
  have K3 := Aside0.mk (refuted1_any ⟨w.heap.size, 0, none⟩ ⟨w.heap.size + 1, 0, none⟩ A0 c0 l0 a1 A5 c5 (opp l2) w2 (by rw [blk_cell (h1.trans HG1.out)]; rfl) (by rw [blk_cell (h2.trans HG2.out)]; rfl) (Kd.C_below HR0.out hb2) HC0.out hC5 hl5 HS.out)
  clear ho hb hl5 hC5 h1 h2 hb2
  go_wp2_with fail
  refine K3.out.mono ?_
  rintro e w3 ⟨rfl, hb⟩
  have HB3 := Aside0.mk (below_then HB2.out HB2.out.size hb)
  clear hb
  go_wp2_with fail
  go_ret
  exact ⟨rfl, HB3.out⟩
theorem rup_Step.calls (A0 : Option Addr) (c0 : Nat) (l0 : List (List Int)) (a1 : Int) (A2 : Option Addr) (c2 : Nat) (l2 : List Int) (r : Bool) (w : World) (hr0 : Kd.C (Kd.slice 3 (Kd.int .i64)) w A0 l0.length l0) (hc0 : l0.length ≤ c0) (hr2 : Kd.C (Kd.int .i64) w A2 l2.length l2) (hc2 : l2.length ≤ c2) (h : rup_Step.f l0 a1 l2 = some r) :
    Calls Try.prog 20 #[.slice A0 l0.length c0, .int .i64 a1, .slice A2 l2.length c2] w fun e w' => e = .returned (.bool r) ∧ Below w.heap.size w w' := by
  unfold rup_Step.f at h
  split at h
  · rename_i hs
    cases h
    exact step_any A0 c0 l0 a1 A2 c2 l2 w hr0 hc0 hr2 hc2 hs
  · cases h

end
end Go.Proofs.Ytdlfmobnmcamaaa.Q
