/- rup.refuted and its closure. Written for this claim. -/
import Derived.Test.YtdlfmobnmcamaaaUnitWalk
namespace Go.Proofs.Ytdlfmobnmcamaaa.Q
open Go.RowKit Go.Proofs.YtdlfmobnmcamaaaW.PrintWords Go.Proofs.YtdlfmobnmcamaaaW.PrintLast Go.Proofs.YtdlfmobnmcamaaaW.PrintMore
set_option linter.unusedVariables false
set_option linter.unusedSimpArgs false
/-- Do literals, by units, end in a conflict? They, and the clauses, may be. -/
noncomputable def refOf (l : List (List Int)) (vars : Int) (known : List Int) : Bool := rightOf l vars && rightOf [known] vars && !(unitOf l vars known).2
def refW (w : World) (A : Option Addr) (n c : Nat) (vars : Int) : World := (w.alloc (.cells #[.slice A n c] 22)).alloc (.cells #[.int .i64 vars] 3)
set_option maxHeartbeats 4000000 in
set_option maxRecDepth 100000 in
theorem refuted_any (A : Option Addr) (n c : Nat) (vars : Int) (w : World) :
    Calls Try.prog 44 #[.slice A n c, .int .i64 vars] w fun e w' => e = .returned (.func (.func 69) #[] #[.pointer (some ⟨w.heap.size, 0, none⟩), .pointer (some ⟨w.heap.size + 1, 0, none⟩)]) ∧ w' = refW w A n c vars := by
  go_enter Try.func44, Try.ntmps44
  go_wp2
  go_ret
  exact ⟨rfl, rfl⟩
set_option maxHeartbeats 8000000 in
set_option maxRecDepth 100000 in
theorem refuted1_any (g1 g2 : Addr) (A0 : Option Addr) (c0 : Nat) (l0 : List (List Int)) (a1 : Int) (A2 : Option Addr) (c2 : Nat) (l2 : List Int) (w : World) (hg1 : w.cell? g1 = some (.slice A0 l0.length c0)) (hg2 : w.cell? g2 = some (.int .i64 a1)) (hr0 : Kd.C (Kd.slice 3 (Kd.int .i64)) w A0 l0.length l0) (hc0 : l0.length ≤ c0) (hr2 : Kd.C (Kd.int .i64) w A2 l2.length l2) (hc2 : l2.length ≤ c2) (hs : Small l0 l2) :
    Calls Try.prog 69 #[.slice A2 l2.length c2, .pointer (some g1), .pointer (some g2)] w fun e w' => e = .returned (.bool (refOf l0 a1 l2)) ∧ Below w.heap.size w w' := by
  have HR0 := Aside0.mk hr0
  have HC0 := Aside0.mk hc0
  have HR2 := Aside0.mk hr2
  have HC2 := Aside0.mk hc2
  have HS := Aside0.mk hs
  have HM : Aside0 (∀ c ∈ l0, c.length ≤ 9223372036854775807) := ⟨fun c hc => by
    have h1 := hs.1
    obtain ⟨i, hi, rfl⟩ := List.getElem_of_mem hc
    have h2 := sum_at l0 i hi
    have h3 := sum_le l0 (i + 1)
    omega⟩
  obtain ⟨r, hr⟩ : ∃ r, refOf l0 a1 l2 = r := ⟨_, rfl⟩
  rw [hr]
  have HE := Aside0.mk hr
  have HG1 := Aside0.mk hg1
  have HG2 := Aside0.mk hg2
  have K1 := Aside0.mk (right_calls A0 c0 l0 a1 w hr0 hc0 HM.out)
  clear hr0 hc0 hr2 hc2 hs hr
  cases h1 : rightOf l0 a1 with
  | false =>
    have HT : Aside0 (r = false) := ⟨by rw [← HE.out, refOf, h1]; rfl⟩
    rw [h1] at K1
    clear h1
    go_enter Try.func69, Try.ntmps69
    go_wp2_with fail
    refine K1.out.mono ?_
    rintro e w1 ⟨rfl, hb⟩
    have HB := Aside0.mk hb
    clear hb
    go_wp2_with fail
    go_ret
    exact ⟨by rw [HT.out]; rfl, HB.out⟩
  | true =>
    rw [h1] at K1
    have H1 := Aside0.mk h1
    clear h1
    go_enter Try.func69, Try.ntmps69
    go_wp2_with fail
    refine K1.out.mono ?_
    rintro e w1 ⟨rfl, hb⟩
    have HB := Aside0.mk hb
    have hg3 : (w1.alloc (.cells #[.slice A2 l2.length c2] 23)).cell? g2 = some (.int .i64 a1) := pw_cell_below (below_alloc hb _) HG2.out
    have hg4 := pw_cell_below hb HG2.out
    clear hb K1
    go_wp2_with fail
    have hb2 := below_alloc HB.out (.cells #[.slice A2 l2.length c2] 23)
    have K2 := Aside0.mk (right_calls (some ⟨w1.heap.size, 0, none⟩) 1 [l2] a1 (w1.alloc (.cells #[.slice A2 l2.length c2] 23)) (one_row (Kd.C_below HR2.out hb2) HC2.out w1.heap.size 23 (by unfold World.alloc; simp)) (by simp) (fun c hc => by simp at hc; subst hc; exact HR2.out.2.1))
    have HB2 := Aside0.mk hb2
    have hsz : w.heap.size ≤ (w1.alloc (.cells #[.slice A2 l2.length c2] 23)).heap.size := hb2.size
    have HZ2 := Aside0.mk hsz
    clear hb2 hsz HB
    cases h2 : rightOf [l2] a1 with
    | false =>
      have HT : Aside0 (r = false) := ⟨by rw [← HE.out, refOf, H1.out, h2]; rfl⟩
      rw [h2] at K2
      clear h2
      refine K2.out.mono ?_
      rintro e w2 ⟨rfl, hb⟩
      have HB := Aside0.mk (below_then HB2.out HZ2.out hb)
      clear hb
      go_wp2_with fail
      go_ret
      exact ⟨by rw [HT.out]; rfl, HB.out⟩
    | true =>
      have HT : Aside0 (r = !(unitOf l0 a1 l2).2) := ⟨by rw [← HE.out, refOf, H1.out, h2]; rfl⟩
      rw [h2] at K2
      clear h2
      refine K2.out.mono ?_
      rintro e w2 ⟨rfl, hb⟩
      have HB := Aside0.mk (below_then HB2.out HZ2.out hb)
      have hx1 := pw_cell_below HB.out HG1.out
      have hx2 := pw_cell_below HB.out HG2.out
      have KU := Aside0.mk (unit_any A0 c0 l0 a1 A2 c2 l2 (Kd.C_below HR0.out HB.out) HC0.out (Kd.C_below HR2.out HB.out) HC2.out HS.out)
      clear hb K2 HB2 HZ2
      go_wp2_with fail
      refine KU.out.mono ?_
      rintro e w3 ⟨v, rfl, _, hb⟩
      have HB3 := Aside0.mk (below_then HB.out HB.out.size hb)
      clear hb
      go_wp2_with fail
      go_ret
      exact ⟨by rw [HT.out]; rfl, HB3.out⟩
end Go.Proofs.Ytdlfmobnmcamaaa.Q
