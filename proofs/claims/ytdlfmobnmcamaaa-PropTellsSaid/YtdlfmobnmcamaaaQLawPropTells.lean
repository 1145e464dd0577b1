/- The law PropTells holds of the Go program: the row, out of its pure statement and the walk. Written by lawrow.py, a program of this session. -/
import Derived.Test.YtdlfmobnmcamaaaRows
import Derived.Test.YtdlfmobnmcamaaaQSayPropTells
import Derived.Test.YtdlfmobnmcamaaaQPurePropTells
import Derived.WalkKit
import Derived.ProofKit
import Derived.OpenShut
import Derived.ShutString
import Derived.ChangeOld
import Derived.Below
import Derived.SizedLaws
namespace Go.Proofs.Ytdlfmobnmcamaaa.propTells
open Go.ChangeShapes Go.WideShapes Go.ChangeAt Go.RowKit
open Go.ChangeMaps (open_string shut_string)
open Go.Proofs.YtdlfmobnmcamaaaW.PrintWords Go.Proofs.Ytdlfmobnmcamaaa.Q Go.Proofs.Ytdlfmobnmcamaaa.Open
set_option linter.unusedVariables false
theorem own : ownKnob Try.prog.godebug = none := by kernel_rfl
theorem laidOut : laidOutB Try.prog = true := by kernel_rfl
set_option maxRecDepth 100000 in
theorem lifted (os : Os) (started : os.Started) (H : Type) (enc : TypeId × Value → H) :
    ReturnsInHanded {} Try.checked os 7 .any (Rows.propTellsSpec.pre6 enc Try.prog Try.f7 Rows.propTellsRow.domain false) (Rows.propTellsSpec.post enc Try.prog Try.f7 false true false false) := by
  refine returnsInHanded_of_change_sized (C := Try.checked) own started (by kernel_rfl) Try.func7
    (ChangeSpec.witness6 (enc := enc) (C := Try.checked) false ⟨#[], #[.agg #[.slice none 0 0, .int .i64 0, .slice none 0 0, .slice none 0 0, .int .i64 0]], []⟩ 8 (by kernel_rfl) (by kernel_rfl) (by kernel_rfl) (by kernel_rfl)) ?_
  intro W base args ds gs before hval0 hW hcnd hsz0 _
  have hsz : (DataW.weightsEach Try.prog (Try.f7.params.toList ++ Rows.propTellsSpec.plain.varTypes Try.prog) (ds ++ gs)).all (· ≤ reachBytes) = true := hsz0
  have hval : ∀ (j : Nat) t v, Try.f7.params[j]? = some t → args[j]? = some v → Value.okWide Try.prog W .any base t v := hval0
  have hW' := hW
  obtain ⟨p, q, hA0, hV, rfl, hfz, hnd⟩ := hW
  have hA : DataW.TrodAll enc Try.prog W 0 (fun _ => true) true Try.f7.params.toList args.toList ds p := hA0
  rw [Try.params7] at hA hval hsz
  obtain ⟨v0, vs0, d0, ds0, p0, q0, hargs, rfl, rfl, h0, r0⟩ := trodAll_cons hA
  obtain ⟨rfl, rfl, rfl⟩ := trodAll_nil r0
  obtain rfl : args = #[v0] := by cases args; simp_all
  obtain ⟨rfl, rfl⟩ := trodVars_none hV
  have k0 := h0
  have lt0 : ∀ x ∈ p0, x.block < W.heap.size := by obtain ⟨m, hm⟩ := k0; exact DataW.trod_lt m _ _ _ hm
  obtain ⟨x0, K0, w0⟩ := opens37.arg hsz (j := 0) (t := 37) rfl rfl h0
  obtain ⟨cs0, rfl⟩ := agg_of Try.underlying37 (hval 0 37 v0 rfl rfl)
  obtain ⟨A0_0, c0_0, A0_2, c0_2, A0_3, c0_3, e0, hc0_0, hr0_0, hc0_2, hr0_2, hc0_3, hr0_3⟩ := k37_open K0
  obtain rfl : cs0 = _ := (show (Value.agg cs0.toArray).cells.toList = cs0 from rfl).symm.trans e0
  clear hA0 hval0 hsz0 hsz
  obtain ⟨k, h⟩ := Pure.PropTells x0 w0
  refine (Q.proofmarklaw18_PropTells.calls k _ _ x0.f0 x0.f1 _ _ x0.f2 _ _ x0.f3 x0.f4 true W hr0_0 hc0_0 hr0_2 hc0_2 hr0_3 hc0_3 h).mono fun e W' ⟨he, bel0⟩ => ?_
  have bel : Below W.heap.size W W' := bel0
  subst he
  exact ⟨_, rfl, _, _, _, [], _, [], hW', trodAll_mk1 (shut_bool Try.underlying4 _), (trodAll_cons_mk (Below.trod laidOut (by kernel_rfl) (of_decide_eq_true (by kernel_rfl)) k0 bel lt0) trodAll_mk0), rfl, bel.frame _, fun h => by cases h⟩
theorem over : Rows.PropTellsSaid :=
  OpenClaim.holds_of_wide 7 Try.f7 rfl rfl rfl rfl rfl rfl rfl ⟨rfl, rfl, rfl, rfl, rfl⟩ rfl rfl rfl rfl rfl (by kernel_rfl) Try.func7 (by kernel_rfl)
    (of_decide_eq_true (by kernel_rfl)) (by unfold Func.isWrapper; first | (rw [if_pos (by decide +kernel)]; kernel_rfl) | (rw [if_neg (by decide +kernel)]; exact ⟨rfl, rfl⟩))
    (fun os started H enc _ => lifted os started H enc)
end Go.Proofs.Ytdlfmobnmcamaaa.propTells
namespace Go.Proofs.Ytdlfmobnmcamaaa
/-- The row, under a short name, for the claim. -/
theorem propTells_holds : Rows.PropTellsSaid := propTells.over
#print axioms propTells_holds
end Go.Proofs.Ytdlfmobnmcamaaa
