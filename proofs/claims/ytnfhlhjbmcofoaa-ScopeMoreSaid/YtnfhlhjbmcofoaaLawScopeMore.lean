/- The law ScopeMore holds of the Go program: the row, out of the walk. Written by lawrow.py, a program of this session. -/
import Derived.Test.YtnfhlhjbmcofoaaRows
import Derived.Test.YtnfhlhjbmcofoaaScAv
import Derived.WalkKit
import Derived.ProofKit
import Derived.OpenShut
import Derived.ShutString
import Derived.ChangeOld
import Derived.Below
import Derived.SizedLaws
namespace Go.Proofs.Ytnfhlhjbmcofoaa.scopeMore
open Go.ChangeShapes Go.WideShapes Go.ChangeAt Go.RowKit
open Go.ChangeMaps (open_string shut_string)
open Go.Proofs.YtnfhlhjbmcofoaaW.PrintWords Go.Proofs.Ytnfhlhjbmcofoaa.S Go.Proofs.Ytnfhlhjbmcofoaa.Open
set_option linter.unusedVariables false
theorem own : ownKnob Try.prog.godebug = none := by kernel_rfl
theorem laidOut : laidOutB Try.prog = true := by kernel_rfl
set_option maxRecDepth 100000 in
theorem lifted (os : Os) (started : os.Started) (H : Type) (enc : TypeId × Value → H) :
    ReturnsInHanded {} Try.checked os 8 .any (Rows.scopeMoreSpec.pre6 enc Try.prog Try.f8 Rows.scopeMoreRow.domain false) (Rows.scopeMoreSpec.post enc Try.prog Try.f8 false true false false) := by
  refine returnsInHanded_of_change_sized (C := Try.checked) own started (by kernel_rfl) Try.func8
    (ChangeSpec.witness6 (enc := enc) (C := Try.checked) false ⟨#[], #[.agg #[.slice none 0 0], .agg #[.string ByteArray.empty, .slice none 0 0, .slice none 0 0, .slice none 0 0]], []⟩ 8 (by kernel_rfl) (by kernel_rfl) (by kernel_rfl) (by kernel_rfl)) ?_
  intro W base args ds gs before hval0 hW hcnd hsz0 _
  have hsz : (DataW.weightsEach Try.prog (Try.f8.params.toList ++ Rows.scopeMoreSpec.plain.varTypes Try.prog) (ds ++ gs)).all (· ≤ reachBytes) = true := hsz0
  have hval : ∀ (j : Nat) t v, Try.f8.params[j]? = some t → args[j]? = some v → Value.okWide Try.prog W .any base t v := hval0
  have hW' := hW
  obtain ⟨p, q, hA0, hV, rfl, hfz, hnd⟩ := hW
  have hA : DataW.TrodAll enc Try.prog W 0 (fun _ => true) true Try.f8.params.toList args.toList ds p := hA0
  rw [Try.params8] at hA hval hsz
  obtain ⟨v0, vs0, d0, ds0, p0, q0, hargs, rfl, rfl, h0, r0⟩ := trodAll_cons hA
  obtain ⟨v1, vs1, d1, ds1, p1, q1, rfl, rfl, rfl, h1, r1⟩ := trodAll_cons r0
  obtain ⟨rfl, rfl, rfl⟩ := trodAll_nil r1
  obtain rfl : args = #[v0, v1] := by cases args; simp_all
  obtain ⟨rfl, rfl⟩ := trodVars_none hV
  have k0 := h0
  have lt0 : ∀ x ∈ p0, x.block < W.heap.size := by obtain ⟨m, hm⟩ := k0; exact DataW.trod_lt m _ _ _ hm
  obtain ⟨x0, K0, w0⟩ := opens24.arg hsz (j := 0) (t := 24) rfl rfl h0
  obtain ⟨cs0, rfl⟩ := agg_of Try.underlying24 (hval 0 24 v0 rfl rfl)
  obtain ⟨A0_0, c0_0, e0, hc0_0, hr0_0⟩ := k24_open K0
  obtain rfl : cs0 = _ := (show (Value.agg cs0.toArray).cells.toList = cs0 from rfl).symm.trans e0
  have k1 := h1
  have lt1 : ∀ x ∈ p1, x.block < W.heap.size := by obtain ⟨m, hm⟩ := k1; exact DataW.trod_lt m _ _ _ hm
  obtain ⟨x1, K1, w1⟩ := opens34.arg hsz (j := 1) (t := 34) rfl rfl h1
  obtain ⟨cs1, rfl⟩ := agg_of Try.underlying34 (hval 1 34 v1 rfl rfl)
  obtain ⟨A1_1, c1_1, A1_2, c1_2, A1_3, c1_3, e1, hc1_1, hr1_1, hc1_2, hr1_2, hc1_3, hr1_3⟩ := k34_open K1
  obtain rfl : cs1 = _ := (show (Value.agg cs1.toArray).cells.toList = cs1 from rfl).symm.trans e1
  clear hA0 hval0 hsz0 hsz
  refine (S.lawMore _ _ x0.f0 x1 _ W hr0_0 w0 K1 w1).mono fun e W' ⟨he, bel0⟩ => ?_
  have bel : Below W.heap.size W W' := bel0
  subst he
  exact ⟨_, rfl, _, _, _, [], _, [], hW', trodAll_mk1 (shut_bool Try.underlying4 _), (trodAll_cons_mk (Below.trod laidOut (by kernel_rfl) (of_decide_eq_true (by kernel_rfl)) k0 bel lt0) (trodAll_cons_mk (Below.trod laidOut (by kernel_rfl) (of_decide_eq_true (by kernel_rfl)) k1 bel lt1) trodAll_mk0)), rfl, bel.frame _, fun h => by cases h⟩
theorem over : Rows.ScopeMoreSaid :=
  OpenClaim.holds_of_wide 8 Try.f8 rfl rfl rfl rfl rfl rfl rfl ⟨rfl, rfl, rfl, rfl, rfl⟩ rfl rfl rfl rfl rfl (by kernel_rfl) Try.func8 (by kernel_rfl)
    (of_decide_eq_true (by kernel_rfl)) (by unfold Func.isWrapper; first | (rw [if_pos (by decide +kernel)]; kernel_rfl) | (rw [if_neg (by decide +kernel)]; exact ⟨rfl, rfl⟩))
    (fun os started H enc _ => lifted os started H enc)
end Go.Proofs.Ytnfhlhjbmcofoaa.scopeMore
namespace Go.Proofs.Ytnfhlhjbmcofoaa
/-- The row, under a short name, for the claim. -/
theorem scopeMore_holds : Rows.ScopeMoreSaid := scopeMore.over
#print axioms scopeMore_holds
end Go.Proofs.Ytnfhlhjbmcofoaa
