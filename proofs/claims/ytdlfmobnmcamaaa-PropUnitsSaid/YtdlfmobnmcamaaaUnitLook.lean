/- What (*state).look does. Written for this claim. -/
import Derived.Test.YtdlfmobnmcamaaaUnitTake
namespace Go.Proofs.Ytdlfmobnmcamaaa.Q
open Go.RowKit Go.Conc Go.MapKept Go.ChangeMaps Go.Proofs.YtdlfmobnmcamaaaW.PrintWords Go.Proofs.YtdlfmobnmcamaaaW.PrintLast Go.Proofs.YtdlfmobnmcamaaaW.PrintMore
set_option linter.unusedVariables false
set_option linter.unusedSimpArgs false

/-- What is left of a clause, from a place on: none: it is met, or has two literals that are open. -/
def scanOf (ks : List Int) : List Int → Int → Option Int
  | [], left => some left
  | x :: r, left => if x ∈ ks then none else if wrap64 (-x) ∈ ks then scanOf ks r left else if left ≠ 0 ∧ left ≠ x then none else scanOf ks r x
/-- What looking at a clause does. -/
def lookBy (ks q : List Int) : Option Int → Bool × List Int × List Int
  | none => (true, ks, q)
  | some left => if left = 0 then (false, ks, q) else takeOf ks q left
def lookOf (ks q : List Int) (c : List Int) : Bool × List Int × List Int := lookBy ks q (scanOf ks c 0)
theorem rd_at (l : List Int) (i : Nat) (h : i < l.length) : YtdlfmobnmcamaaaW.PrintWords.rd l (i : Int) = l[i] := by simp [YtdlfmobnmcamaaaW.PrintWords.rd, List.getD_eq_getElem?_getD, h]
theorem scan_at (ks l : List Int) (i : Nat) (h : i < l.length) (left : Int) : scanOf ks (l.drop i) left = if YtdlfmobnmcamaaaW.PrintWords.rd l (i : Int) ∈ ks then none else if wrap64 (-(YtdlfmobnmcamaaaW.PrintWords.rd l (i : Int))) ∈ ks then scanOf ks (l.drop (i + 1)) left else if left ≠ 0 ∧ left ≠ YtdlfmobnmcamaaaW.PrintWords.rd l (i : Int) then none else scanOf ks (l.drop (i + 1)) (YtdlfmobnmcamaaaW.PrintWords.rd l (i : Int)) := by
  rw [List.drop_eq_getElem_cons h, scanOf, rd_at l i h]
section
variable {w : World} {S mT ch cap : Nat} {lv av : Value} {ks q : List Int}
set_option maxHeartbeats 8000000 in
set_option maxRecDepth 100000 in
theorem look_any (A0 : Option Addr) (c0 : Nat) (l0 : List Int) (hr0 : Kd.C (Kd.int .i64) w A0 l0.length l0) (h : Held w S mT ch cap lv av ks q) (hq : q.length < cap) :
    Calls Try.prog 50 #[.pointer (some ⟨S, 0, none⟩), .slice A0 l0.length c0] w fun e w' => e = .returned (.bool (lookOf ks q l0).1) ∧ Held w' S mT ch cap lv av (lookOf ks q l0).2.1 (lookOf ks q l0).2.2 ∧ But2 mT ch w w' := by
  have H := Aside0.mk h
  obtain ⟨_, _, h2, h3⟩ := h.cells
  have hl := run_taken h.tk
  have HQ := Aside0.mk hq
  have HR0 := Aside0.mk hr0
  have hm : l0.length ≤ 9223372036854775807 := hr0.2.1
  obtain ⟨z, hz⟩ : ∃ z, scanOf ks l0 0 = z := ⟨_, rfl⟩
  obtain ⟨r, hr⟩ : ∃ r, lookOf ks q l0 = r := ⟨_, rfl⟩
  rw [hr]
  have HE : Aside0 (lookBy ks q z = r) := ⟨by rw [← hr, lookOf, hz]⟩
  have HZ := Aside0.mk hz
  clear h hq hz hr hr0
  go_enter Try.func50, Try.ntmps50
  go_wp2_with fail
  go_loopw [5, 10] (fun u v w' => ∃ (i : Nat) (left : Int), u = .int .i64 left ∧ v = .int .i64 (i : Int) ∧ Aside0 (scanOf ks (l0.drop i) left = z) ∧ i ≤ l0.length ∧ w' = w) (fun _ v _ => l0.length - (intOf v).toNat)
  case atStart => exact ⟨0, 0, rfl, rfl, ⟨by rw [List.drop_zero]; exact HZ.out⟩, by omega, rfl⟩
  case round =>
    obtain ⟨i, left, rfl, rfl, HI, hi, rfl⟩ := hrel
    by_cases hlt : i < l0.length
    · obtain ⟨ad, rfl, hx⟩ := Kd.at_int HR0.out (i : Int) (by omega) (by omega)
      rw [Int.toNat_natCast] at hx
      have hs := HI.out
      rw [scan_at ks l0 i hlt] at hs
      obtain ⟨x, ex⟩ : ∃ x, YtdlfmobnmcamaaaW.PrintWords.rd l0 (i : Int) = x := ⟨_, rfl⟩
      rw [ex] at hs hx
      clear ex HI
      by_cases e1 : x ∈ ks
      · rw [if_pos e1] at hs
        have HT : Aside0 (r = (true, ks, q)) := ⟨by rw [← HE.out, ← hs]; rfl⟩
        clear hs
        go_wp2_with fail
        go_ret
        exact ⟨by rw [HT.out]; rfl, by rw [HT.out]; exact H.out, But2.refl _ _ _⟩
      · rw [if_neg e1] at hs
        by_cases e2 : wrap64 (-x) ∈ ks
        · rw [if_pos e2] at hs
          have HS := Aside0.mk hs
          clear hs
          go_wp2_with fail
          go_roundw
          case rel => exact ⟨i + 1, left, rfl, by go_num, HS, by omega, trivial⟩
          case measure => simp [intOf]; omega
        · rw [if_neg e2] at hs
          by_cases e3 : left = 0
          · rw [if_neg (fun h => h.1 e3)] at hs
            have HS := Aside0.mk hs
            have e4 : (left != 0) = false := by simpa using e3
            clear hs e3
            go_wp2_with fail
            go_roundw
            case rel => exact ⟨i + 1, x, rfl, by go_num, HS, by omega, trivial⟩
            case measure => simp [intOf]; omega
          · have e4 : (left != 0) = true := by simpa using e3
            by_cases e5 : left = x
            · rw [if_neg (fun h => h.2 e5)] at hs
              have HS := Aside0.mk hs
              have e6 : (left != x) = false := by simpa using e5
              clear hs e3 e5
              go_wp2_with fail
              go_roundw
              case rel => exact ⟨i + 1, x, rfl, by go_num, HS, by omega, trivial⟩
              case measure => simp [intOf]; omega
            · rw [if_pos ⟨e3, e5⟩] at hs
              have HT : Aside0 (r = (true, ks, q)) := ⟨by rw [← HE.out, ← hs]; rfl⟩
              have e6 : (left != x) = true := by simpa using e5
              clear hs e3 e5
              go_wp2_with fail
              go_ret
              exact ⟨by rw [HT.out]; rfl, by rw [HT.out]; exact H.out, But2.refl _ _ _⟩
    · have hs := HI.out
      rw [List.drop_eq_nil_of_le (by omega), scanOf] at hs
      have hE := HE.out
      rw [← hs, lookBy] at hE
      by_cases e3 : left = 0
      · have e4 : (left != 0) = false := by simpa using e3
        simp only [e3, if_true] at hE
        have HT : Aside0 (r = (false, ks, q)) := ⟨hE.symm⟩
        clear hs e3 HE hE
        go_wp2_with fail
        go_ret
        exact ⟨by rw [HT.out]; rfl, by rw [HT.out]; exact H.out, But2.refl _ _ _⟩
      · have e4 : (left != 0) = true := by simpa using e3
        simp only [e3, if_false] at hE
        have HT : Aside0 (r = takeOf ks q left) := ⟨hE.symm⟩
        clear hs e3 HE hE
        go_wp2_with fail
        refine (take_any left H.out HQ.out).mono ?_
        rintro e w2 ⟨rfl, hh, hb⟩
        have HH := Aside0.mk hh
        have HB := Aside0.mk hb
        clear hh hb
        go_wp2_with fail
        go_ret
        exact ⟨by rw [HT.out]; rfl, by rw [HT.out]; exact HH.out, HB.out⟩
end
end Go.Proofs.Ytdlfmobnmcamaaa.Q
