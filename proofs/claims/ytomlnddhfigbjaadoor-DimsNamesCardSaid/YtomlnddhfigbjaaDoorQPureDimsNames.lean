/- The law DimsNames in plain terms. -/
import Derived.Test.YtomlnddhfigbjaaDoorQPureBase
import Derived.Test.YtomlnddhfigbjaaDoorQSayDimsNames
namespace Go.Proofs.YtomlnddhfigbjaaDoor.Pure
open Go.RowKit Go.Proofs.YtomlnddhfigbjaaDoorW.PrintWords Go.Proofs.YtomlnddhfigbjaaDoorW.PrintLast Go.Proofs.YtomlnddhfigbjaaDoor.Q
theorem names_stop (x1 : List Nm) (x2 nm : ByteArray) (n : Int) : Ev (fun k => proofmarklaw04_DimsNames.j0 k x1 x2 true true nm n) true := by
  refine Ev.step (fun k => (proofmarklaw04_DimsNames.j0.eq_2 _ _ _ _ _ _ _)) ?_
  simp only [if_true]
  exact Ev.now _
theorem sidx_tail (nm t : ByteArray) : ∀ (l : List ByteArray) (i : Nat), sidx (nm ++ t).toList (l.map (· ++ t)) i = sidx nm.toList l i
  | [], i => rfl
  | x :: r, i => by
    rw [List.map_cons, sidx, sidx, sidx_tail nm t r (i + 1), toList_append, toList_append]
    by_cases c : nm.toList = x.toList
    · rw [if_pos (by rw [c]), if_pos c]
    · rw [if_neg (fun h => c (List.append_cancel_right h)), if_neg c]
theorem dvalue_tail (nm t : ByteArray) (n : Int) (p : List Nm) (e : nm.toList ≠ []) : dvalue (nm ++ t) n ((names p).map (· ++ t)) (vals p) = dvalue nm n (names p) (vals p) := by
  have e2 : (nm ++ t).toList ≠ [] := by rw [toList_append]; simp [e]
  simp only [dvalue, dfound, if_neg e, if_neg e2, sidx_tail]
theorem value_tail (nm t : ByteArray) (n : Int) (p : List Nm) (hp : Okp p) (e : nm.toList ≠ []) : dims_Value.f (nm ++ t) n ((names p).map (· ++ t)) (vals p) = some (V nm n p) := by
  rw [← value_eq nm n p hp, dims_Value.f, dvalue_tail nm t n p e, dims_Value.f]
theorem width_tail (nm t : ByteArray) (n : Int) (p : List Nm) (hp : Okp p) (e : nm.toList ≠ []) : dims_Width.f (nm ++ t) n ((names p).map (· ++ t)) (vals p) = some (Wd nm n p) := by
  rw [← width_eq nm n p hp, dims_Width.f, dvalue_tail nm t n p e, dims_Width.f]
theorem DimsNames : Q.DimsNames.Pure := by
  intro x0 x1 x2 h0 h1 h2
  apply Ev.rounds
  have hp := okp h1
  have hl := hp.1
  have hs0 := h0.1
  unfold proofmarklaw04_DimsNames.f
  refine Ev.bind head_ev ?_
  by_cases c1 : (x1.length : Int) > 100
  · simp only [if_pos c1]; exact names_stop _ _ _ _
  · simp only [if_neg c1]
    by_cases c2 : (x2.size : Int) > 20
    · simp only [if_pos c2]; exact names_stop _ _ _ _
    · simp only [if_neg c2]
      by_cases e : x0.f0.toList = []
      · rw [show (x0.f0.toList == ([] : List UInt8)) = true by simp [e]]; exact names_stop _ _ _ _
      · rw [show (x0.f0.toList == ([] : List UInt8)) = false by simp [e]]
        refine Ev.step (fun k => (proofmarklaw04_DimsNames.j0.eq_2 _ _ _ _ _ _ _)) ?_
        simp only [Bool.false_eq_true, if_false]
        refine Ev.bind (env_ev x1 hp) ?_
        have main : ∀ (d i : Nat) (a : List ByteArray), x1.length - i = d → i ≤ x1.length → a = ((names x1).map (· ++ x2)).take i → Ev (fun k => proofmarklaw04_DimsNames.l0 k x2 true (names x1) (vals x1) a (i : Int) x0.f0 x0.f1) true := by
          intro d
          induction d with
          | zero =>
            intro i a hd hi ha
            refine Ev.step (fun k => (proofmarklaw04_DimsNames.l0.eq_2 _ _ _ _ _ _ _ _ _)) ?_
            rw [List.take_of_length_le (by rw [List.length_map, names_len]; omega)] at ha
            subst ha
            simp only [names_len, show ¬ ((i : Int) < (x1.length : Int)) by omega, if_false, value_eq _ _ x1 hp, width_eq _ _ x1 hp, value_tail _ _ _ x1 hp e, width_tail _ _ _ x1 hp e, Option.bind_some, show (x0.f0.size + x2.size ≤ 9223372036854775807) by omega, if_true]
            simp
            exact Ev.now _
          | succ d ih =>
            intro i a hd hi ha
            have hil : i < x1.length := by omega
            have hin : i < (names x1).length := by rw [names_len]; exact hil
            have hlen : a.length = i := by rw [ha, List.length_take, List.length_map, names_len]; omega
            refine Ev.step (fun k => (proofmarklaw04_DimsNames.l0.eq_2 _ _ _ _ _ _ _ _ _)) ?_
            have hsz : (names x1)[i].size ≤ 140737488351232 := by
              have : (names x1)[i] = x1[i].f0 := by simp [names]
              rw [this]
              exact (h1.2 x1[i] (List.getElem_mem hil)).1
            simp only [names_len, show ((i : Int) < (x1.length : Int)) by omega, if_true, show (0 : Int) ≤ (i : Int) by omega, wrap_succ i (by omega), rdS (names x1) i hin, show ((names x1)[i].size + x2.size ≤ 9223372036854775807) by omega, show a.length < 8796093022208 by omega]
            refine ih (i + 1) _ (by omega) (by omega) ?_
            rw [ha, List.take_succ_eq_append_getElem (by rw [List.length_map]; exact hin)]
            simp
        exact main x1.length 0 [] (by omega) (by omega) (by simp)
end Go.Proofs.YtomlnddhfigbjaaDoor.Pure
