/- The law DimsHangs in plain terms. -/
import Derived.Test.YtomlnddhfigbjaaDoorQPureBase
import Derived.Test.YtomlnddhfigbjaaDoorQSayDimsHangs
namespace Go.Proofs.YtomlnddhfigbjaaDoor.Pure
open Go.RowKit Go.Proofs.YtomlnddhfigbjaaDoorW.PrintWords Go.Proofs.YtomlnddhfigbjaaDoorW.PrintLast Go.Proofs.YtomlnddhfigbjaaDoor.Q
theorem hangs_stop (x1 x2 : List Nm) (nm : ByteArray) (n : Int) : Ev (fun k => proofmarklaw04_DimsHangs.j0 k x1 x2 true true nm n) true := by
  refine Ev.step (fun k => (proofmarklaw04_DimsHangs.j0.eq_2 _ _ _ _ _ _ _)) ?_
  simp only [if_true]
  exact Ev.now _
theorem sidx_neg (nm : List UInt8) : ∀ (l : List ByteArray) (i : Nat), sidx nm l i < 0 ↔ ∀ x ∈ l, ¬ x.toList = nm
  | [], i => by simp [sidx]
  | x :: r, i => by
    rw [sidx]
    by_cases c : nm = x.toList
    · rw [if_pos c]
      constructor
      · intro h; omega
      · intro h; exact absurd c.symm (h x (List.mem_cons_self ..))
    · rw [if_neg c, sidx_neg nm r (i + 1)]
      simp only [List.mem_cons, forall_eq_or_imp]
      exact ⟨fun h => ⟨fun h2 => c h2.symm, h⟩, fun h => h.2⟩
theorem sidx_app (nm : List UInt8) : ∀ (l m : List ByteArray) (i : Nat), ¬ sidx nm l i < 0 → sidx nm (l ++ m) i = sidx nm l i
  | [], m, i, h => by simp [sidx] at h
  | x :: r, m, i, h => by
    rw [sidx] at h
    rw [List.cons_append, sidx, sidx]
    by_cases c : nm = x.toList
    · rw [if_pos c, if_pos c]
    · rw [if_neg c] at h
      rw [if_neg c, if_neg c]
      exact sidx_app nm r m (i + 1) h
theorem V_app (nm : ByteArray) (n : Int) (p m : List Nm) (h : nm.toList = [] ∨ ¬ sidx nm.toList (names p) 0 < 0) : V nm n (p ++ m) = V nm n p := by
  by_cases e : nm.toList = []
  · have e1 : num nm (p ++ m) = 0 := by rw [num, if_pos e]
    have e2 : num nm p = 0 := by rw [num, if_pos e]
    simp only [V, e1, e2, if_neg (show ¬ (nm.toList ≠ [] ∧ sidx nm.toList (names (p ++ m)) 0 < 0) by simp [e]), if_neg (show ¬ (nm.toList ≠ [] ∧ sidx nm.toList (names p) 0 < 0) by simp [e])]
  · have h2 : ¬ sidx nm.toList (names p) 0 < 0 := h.resolve_left e
    have hn : names (p ++ m) = names p ++ names m := by simp [names]
    have hs : sidx nm.toList (names (p ++ m)) 0 = sidx nm.toList (names p) 0 := by rw [hn]; exact sidx_app _ _ _ _ h2
    have hr := sidx_range nm.toList (names p) 0
    rw [names_len] at hr
    obtain ⟨j, hj⟩ := Int.eq_ofNat_of_zero_le (show 0 ≤ sidx nm.toList (names p) 0 by omega)
    have hjl : j < p.length := by omega
    have hnum : num nm (p ++ m) = num nm p := by
      rw [num, num, if_neg e, if_neg e, hs, hj, rdI _ j (by rw [vals_len, List.length_append]; omega), rdI _ j (by rw [vals_len]; exact hjl)]
      simp [vals, List.getElem_append_left, hjl]
    simp only [V, hnum, hs]
theorem hangs_loop (x1 x2 : List Nm) (nm : ByteArray) (n a e : Int) (hp : Okp x1)
    (hend : ∀ b, (b = true ↔ ∃ y ∈ x1, y.f0.toList = nm.toList) → Ev (fun k => if b = true then (proofmarklaw04_DimsHangs.j2 k x1 x2 true a e false nm n) else (proofmarklaw04_DimsHangs.j2 k x1 x2 true a e (nm.toList != ([] : List UInt8)) nm n)) true) :
    Ev (fun k => proofmarklaw04_DimsHangs.l0 k x1 x2 true a e false 0 nm n) true := by
  have main : ∀ (d i : Nat) (b : Bool), x1.length - i = d → i ≤ x1.length → (b = true ↔ ∃ y ∈ x1.take i, y.f0.toList = nm.toList) → Ev (fun k => proofmarklaw04_DimsHangs.l0 k x1 x2 true a e b (i : Int) nm n) true := by
    intro d
    induction d with
    | zero =>
      intro i b hd hi hb
      refine Ev.step (fun k => (proofmarklaw04_DimsHangs.l0.eq_2 _ _ _ _ _ _ _ _ _ _)) ?_
      simp only [show ¬ ((i : Int) < (x1.length : Int)) by omega, if_false]
      rw [List.take_of_length_le (by omega)] at hb
      exact hend b hb
    | succ d ih =>
      intro i b hd hi hb
      have hil : i < x1.length := by omega
      have hl := hp.1
      have ht : x1.take (i + 1) = x1.take i ++ [x1[i]] := List.take_succ_eq_append_getElem hil
      refine Ev.step (fun k => (proofmarklaw04_DimsHangs.l0.eq_2 _ _ _ _ _ _ _ _ _ _)) ?_
      simp only [show ((i : Int) < (x1.length : Int)) by omega, if_true, show (0 : Int) ≤ (i : Int) by omega, wrap_succ i (by omega), rdT x1 i hil]
      cases b with
      | true =>
        simp only [if_true]
        refine ih (i + 1) true (by omega) (by omega) ?_
        obtain ⟨y, hy, he⟩ := hb.1 rfl
        exact ⟨fun _ => ⟨y, by rw [ht]; exact List.mem_append_left _ hy, he⟩, fun _ => rfl⟩
      | false =>
        simp only [Bool.false_eq_true, if_false]
        refine ih (i + 1) _ (by omega) (by omega) ?_
        rw [ht]
        have hno : ¬ ∃ y ∈ x1.take i, y.f0.toList = nm.toList := fun h => by simpa using hb.2 h
        constructor
        · intro h
          exact ⟨x1[i], List.mem_append_right _ (List.mem_singleton.2 rfl), by simpa using h⟩
        · rintro ⟨y, hy, he⟩
          rcases List.mem_append.1 hy with hy | hy
          · exact absurd ⟨y, hy, he⟩ hno
          · rw [List.mem_singleton] at hy; subst hy; simpa using he
  exact main x1.length 0 false (by omega) (by omega) (by simp)
theorem DimsHangs : Q.DimsHangs.Pure := by
  intro x0 x1 x2 h0 h1 h2
  apply Ev.rounds
  have hp := okp h1
  have hp2 := okp h2
  unfold proofmarklaw04_DimsHangs.f
  refine Ev.bind head_ev ?_
  by_cases c1 : (x1.length : Int) > 100
  · simp only [if_pos c1]; exact hangs_stop _ _ _ _
  · simp only [if_neg c1]
    by_cases c2 : (x2.length : Int) > 100
    · rw [decide_eq_true c2]; exact hangs_stop _ _ _ _
    · rw [decide_eq_false c2]
      refine Ev.step (fun k => (proofmarklaw04_DimsHangs.j0.eq_2 _ _ _ _ _ _ _)) ?_
      simp only [Bool.false_eq_true, if_false]
      refine Ev.bind (env_ev x1 hp) ?_
      simp only [value_eq _ _ x1 hp, Option.bind_some]
      refine hangs_loop x1 x2 x0.f0 x0.f1 _ _ hp (fun b hb => ?_)
      have hneg : sidx x0.f0.toList (names x1) 0 < 0 ↔ b = false := by
        rw [sidx_neg]
        constructor
        · intro h
          cases b with
          | false => rfl
          | true =>
            obtain ⟨y, hy, he⟩ := hb.1 rfl
            exact absurd he (h y.f0 (List.mem_map.2 ⟨y, hy, rfl⟩))
        · rintro rfl x hx he
          obtain ⟨y, hy, rfl⟩ := List.mem_map.1 hx
          exact absurd (hb.2 ⟨y, hy, he⟩) (by simp)
      have hok : Okp (x1 ++ x2) := ⟨by simp; omega, fun y hy => (List.mem_append.1 hy).elim (hp.2 y) (hp2.2 y)⟩
      have hsame : (x0.f0.toList = [] ∨ ¬ sidx x0.f0.toList (names x1) 0 < 0) → Ev (fun k => proofmarklaw04_DimsHangs.j2 k x1 x2 true (V x0.f0 x0.f1 x1).1 (V x0.f0 x0.f1 x1).2 false x0.f0 x0.f1) true := by
        intro h
        refine Ev.step (fun k => (proofmarklaw04_DimsHangs.j2.eq_2 _ _ _ _ _ _ _ _ _)) ?_
        simp only [Bool.false_eq_true, if_false, Option.bind_some, List.length_nil, List.nil_append, show (0 + x1.length < 5864062014805) by omega, if_true, show (x1.length + x2.length < 5864062014805) by omega]
        refine Ev.bind (env_ev (x1 ++ x2) hok) ?_
        simp only [value_eq _ _ (x1 ++ x2) hok, Option.bind_some, V_app _ _ x1 x2 h, if_true]
        simp
        exact Ev.now _
      cases b with
      | true => simp only [if_true]; exact hsame (Or.inr (by rw [hneg]; simp))
      | false =>
        simp only [Bool.false_eq_true, if_false]
        by_cases e : x0.f0.toList = []
        · rw [show (x0.f0.toList != ([] : List UInt8)) = false by simp [e]]
          exact hsame (Or.inl e)
        · rw [show (x0.f0.toList != ([] : List UInt8)) = true by simp [e]]
          refine Ev.step (fun k => (proofmarklaw04_DimsHangs.j2.eq_2 _ _ _ _ _ _ _ _ _)) ?_
          have hV : V x0.f0 x0.f1 x1 = (0, 40) := by rw [V, if_pos ⟨e, hneg.2 rfl⟩]
          rw [hV]
          simp
          exact Ev.now _
end Go.Proofs.YtomlnddhfigbjaaDoor.Pure
