/- Plain facts on how parameters' numbers are looked up. -/
import Derived.Test.YtomlnddhfigbjaaDoorQx4
import Derived.Test.YtomlnddhfigbjaaDoorQx5
import Derived.Test.YtomlnddhfigbjaaDoorQOpens
namespace Go.Proofs.YtomlnddhfigbjaaDoor.Pure
open Go.RowKit Go.Proofs.YtomlnddhfigbjaaDoorW.PrintWords Go.Proofs.YtomlnddhfigbjaaDoorW.PrintLast Go.Proofs.YtomlnddhfigbjaaDoor.Q

theorem loop_data (s : ByteArray) (d : Nat) : ∀ (i : Nat) (r : List UInt8), s.size - i = d → ByteArray.toList.loop s i r = r.reverse ++ s.data.toList.drop i := by
  induction d with
  | zero =>
    intro i r hd
    rw [ByteArray.toList.loop, if_neg (by omega), List.drop_eq_nil_of_le (by simp; omega), List.append_nil]
  | succ d ih =>
    intro i r hd
    rw [ByteArray.toList.loop, if_pos (by omega), ih (i + 1) _ (by omega)]
    have hi : i < s.data.toList.length := by simp; omega
    rw [List.drop_eq_getElem_cons hi, List.reverse_cons, List.append_assoc]
    congr 1
    simp only [List.singleton_append, List.cons.injEq, and_true]
    rw [ByteArray.get!]
    simp at hi
    simp [hi]
theorem toList_data (s : ByteArray) : s.toList = s.data.toList := by
  have := loop_data s s.size 0 [] (by omega)
  simpa [ByteArray.toList] using this
theorem toList_append (a b : ByteArray) : (a ++ b).toList = a.toList ++ b.toList := by
  rw [toList_data, toList_data, toList_data]
  simp
theorem rdT (l : List S41) (i : Nat) (h : i < l.length) : rd_T41 l (i : Int) = l[i] := by
  simp [rd_T41, List.getD_eq_getElem?_getD, h]
theorem rdD (l : List S23) (i : Nat) (h : i < l.length) : rd_T23 l (i : Int) = l[i] := by
  simp [rd_T23, List.getD_eq_getElem?_getD, h]
theorem rdS (l : List ByteArray) (i : Nat) (h : i < l.length) : rdOf ByteArray.empty l (i : Int) = l[i] := by
  simp [rdOf, List.getD_eq_getElem?_getD, h]
theorem rdI (l : List Int) (i : Nat) (h : i < l.length) : rd l (i : Int) = l[i] := by
  simp [rd, List.getD_eq_getElem?_getD, h]
theorem wrap_succ (i : Nat) (h : i < 9223372036854775807) : wrap64 ((i : Int) + 1) = ((i + 1 : Nat) : Int) := by unfold wrap64; omega
theorem wrap_id (i : Int) (h0 : -9223372036854775808 ≤ i) (h1 : i ≤ 9223372036854775807) : wrap64 i = i := by unfold wrap64; omega

/-- The names and the numbers of parameters. -/
def names (p : List S41) : List ByteArray := p.map (·.f0)
def vals (p : List S41) : List Int := p.map (·.f1)
theorem names_len (p : List S41) : (names p).length = p.length := by simp [names]
theorem vals_len (p : List S41) : (vals p).length = p.length := by simp [vals]
theorem u16 {n : Int} (h : (Lit.int .u16 n).wf = true) : 0 ≤ n ∧ n ≤ 65535 := by
  have := bounds_u16 h
  omega

abbrev Nm := S41
abbrev Dm := S23
def Okp (p : List Nm) : Prop := p.length ≤ 5864062014805 ∧ ∀ y ∈ p, 0 ≤ y.f1 ∧ y.f1 ≤ 65535
theorem okp {p : List Nm} (h : BL25 p) : Okp p := ⟨by have := h.1; omega, fun y hy => u16 (h.2 y hy).2⟩
theorem env_ev (p : List Nm) (hp : Okp p) : Ev (fun k => proofmarklaw04_Env.f k p) (names p, vals p) := by
  have main : ∀ (d i : Nat) (a : List ByteArray) (b : List Int), p.length - i = d → i ≤ p.length → a = (names p).take i → b = (vals p).take i → Ev (fun k => proofmarklaw04_Env.l0 k p a b (i : Int)) (names p, vals p) := by
    intro d
    induction d with
    | zero =>
      intro i a b hd hi ha hb
      refine Ev.step (fun k => (proofmarklaw04_Env.l0.eq_2 _ _ _ _ _)) ?_
      simp only [show ¬ ((i : Int) < (p.length : Int)) by omega, if_false]
      have h1 : (names p).take i = names p := List.take_of_length_le (by rw [names_len]; omega)
      have h2 : (vals p).take i = vals p := List.take_of_length_le (by rw [vals_len]; omega)
      rw [ha, hb, h1, h2]
      exact Ev.now _
    | succ d ih =>
      intro i a b hd hi ha hb
      have hil : i < p.length := by omega
      have hl := hp.1
      have ha2 : a.length = i := by rw [ha, List.length_take, names_len]; omega
      have hb2 : b.length = i := by rw [hb, List.length_take, vals_len]; omega
      refine Ev.step (fun k => (proofmarklaw04_Env.l0.eq_2 _ _ _ _ _)) ?_
      simp only [show ((i : Int) < (p.length : Int)) by omega, if_true, show (0 : Int) ≤ (i : Int) by omega, show a.length < 8796093022208 by omega, show b.length < 17592186044416 by omega, rdT p i hil, wrap_succ i (by omega)]
      have hv := hp.2 p[i] (List.getElem_mem hil)
      rw [wrap_id _ (by omega) (by omega)]
      refine ih (i + 1) _ _ (by omega) (by omega) ?_ ?_
      · rw [ha, List.take_succ_eq_append_getElem (by rw [names_len]; exact hil)]; simp [names]
      · rw [hb, List.take_succ_eq_append_getElem (by rw [vals_len]; exact hil)]; simp [vals]
  exact main p.length 0 [] [] (by omega) (by omega) (by simp) (by simp)

/-- What a name's number is: 0 of none. -/
def num (nm : ByteArray) (p : List Nm) : Int := if nm.toList = [] then 0 else rd (vals p) (sidx nm.toList (names p) 0)
/-- What a number is. -/
def V (nm : ByteArray) (n : Int) (p : List Nm) : Int × Int :=
  if nm.toList ≠ [] ∧ sidx nm.toList (names p) 0 < 0 then (0, 40) else if n < 0 ∨ n > 65535 then (0, 41) else if n + num nm p > 65535 then (0, 41) else (n + num nm p, 0)
def Wd (nm : ByteArray) (n : Int) (p : List Nm) : Int × Int :=
  if (V nm n p).2 = 0 then (if (V nm n p).1 < 1 ∨ (V nm n p).1 > 16 then (0, 41) else ((V nm n p).1, 0)) else (0, (V nm n p).2)
theorem num_at (nm : ByteArray) (p : List Nm) (hp : Okp p) (h : ¬ (nm.toList ≠ [] ∧ sidx nm.toList (names p) 0 < 0)) : 0 ≤ num nm p ∧ num nm p ≤ 65535 := by
  unfold num
  by_cases e : nm.toList = []
  · rw [if_pos e]; omega
  · rw [if_neg e]
    have hr := sidx_range nm.toList (names p) 0
    rw [names_len] at hr
    have h0 : ¬ sidx nm.toList (names p) 0 < 0 := fun x => h ⟨e, x⟩
    obtain ⟨j, hj⟩ := Int.eq_ofNat_of_zero_le (show 0 ≤ sidx nm.toList (names p) 0 by omega)
    have hjl : j < p.length := by omega
    rw [hj, rdI (vals p) j (by rw [vals_len]; exact hjl)]
    have := hp.2 p[j] (List.getElem_mem hjl)
    simpa [vals] using this
theorem V_le (nm : ByteArray) (n : Int) (p : List Nm) (hp : Okp p) : 0 ≤ (V nm n p).1 ∧ (V nm n p).1 ≤ 65535 ∧ ((V nm n p).2 = 0 ∨ (V nm n p).2 = 40 ∧ (V nm n p).1 = 0 ∨ (V nm n p).2 = 41 ∧ (V nm n p).1 = 0) := by
  unfold V
  split
  · simp
  · rename_i h
    have := num_at nm p hp h
    split
    · simp
    · split
      · simp
      · simp; omega
theorem dvalue_eq (nm : ByteArray) (n : Int) (p : List Nm) (hp : Okp p) : ∃ r, dvalue nm n (names p) (vals p) = some r ∧ dtold r = V nm n p ∧ (r.2 = none → r.1 = (V nm n p).1 ∧ (V nm n p).2 = 0) ∧ (∀ c, r.2 = some c → (V nm n p) = (0, c) ∧ c ≠ 0) := by
  unfold dvalue dfound V
  by_cases e : nm.toList = []
  · have hn : num nm p = 0 := by rw [num, if_pos e]
    rw [if_pos e, if_neg (by simp [e]), hn]
    simp only [Option.bind_some]
    by_cases e2 : n < 0 ∨ n > 65535
    · rw [if_pos e2, if_pos e2]; exact ⟨_, rfl, by simp [dtold]⟩
    · rw [if_neg e2, if_neg e2, wrap_id _ (by omega) (by omega), if_neg (by omega), if_neg (by omega)]
      exact ⟨_, rfl, by simp [dtold]⟩
  · rw [if_neg e]
    by_cases e3 : sidx nm.toList (names p) 0 < 0
    · rw [if_pos e3, if_pos ⟨e, e3⟩]; exact ⟨_, rfl, by simp [dtold]⟩
    · have hr := sidx_range nm.toList (names p) 0
      rw [names_len] at hr
      have hnot : ¬ (nm.toList ≠ [] ∧ sidx nm.toList (names p) 0 < 0) := fun x => e3 x.2
      have hna := num_at nm p hp hnot
      have hn : num nm p = rd (vals p) (sidx nm.toList (names p) 0) := by rw [num, if_neg e]
      rw [if_neg e3, if_neg hnot, if_pos (by rw [vals_len]; omega), ← hn]
      simp only [Option.bind_some]
      by_cases e2 : n < 0 ∨ n > 65535
      · rw [if_pos e2, if_pos e2]; exact ⟨_, rfl, by simp [dtold]⟩
      · rw [if_neg e2, if_neg e2, wrap_id _ (by omega) (by omega)]
        by_cases e4 : n + num nm p > 65535
        · rw [if_pos (Or.inr e4), if_pos e4]; exact ⟨_, rfl, by simp [dtold]⟩
        · rw [if_neg (by omega), if_neg e4]; exact ⟨_, rfl, by simp [dtold]⟩
theorem value_eq (nm : ByteArray) (n : Int) (p : List Nm) (hp : Okp p) : dims_Value.f nm n (names p) (vals p) = some (V nm n p) := by
  obtain ⟨r, h1, h2, _⟩ := dvalue_eq nm n p hp
  rw [dims_Value.f, h1, Option.map_some, h2]
theorem width_eq (nm : ByteArray) (n : Int) (p : List Nm) (hp : Okp p) : dims_Width.f nm n (names p) (vals p) = some (Wd nm n p) := by
  obtain ⟨⟨v, e⟩, h1, h2, h3, h4⟩ := dvalue_eq nm n p hp
  rw [dims_Width.f, h1, Option.map_some]
  cases e with
  | none =>
    obtain ⟨h5, h6⟩ := h3 rfl
    simp only at h5
    rw [Wd, if_pos h6, h5]; rfl
  | some c =>
    obtain ⟨h5, h6⟩ := h4 c rfl
    rw [Wd, h5, if_neg h6]; rfl
theorem sidx_fin (nm : ByteArray) (n : Int) (p : List Nm) (hp : Okp p) (e : nm.toList ≠ []) : (if sidx nm.toList (names p) 0 < 0 then (some ((0 : Int), (40 : Int))) else (if 0 ≤ sidx nm.toList (names p) 0 then (if sidx nm.toList (names p) 0 < ((vals p).length : Int) then (if n < 0 then (some (0, 41)) else (if n > 65535 then (some (0, 41)) else (if (wrap64 (n + (rd (vals p) (sidx nm.toList (names p) 0)))) > 65535 then (some (0, 41)) else (some (wrap64 (n + (rd (vals p) (sidx nm.toList (names p) 0))), 0))))) else (none)) else (none))) = some (V nm n p) := by
  have hr := sidx_range nm.toList (names p) 0
  rw [names_len] at hr
  unfold V
  by_cases e3 : sidx nm.toList (names p) 0 < 0
  · rw [if_pos e3, if_pos ⟨e, e3⟩]
  · have hnot : ¬ (nm.toList ≠ [] ∧ sidx nm.toList (names p) 0 < 0) := fun x => e3 x.2
    have hna := num_at nm p hp hnot
    have hn : num nm p = rd (vals p) (sidx nm.toList (names p) 0) := by rw [num, if_neg e]
    rw [if_neg e3, if_neg hnot, if_pos (by omega), if_pos (by rw [vals_len]; omega), ← hn]
    by_cases e4 : n < 0
    · rw [if_pos e4, if_pos (Or.inl e4)]
    · rw [if_neg e4]
      by_cases e5 : n > 65535
      · rw [if_pos e5, if_pos (Or.inr e5)]
      · rw [if_neg e5, if_neg (show ¬ (n < 0 ∨ n > 65535) by omega), wrap_id _ (by omega) (by omega)]
        by_cases e6 : n + num nm p > 65535
        · rw [if_pos e6, if_pos e6]
        · rw [if_neg e6, if_neg e6]
theorem ref_ev (nm : ByteArray) (n : Int) (p : List Nm) (hp : Okp p) (hw : (Lit.int .i64 n).wf = true) : Ev (fun k => proofmarkref04_Value.f k nm n (names p) (vals p)) (V nm n p) := by
  have hb := bounds_i64 hw
  by_cases e : nm.toList = []
  · have hn : num nm p = 0 := by rw [num, if_pos e]
    have h1 : V nm n p = if n < 0 ∨ n > 65535 then (0, 41) else (n, 0) := by
      rw [V, if_neg (by simp [e]), hn]
      split
      · rfl
      · rw [if_neg (by omega)]; simp
    simp only [proofmarkref04_Value.f, if_pos e]
    rw [h1, wrap_id n (by omega) (by omega)]
    by_cases e4 : n < 0
    · simp only [if_pos e4, if_pos (Or.inl e4 : n < 0 ∨ n > 65535)]; exact Ev.now _
    · by_cases e5 : n > 65535
      · simp only [if_neg e4, if_pos e5, if_pos (Or.inr e5 : n < 0 ∨ n > 65535)]; exact Ev.now _
      · simp only [if_neg e4, if_neg e5, if_neg (show ¬ (n < 0 ∨ n > 65535) by omega)]; exact Ev.now _
  · simp only [proofmarkref04_Value.f, if_neg e]
    have main : ∀ (d i : Nat) (a : Int), p.length - i = d → i ≤ p.length → (if a < 0 then sidx nm.toList ((names p).drop i) i else a) = sidx nm.toList (names p) 0 → Ev (fun k => proofmarkref04_Value.l0 k (names p) (vals p) a (i : Int) nm n) (V nm n p) := by
      intro d
      induction d with
      | zero =>
        intro i a hd hi ha
        refine Ev.step (fun k => (proofmarkref04_Value.l0.eq_2 _ _ _ _ _ _ _)) ?_
        simp only [names_len, show ¬ ((i : Int) < (p.length : Int)) by omega, if_false]
        rw [List.drop_eq_nil_of_le (by rw [names_len]; omega)] at ha
        by_cases c : a < 0
        · rw [if_pos c, sidx] at ha
          have := sidx_fin nm n p hp e
          rw [← ha] at this
          simp only [if_pos c]
          simp at this
          rw [← this]
          exact Ev.now _
        · rw [if_neg c] at ha
          have := sidx_fin nm n p hp e
          rw [← ha] at this
          rw [this]
          exact Ev.now _
      | succ d ih =>
        intro i a hd hi ha
        have hil : i < p.length := by omega
        have hin : i < (names p).length := by rw [names_len]; exact hil
        have hl := hp.1
        refine Ev.step (fun k => (proofmarkref04_Value.l0.eq_2 _ _ _ _ _ _ _)) ?_
        simp only [names_len, show ((i : Int) < (p.length : Int)) by omega, if_true, show (0 : Int) ≤ (i : Int) by omega, wrap_succ i (by omega), rdS (names p) i (by rw [names_len]; exact hil)]
        by_cases c : a < 0
        · simp only [if_pos c]
          rw [if_pos c, List.drop_eq_getElem_cons (by rw [names_len]; exact hil), sidx] at ha
          by_cases c2 : (names p)[i].toList = nm.toList
          · simp only [if_pos c2]
            rw [if_pos c2.symm] at ha
            refine ih (i + 1) _ (by omega) (by omega) ?_
            rw [if_neg (by omega)]; exact ha
          · simp only [if_neg c2]
            rw [if_neg (fun x => c2 x.symm)] at ha
            refine ih (i + 1) _ (by omega) (by omega) ?_
            rw [if_pos c]; exact ha
        · simp only [if_neg c]
          refine ih (i + 1) _ (by omega) (by omega) ?_
          rw [if_neg c] at ha ⊢; exact ha
    exact main p.length 0 (-1) (by omega) (by omega) (by simp)
theorem refw_ev (nm : ByteArray) (n : Int) (p : List Nm) (hp : Okp p) (hw : (Lit.int .i64 n).wf = true) : Ev (fun k => proofmarkref04_Width.f k nm n (names p) (vals p)) (Wd nm n p) := by
  refine Ev.bind (ref_ev nm n p hp hw) ?_
  unfold Wd
  by_cases c : (V nm n p).2 = 0
  · simp only [if_pos c]
    by_cases c1 : (V nm n p).1 < 1
    · simp only [if_pos c1, if_pos (Or.inl c1 : (V nm n p).1 < 1 ∨ (V nm n p).1 > 16)]; exact Ev.now _
    · by_cases c2 : (V nm n p).1 > 16
      · simp only [if_neg c1, if_pos c2, if_pos (Or.inr c2 : (V nm n p).1 < 1 ∨ (V nm n p).1 > 16)]; exact Ev.now _
      · simp only [if_neg c1, if_neg c2, if_neg (show ¬ ((V nm n p).1 < 1 ∨ (V nm n p).1 > 16) by omega)]; exact Ev.now _
  · simp only [if_neg c]; exact Ev.now _

/-- What many numbers are. -/
def VS : List Dm → List Nm → List Int → List Int × Int
  | [], _, acc => (acc, 0)
  | d :: r, p, acc => if (V d.f0 d.f1 p).2 = 0 then VS r p (acc ++ [(V d.f0 d.f1 p).1]) else ([], (V d.f0 d.f1 p).2)
def Okd (l : List Dm) : Prop := l.length ≤ 5864062014805 ∧ ∀ y ∈ l, (Lit.int .i64 y.f1).wf = true
theorem okd {l : List Dm} (h : BL24 l) : Okd l := ⟨by have := h.1; omega, fun y hy => (h.2 y hy).2⟩
theorem values_ev (l : List Dm) (p : List Nm) (hl : Okd l) (hp : Okp p) : Ev (fun k => dims_Values.f k l (names p) (vals p)) (VS l p []) := by
  have main : ∀ (d i : Nat) (a : List Int), l.length - i = d → i ≤ l.length → a.length = i → VS (l.drop i) p a = VS l p [] → Ev (fun k => dims_Values.l0 k (names p) (vals p) a l (l.length : Int) (i : Int)) (VS l p []) := by
    intro d
    induction d with
    | zero =>
      intro i a hd hi hal ha
      refine Ev.step (fun k => (dims_Values.l0.eq_2 _ _ _ _ _ _ _)) ?_
      simp only [show ¬ ((i : Int) < (l.length : Int)) by omega, if_false]
      rw [List.drop_eq_nil_of_le (by omega), VS] at ha
      rw [← ha]; exact Ev.now _
    | succ d ih =>
      intro i a hd hi hal ha
      have hil : i < l.length := by omega
      have hl1 := hl.1
      refine Ev.step (fun k => (dims_Values.l0.eq_2 _ _ _ _ _ _ _)) ?_
      simp only [show ((i : Int) < (l.length : Int)) by omega, if_true, show (0 : Int) ≤ (i : Int) by omega, wrap_succ i (by omega), rdD l i hil, value_eq _ _ p hp, Option.bind_some, show a.length < 17592186044416 by omega]
      rw [List.drop_eq_getElem_cons hil, VS] at ha
      by_cases c : (V l[i].f0 l[i].f1 p).2 = 0
      · simp only [if_pos c]
        rw [if_pos c] at ha
        exact ih (i + 1) _ (by omega) (by omega) (by simp [hal]) ha
      · simp only [if_neg c]
        rw [if_neg c] at ha
        rw [← ha]; exact Ev.now _
  exact main l.length 0 [] (by omega) (by omega) rfl (by rw [List.drop_zero])
theorem refs_ev (l : List Dm) (p : List Nm) (hl : Okd l) (hp : Okp p) : Ev (fun k => proofmarkref04_Values.f k l (names p) (vals p)) (VS l p []) := by
  have main : ∀ (d i : Nat) (a : List Int), l.length - i = d → i ≤ l.length → a.length = i → VS (l.drop i) p a = VS l p [] → Ev (fun k => proofmarkref04_Values.l0 k l (names p) (vals p) a (i : Int)) (VS l p []) := by
    intro d
    induction d with
    | zero =>
      intro i a hd hi hal ha
      refine Ev.step (fun k => (proofmarkref04_Values.l0.eq_2 _ _ _ _ _ _)) ?_
      simp only [show ¬ ((i : Int) < (l.length : Int)) by omega, if_false]
      rw [List.drop_eq_nil_of_le (by omega), VS] at ha
      rw [← ha]; exact Ev.now _
    | succ d ih =>
      intro i a hd hi hal ha
      have hil : i < l.length := by omega
      have hl1 := hl.1
      refine Ev.step (fun k => (proofmarkref04_Values.l0.eq_2 _ _ _ _ _ _)) ?_
      simp only [show ((i : Int) < (l.length : Int)) by omega, if_true, show (0 : Int) ≤ (i : Int) by omega, wrap_succ i (by omega), rdD l i hil, show a.length < 17592186044416 by omega]
      refine Ev.bind (ref_ev _ _ p hp (hl.2 _ (List.getElem_mem hil))) ?_
      rw [List.drop_eq_getElem_cons hil, VS] at ha
      by_cases c : (V l[i].f0 l[i].f1 p).2 = 0
      · simp only [if_pos c]
        rw [if_pos c] at ha
        exact ih (i + 1) _ (by omega) (by omega) (by simp [hal]) ha
      · simp only [if_neg c]
        rw [if_neg c] at ha
        rw [← ha]; exact Ev.now _
  exact main l.length 0 [] (by omega) (by omega) rfl (by rw [List.drop_zero])
theorem VS_len : ∀ (l : List Dm) (p : List Nm) (acc : List Int), (VS l p acc).1.length ≤ acc.length + l.length
  | [], p, acc => by simp [VS]
  | d :: r, p, acc => by
    rw [VS]
    split
    · have := VS_len r p (acc ++ [(V d.f0 d.f1 p).1])
      simp at this ⊢
      omega
    · simp
theorem same_ev (l : List Int) (hl : l.length ≤ 9223372036854775807) : Ev (fun k => proofmarkref04_SameInts.f k l l) true := by
  have main : ∀ (d i : Nat), l.length - i = d → i ≤ l.length → Ev (fun k => proofmarkref04_SameInts.l0 k l l (i : Int)) true := by
    intro d
    induction d with
    | zero =>
      intro i hd hi
      refine Ev.step (fun k => (proofmarkref04_SameInts.l0.eq_2 _ _ _ _)) ?_
      simp only [show ¬ ((i : Int) < (l.length : Int)) by omega, if_false]
      exact Ev.now _
    | succ d ih =>
      intro i hd hi
      have hil : i < l.length := by omega
      refine Ev.step (fun k => (proofmarkref04_SameInts.l0.eq_2 _ _ _ _)) ?_
      simp only [show ((i : Int) < (l.length : Int)) by omega, if_true, show (0 : Int) ≤ (i : Int) by omega, wrap_succ i (by omega)]
      exact ih (i + 1) (by omega) (by omega)
  simp only [proofmarkref04_SameInts.f, if_true]
  exact main l.length 0 (by omega) (by omega)
theorem head_ev : Ev (fun k => proofmarklaw04_head.f k) true := by
  refine Ev.of (k := 4) proofmarklaw04_head.mono ?_
  simp [proofmarklaw04_head.f, dims_Value.f, dims_Width.f, dvalue, dfound, sidx, toList_data, dtold, dwidth, dims_Values.f, dims_Values.l0, rd_T23, rd, wrap64, proofmarkref04_SameInts.f, proofmarkref04_SameInts.l0]
end Go.Proofs.YtomlnddhfigbjaaDoor.Pure
