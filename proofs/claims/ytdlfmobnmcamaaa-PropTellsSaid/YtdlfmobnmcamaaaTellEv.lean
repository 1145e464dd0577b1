/- What the document's smallest functions come to, in plain Lean. Written for this claim. -/
import Derived.Test.YtdlfmobnmcamaaaQx6
import Derived.Test.YtdlfmobnmcamaaaQx2
import Derived.Test.YtdlfmobnmcamaaaQx9
import Derived.Test.YtdlfmobnmcamaaaUnitB
import Derived.Test.YtdlfmobnmcamaaaQOpens
import Derived.OpenShut
namespace Go.Proofs.Ytdlfmobnmcamaaa.Q
open Go.RowKit Go.Sort Go.Shelf Go.Proofs.YtdlfmobnmcamaaaW.PrintWords Go.Proofs.YtdlfmobnmcamaaaW.PrintLast Go.Proofs.YtdlfmobnmcamaaaW.PrintMore Go.Proofs.Ytdlfmobnmcamaaa.Q
set_option linter.unusedVariables false
set_option linter.unusedSimpArgs false
theorem ev_is {α : Type} {x : Option α} {r : α} (h : x = some r) : Ev (fun _ => x) r := ⟨0, fun _ _ => h⟩
theorem wr (n : Nat) (h : n < 9223372036854775807) : wrap64 ((n : Int) + 1) = ((n + 1 : Nat) : Int) := by unfold wrap64; omega
theorem rdL (l : List (List Int)) (i : Nat) (h : i < l.length) : rd_L1 l (i : Int) = l[i] := by simp [rd_L1, List.getD_eq_getElem?_getD, h]
theorem cut_f (l : List Int) (n : Nat) (hn : n ≤ 100) : proofmarkref18_Cut.f l (n : Int) = some (l.take n) := by
  have e : l.take (mn (l.length : Int) n).toNat = l.take n := by
    unfold mn
    split
    · simp
    · rw [List.take_of_length_le (by simp), List.take_of_length_le (by omega)]
  unfold proofmarkref18_Cut.f
  rw [if_neg (by omega), e, if_pos]
  rw [List.length_take]; omega
def fewOf (l : List (List Int)) : List (List Int) := (l.take 40).map (·.take 8)
theorem few_l0 (l : List (List Int)) : ∀ (d i : Nat) (acc : List (List Int)), 40 - i = d → acc.length = i → Ev (fun k => proofmarkref18_Few.l0 k l acc (i : Int)) (acc ++ ((l.drop i).take (40 - i)).map (·.take 8))
  | 0, i, acc, hd, ha => by
    refine Ev.step (f := fun _ => some acc) (fun k => ?_) (by rw [hd]; simpa using Ev.now acc)
    rw [proofmarkref18_Few.l0]
    by_cases c : (i : Int) < (l.length : Int)
    · rw [if_pos c, if_neg (by omega)]
    · rw [if_neg c]
  | d + 1, i, acc, hd, ha => by
    by_cases c : i < l.length
    · have ih := few_l0 l d (i + 1) (acc ++ [l[i].take 8]) (by omega) (by simp [ha])
      refine Ev.step (f := fun k => proofmarkref18_Few.l0 k l (acc ++ [l[i].take 8]) ((i + 1 : Nat) : Int)) (fun k => ?_) ?_
      · rw [proofmarkref18_Few.l0, if_pos (by omega), if_pos (by omega), if_pos (by omega), rdL l i c, show (8 : Int) = ((8 : Nat) : Int) from rfl, cut_f _ 8 (by omega), Option.bind_some, if_pos (by omega), wr i (by omega)]
      · rw [List.drop_eq_getElem_cons c, show 40 - i = (40 - (i + 1)) + 1 by omega, List.take_succ_cons, List.map_cons]
        simpa using ih
    · refine Ev.step (f := fun _ => some acc) (fun k => ?_) (by rw [List.drop_eq_nil_of_le (by omega)]; simpa using Ev.now acc)
      rw [proofmarkref18_Few.l0, if_neg (by omega)]
theorem few_ev (l : List (List Int)) : Ev (fun k => proofmarkref18_Few.f k l) (fewOf l) := by
  have h := few_l0 l 40 0 [] rfl rfl
  simpa [proofmarkref18_Few.f, fewOf] using h
def ofOf (x : Int) : Int := if x < 0 then (if wrap64 (-x) < 0 then 0 else wrap64 (-x)) else x
theorem of_f (x : Int) : proofmarkref18_Of.f x = some (ofOf x) := by
  unfold proofmarkref18_Of.f ofOf
  split
  · split <;> rfl
  · rfl
theorem few_len (l : List (List Int)) : (fewOf l).length ≤ 40 := by unfold fewOf; simp; omega
theorem few_len8 (l : List (List Int)) : ∀ c ∈ fewOf l, c.length ≤ 8 := by
  intro c hc
  simp only [fewOf, List.mem_map] at hc
  obtain ⟨x, _, rfl⟩ := hc
  simp; omega
theorem flat_le : ∀ (l : List (List Int)) (n : Nat), (∀ c ∈ l, c.length ≤ n) → l.flatten.length ≤ l.length * n
  | [], n, h => by simp
  | c :: l, n, h => by
    have h1 := h c List.mem_cons_self
    have h2 := flat_le l n fun d hd => h d (List.mem_cons_of_mem _ hd)
    simp only [List.flatten_cons, List.length_append, List.length_cons, Nat.add_mul]
    omega
theorem same_l0 (a b : List Int) (hl : a.length = b.length) (hb : a.length < 17592186044416) : ∀ (d i : Nat), a.length - i = d → i ≤ a.length → Ev (fun k => proofmarkref18_Same.l0 k a b (i : Int)) (decide (a.drop i = b.drop i))
  | 0, i, hd, hi => by
    refine Ev.step (f := fun _ => some true) (fun k => ?_) (by rw [List.drop_eq_nil_of_le (by omega), List.drop_eq_nil_of_le (by omega)]; simpa using Ev.now true)
    rw [proofmarkref18_Same.l0, if_neg (by omega)]
  | d + 1, i, hd, hi => by
    have h : i < a.length := by omega
    have h' : i < b.length := by omega
    have hr : YtdlfmobnmcamaaaW.PrintWords.rd a (i : Int) = a[i] := by simp [YtdlfmobnmcamaaaW.PrintWords.rd, List.getD_eq_getElem?_getD, h]
    have hr' : YtdlfmobnmcamaaaW.PrintWords.rd b (i : Int) = b[i] := by simp [YtdlfmobnmcamaaaW.PrintWords.rd, List.getD_eq_getElem?_getD, h']
    have ih := same_l0 a b hl hb d (i + 1) (by omega) (by omega)
    rw [List.drop_eq_getElem_cons h, List.drop_eq_getElem_cons h']
    by_cases e : a[i] = b[i]
    · refine Ev.step (f := fun k => proofmarkref18_Same.l0 k a b ((i + 1 : Nat) : Int)) (fun k => ?_) (by rw [show decide (a[i] :: a.drop (i + 1) = b[i] :: b.drop (i + 1)) = decide (a.drop (i + 1) = b.drop (i + 1)) from decide_eq_decide.2 (by rw [List.cons.injEq]; exact ⟨fun h => h.2, fun h => ⟨e, h⟩⟩)]; exact ih)
      rw [proofmarkref18_Same.l0, if_pos (by omega), if_pos (by omega), if_pos (by omega), hr, hr', if_pos e, wr i (by omega)]
    · refine Ev.step (f := fun _ => some false) (fun k => ?_) (by rw [show decide (a[i] :: a.drop (i + 1) = b[i] :: b.drop (i + 1)) = false from decide_eq_false (by rw [List.cons.injEq]; exact fun h => e h.1)]; exact Ev.now false)
      rw [proofmarkref18_Same.l0, if_pos (by omega), if_pos (by omega), if_pos (by omega), hr, hr', if_neg e]
theorem same_ev (a b : List Int) (hb : a.length < 17592186044416) : Ev (fun k => proofmarkref18_Same.f k a b) (decide (a = b)) := by
  unfold proofmarkref18_Same.f
  by_cases hl : a.length = b.length
  · have h := same_l0 a b hl hb a.length 0 (by omega) (by omega)
    simp only [hl, if_true]
    simpa using h
  · have : ¬ ((a.length : Int) = (b.length : Int)) := by omega
    simp only [this, if_false]
    rw [show decide (a = b) = false by simpa using fun e => hl (congrArg _ e)]
    exact Ev.now false

theorem wf_of {y : Int} (h : (Lit.int .i64 y).wf = true) : Wf y := by
  exact bounds_i64 h
theorem bl23_wf {l : List Int} (h : BL23 l) : ∀ y ∈ l, Wf y := fun y hy => wf_of (h.2 y hy)
theorem bl22_wf {l : List (List Int)} (h : BL22 l) : ∀ c ∈ l, ∀ y ∈ c, Wf y := fun c hc => bl23_wf (h.2 c hc)
theorem met_f (l : List (List Int)) (m : List Bool) : prop_Met.f l m = some (l.all fun c => c.any (litTrue m)) := rfl
end Go.Proofs.Ytdlfmobnmcamaaa.Q
