/- What the document's small functions come to, in plain Lean. Written for this claim. -/
import Derived.Test.YtdlfmobnmcamaaaQx15
import Derived.Test.YtdlfmobnmcamaaaQx15
import Derived.Test.YtdlfmobnmcamaaaQx6
import Derived.Test.YtdlfmobnmcamaaaQx2
import Derived.Test.YtdlfmobnmcamaaaQx17
import Derived.Test.YtdlfmobnmcamaaaUnitB
import Derived.Test.YtdlfmobnmcamaaaQOpens
import Derived.OpenShut
namespace Go.Proofs.Ytdlfmobnmcamaaa.Q
open Go.RowKit Go.Sort Go.Shelf Go.Proofs.YtdlfmobnmcamaaaW.PrintWords Go.Proofs.YtdlfmobnmcamaaaW.PrintLast Go.Proofs.YtdlfmobnmcamaaaW.PrintMore Go.Proofs.Ytdlfmobnmcamaaa.Q
set_option linter.unusedVariables false
set_option linter.unusedSimpArgs false
theorem ev_is {α : Type} {x : Option α} {r : α} (h : x = some r) : Ev (fun _ => x) r := ⟨0, fun _ _ => h⟩
theorem wr (n : Nat) (h : n < 9223372036854775807) : wrap64 ((n : Int) + 1) = ((n + 1 : Nat) : Int) := by unfold wrap64; omega
theorem rdL (l : List (List Int)) (i : Nat) (h : i < l.length) : rd_L1 l (i : Int) = l[i] := by simp [rd_L1, List.getD_eq_getElem?_getD, h]
theorem cut_f (l : List Int) (n : Nat) (hn : n ≤ 100) : proofmarkref18_Cut.f l (n : Int) = some (l.take n) := by
  have e : l.take (mn (l.length : Int) n).toNat = l.take n := by
    unfold mn
    split
    · simp
    · rw [List.take_of_length_le (by simp), List.take_of_length_le (by omega)]
  unfold proofmarkref18_Cut.f
  rw [if_neg (by omega), e, if_pos]
  rw [List.length_take]; omega
def fewOf (l : List (List Int)) : List (List Int) := (l.take 40).map (·.take 8)
theorem few_l0 (l : List (List Int)) : ∀ (d i : Nat) (acc : List (List Int)), 40 - i = d → acc.length = i → Ev (fun k => proofmarkref18_Few.l0 k l acc (i : Int)) (acc ++ ((l.drop i).take (40 - i)).map (·.take 8))
  | 0, i, acc, hd, ha => by
    refine Ev.step (f := fun _ => some acc) (fun k => ?_) (by rw [hd]; simpa using Ev.now acc)
    rw [proofmarkref18_Few.l0]
    by_cases c : (i : Int) < (l.length : Int)
    · rw [if_pos c, if_neg (by omega)]
    · rw [if_neg c]
  | d + 1, i, acc, hd, ha => by
    by_cases c : i < l.length
    · have ih := few_l0 l d (i + 1) (acc ++ [l[i].take 8]) (by omega) (by simp [ha])
      refine Ev.step (f := fun k => proofmarkref18_Few.l0 k l (acc ++ [l[i].take 8]) ((i + 1 : Nat) : Int)) (fun k => ?_) ?_
      · rw [proofmarkref18_Few.l0, if_pos (by omega), if_pos (by omega), if_pos (by omega), rdL l i c, show (8 : Int) = ((8 : Nat) : Int) from rfl, cut_f _ 8 (by omega), Option.bind_some, if_pos (by omega), wr i (by omega)]
      · rw [List.drop_eq_getElem_cons c, show 40 - i = (40 - (i + 1)) + 1 by omega, List.take_succ_cons, List.map_cons]
        simpa using ih
    · refine Ev.step (f := fun _ => some acc) (fun k => ?_) (by rw [List.drop_eq_nil_of_le (by omega)]; simpa using Ev.now acc)
      rw [proofmarkref18_Few.l0, if_neg (by omega)]
theorem few_ev (l : List (List Int)) : Ev (fun k => proofmarkref18_Few.f k l) (fewOf l) := by
  have h := few_l0 l 40 0 [] rfl rfl
  simpa [proofmarkref18_Few.f, fewOf] using h
def ofOf (x : Int) : Int := if x < 0 then (if wrap64 (-x) < 0 then 0 else wrap64 (-x)) else x
theorem of_f (x : Int) : proofmarkref18_Of.f x = some (ofOf x) := by
  unfold proofmarkref18_Of.f ofOf
  split
  · split <;> rfl
  · rfl
def smallLit (x : Int) : Int := if x < 0 then wrap64 (-(wrap64 (1 + (Int.tmod (ofOf x) 8)))) else wrap64 (1 + (Int.tmod (ofOf x) 8))
def smallOf (c : List Int) : List Int := (c.filter fun x => decide (ofOf x ≠ 0)).map smallLit
theorem smallOf_zero {x : Int} {c : List Int} (h : ofOf x = 0) : smallOf (x :: c) = smallOf c := by simp [smallOf, h]
theorem smallOf_one {x : Int} {c : List Int} (h : ofOf x ≠ 0) : smallOf (x :: c) = smallLit x :: smallOf c := by simp [smallOf, h]
theorem small_l0 (c : List Int) (hc : c.length < 17592186044416) : ∀ (d i : Nat) (acc : List Int), c.length - i = d → i ≤ c.length → acc.length ≤ i → Ev (fun k => proofmarkref18_Small.l0 k c acc (i : Int)) (acc ++ smallOf (c.drop i))
  | 0, i, acc, hd, hi, ha => by
    refine Ev.step (f := fun _ => some acc) (fun k => ?_) (by rw [List.drop_eq_nil_of_le (by omega)]; simpa [smallOf] using Ev.now acc)
    rw [proofmarkref18_Small.l0, if_neg (by omega)]
  | d + 1, i, acc, hd, hi, ha => by
    have h : i < c.length := by omega
    have hr : YtdlfmobnmcamaaaW.PrintWords.rd c (i : Int) = c[i] := by simp [YtdlfmobnmcamaaaW.PrintWords.rd, List.getD_eq_getElem?_getD, h]
    rw [List.drop_eq_getElem_cons h]
    by_cases e0 : ofOf c[i] = 0
    · have ih := small_l0 c hc d (i + 1) acc (by omega) (by omega) (by omega)
      refine Ev.step (f := fun k => proofmarkref18_Small.l0 k c acc ((i + 1 : Nat) : Int)) (fun k => ?_) ?_
      · rw [proofmarkref18_Small.l0, if_pos (by omega), if_pos (by omega), hr, of_f, Option.bind_some, wr i (by omega), if_pos e0, if_pos e0, ite_self]
      · rw [smallOf_zero e0]; exact ih
    · have ih := small_l0 c hc d (i + 1) (acc ++ [smallLit c[i]]) (by omega) (by omega) (by simp; omega)
      refine Ev.step (f := fun k => proofmarkref18_Small.l0 k c (acc ++ [smallLit c[i]]) ((i + 1 : Nat) : Int)) (fun k => ?_) ?_
      · rw [proofmarkref18_Small.l0, if_pos (by omega), if_pos (by omega), hr, of_f, Option.bind_some, wr i (by omega), if_neg e0, if_neg e0]
        simp only [show acc.length < 17592186044416 by omega, if_true]
        unfold smallLit
        split <;> rfl
      · rw [smallOf_one e0]; rw [List.append_assoc] at ih; exact ih
theorem small_ev (c : List Int) (hc : c.length < 17592186044416) : Ev (fun k => proofmarkref18_Small.f k c) (smallOf c) := by
  have h := small_l0 c hc c.length 0 [] (by omega) (by omega) (by simp)
  simpa [proofmarkref18_Small.f] using h
def smallsOf (l : List (List Int)) : List (List Int) := (fewOf l).map smallOf
theorem few_len (l : List (List Int)) : (fewOf l).length ≤ 40 := by unfold fewOf; simp; omega
theorem few_len8 (l : List (List Int)) : ∀ c ∈ fewOf l, c.length ≤ 8 := by
  intro c hc
  simp only [fewOf, List.mem_map] at hc
  obtain ⟨x, _, rfl⟩ := hc
  simp; omega
theorem smalls_l0 (l : List (List Int)) (hl : l.length ≤ 40) (h8 : ∀ c ∈ l, c.length ≤ 8) : ∀ (d i : Nat) (acc : List (List Int)), l.length - i = d → i ≤ l.length → acc.length = i → Ev (fun k => proofmarkref18_Smalls.l0 k acc l (i : Int)) (acc ++ (l.drop i).map smallOf)
  | 0, i, acc, hd, hi, ha => by
    refine Ev.step (f := fun _ => some acc) (fun k => ?_) (by rw [List.drop_eq_nil_of_le (by omega)]; simpa using Ev.now acc)
    rw [proofmarkref18_Smalls.l0, if_neg (by omega)]
  | d + 1, i, acc, hd, hi, ha => by
    have h : i < l.length := by omega
    have ih := smalls_l0 l hl h8 d (i + 1) (acc ++ [smallOf l[i]]) (by omega) (by omega) (by simp [ha])
    have h8' := h8 _ (List.getElem_mem h)
    refine Ev.step (f := fun k => (proofmarkref18_Small.f k l[i]).bind fun t => proofmarkref18_Smalls.l0 k (acc ++ [t]) l ((i + 1 : Nat) : Int)) (fun k => ?_) ?_
    · rw [proofmarkref18_Smalls.l0, if_pos (by omega), if_pos (by omega), rdL l i h, wr i (by omega)]
      simp only [show acc.length < 5864062014805 by omega, if_true]
    · refine Ev.bind (small_ev l[i] (by omega)) ?_
      rw [List.drop_eq_getElem_cons h, List.map_cons]
      simpa using ih
theorem smalls_ev (l : List (List Int)) : Ev (fun k => proofmarkref18_Smalls.f k l) (smallsOf l) := by
  refine Ev.bind (few_ev l) ?_
  have h := smalls_l0 (fewOf l) (few_len l) (few_len8 l) (fewOf l).length 0 [] (by omega) (by omega) rfl
  simpa [smallsOf] using h
theorem smallLit_sm {x : Int} (hw : Wf x) (h0 : ofOf x ≠ 0) : Sm (smallLit x) := by
  have h1 : 0 ≤ ofOf x := by unfold ofOf; split <;> (try split) <;> omega
  have e : Int.tmod (ofOf x) 8 = ofOf x % 8 := Int.tmod_eq_emod_of_nonneg h1
  unfold smallLit Sm
  rw [e]
  unfold wrap64
  split <;> omega
theorem small_sm {c : List Int} (hw : ∀ y ∈ c, Wf y) : ∀ y ∈ smallOf c, Sm y := by
  intro y hy
  simp only [smallOf, List.mem_map, List.mem_filter, decide_eq_true_eq] at hy
  obtain ⟨x, ⟨hx, h0⟩, rfl⟩ := hy
  exact smallLit_sm (hw x hx) h0
theorem small_le (c : List Int) : (smallOf c).length ≤ c.length := by
  unfold smallOf
  rw [List.length_map]
  exact List.length_filter_le _ _
theorem smalls_sm {l : List (List Int)} (hw : ∀ c ∈ l, ∀ y ∈ c, Wf y) : ∀ c ∈ smallsOf l, ∀ y ∈ c, Sm y := by
  intro c hc
  simp only [smallsOf, fewOf, List.mem_map] at hc
  obtain ⟨_, ⟨d, hd, rfl⟩, rfl⟩ := hc
  exact small_sm fun y hy => hw d (List.mem_of_mem_take hd) y (List.mem_of_mem_take hy)
theorem smalls_len (l : List (List Int)) : (smallsOf l).length ≤ 40 := by unfold smallsOf; simp; exact few_len l
theorem smalls_len8 (l : List (List Int)) : ∀ c ∈ smallsOf l, c.length ≤ 8 := by
  intro c hc
  simp only [smallsOf, List.mem_map] at hc
  obtain ⟨d, hd, rfl⟩ := hc
  have := few_len8 l d hd
  have := small_le d
  omega
theorem flat_le : ∀ (l : List (List Int)) (n : Nat), (∀ c ∈ l, c.length ≤ n) → l.flatten.length ≤ l.length * n
  | [], n, h => by simp
  | c :: l, n, h => by
    have h1 := h c List.mem_cons_self
    have h2 := flat_le l n fun d hd => h d (List.mem_cons_of_mem _ hd)
    simp only [List.flatten_cons, List.length_append, List.length_cons, Nat.add_mul]
    omega
theorem smalls_flat (l : List (List Int)) : (smallsOf l).flatten.length ≤ 320 := by
  have h1 := flat_le _ 8 (smalls_len8 l)
  have h2 := smalls_len l
  omega
/-- The model of a number. -/
def modelOf : Nat → Int → List Bool
  | 0, _ => []
  | v + 1, n => (Int.tmod n 2 == 1) :: modelOf v (wrap64 (Int.tdiv n 2))
theorem modelOf_len : ∀ (v : Nat) (n : Int), (modelOf v n).length = v
  | 0, _ => rfl
  | v + 1, n => by rw [modelOf, List.length_cons, modelOf_len v]
theorem model_l0 (vars : Nat) (hv : vars ≤ 1000) : ∀ (d i : Nat) (n : Int) (acc : List Bool), vars - i = d → i ≤ vars → acc.length = i → Ev (fun k => proofmarkref18_Model.l0 k n (vars : Int) acc (i : Int)) (acc ++ modelOf d n)
  | 0, i, n, acc, hd, hi, ha => by
    refine Ev.step (f := fun _ => some acc) (fun k => ?_) (by simpa [modelOf] using Ev.now acc)
    rw [proofmarkref18_Model.l0, if_neg (by omega)]
  | d + 1, i, n, acc, hd, hi, ha => by
    have ih := model_l0 vars hv d (i + 1) (wrap64 (Int.tdiv n 2)) (acc ++ [Int.tmod n 2 == 1]) (by omega) (by omega) (by simp [ha])
    refine Ev.step (f := fun k => proofmarkref18_Model.l0 k (wrap64 (Int.tdiv n 2)) (vars : Int) (acc ++ [Int.tmod n 2 == 1]) ((i + 1 : Nat) : Int)) (fun k => ?_) (by simpa [modelOf] using ih)
    rw [proofmarkref18_Model.l0, if_pos (by omega), if_pos (by omega), wr i (by omega)]
theorem model_ev (n : Int) (vars : Nat) (hv : vars ≤ 1000) : Ev (fun k => proofmarkref18_Model.f k n (vars : Int)) (modelOf vars n) := by
  have h := model_l0 vars hv vars 0 n [] (by omega) (by omega) rfl
  simpa [proofmarkref18_Model.f] using h
theorem met_one (x : Int) (m : List Bool) : prop_Met.f [[x]] m = some (litTrue m x) := by simp [prop_Met.f]
theorem all_l0 (l : List Int) (m : List Bool) (hl : l.length < 17592186044416) : ∀ (d i : Nat), l.length - i = d → i ≤ l.length → Ev (fun k => proofmarklaw18_all.l0 k l m (i : Int)) ((l.drop i).all (litTrue m))
  | 0, i, hd, hi => by
    refine Ev.step (f := fun _ => some true) (fun k => ?_) (by rw [List.drop_eq_nil_of_le (by omega)]; exact Ev.now true)
    rw [proofmarklaw18_all.l0, if_neg (by omega)]
  | d + 1, i, hd, hi => by
    have h : i < l.length := by omega
    have hr : YtdlfmobnmcamaaaW.PrintWords.rd l (i : Int) = l[i] := by simp [YtdlfmobnmcamaaaW.PrintWords.rd, List.getD_eq_getElem?_getD, h]
    have ih := all_l0 l m hl d (i + 1) (by omega) (by omega)
    rw [List.drop_eq_getElem_cons h, List.all_cons]
    cases ht : litTrue m l[i] with
    | true =>
      refine Ev.step (f := fun k => proofmarklaw18_all.l0 k l m ((i + 1 : Nat) : Int)) (fun k => ?_) (by simpa using ih)
      rw [proofmarklaw18_all.l0, if_pos (by omega), if_pos (by omega), hr, met_one, ht, Option.bind_some, if_pos rfl, wr i (by omega)]
    | false =>
      refine Ev.step (f := fun _ => some false) (fun k => ?_) (by simpa using Ev.now false)
      rw [proofmarklaw18_all.l0, if_pos (by omega), if_pos (by omega), hr, met_one, ht, Option.bind_some, if_neg (by simp)]
theorem all_ev (l : List Int) (m : List Bool) (hl : l.length < 17592186044416) : Ev (fun k => proofmarklaw18_all.f k l m) (l.all (litTrue m)) := by
  have h := all_l0 l m hl l.length 0 (by omega) (by omega)
  simpa [proofmarklaw18_all.f] using h
theorem has_l0 (l : List Int) (x : Int) (hl : l.length < 17592186044416) : ∀ (d i : Nat), l.length - i = d → i ≤ l.length → Ev (fun k => proofmarklaw18_has.l0 k l x (i : Int)) (decide (x ∈ l.drop i))
  | 0, i, hd, hi => by
    refine Ev.step (f := fun _ => some false) (fun k => ?_) (by rw [List.drop_eq_nil_of_le (by omega)]; simpa using Ev.now false)
    rw [proofmarklaw18_has.l0, if_neg (by omega)]
  | d + 1, i, hd, hi => by
    have h : i < l.length := by omega
    have hr : YtdlfmobnmcamaaaW.PrintWords.rd l (i : Int) = l[i] := by simp [YtdlfmobnmcamaaaW.PrintWords.rd, List.getD_eq_getElem?_getD, h]
    have ih := has_l0 l x hl d (i + 1) (by omega) (by omega)
    rw [List.drop_eq_getElem_cons h]
    by_cases e : l[i] = x
    · refine Ev.step (f := fun _ => some true) (fun k => ?_) (by simpa [e] using Ev.now true)
      rw [proofmarklaw18_has.l0, if_pos (by omega), if_pos (by omega), hr, if_pos e]
    · refine Ev.step (f := fun k => proofmarklaw18_has.l0 k l x ((i + 1 : Nat) : Int)) (fun k => ?_) (by rw [show decide (x ∈ l[i] :: l.drop (i + 1)) = decide (x ∈ l.drop (i + 1)) from decide_eq_decide.2 (by rw [List.mem_cons]; exact ⟨fun h => h.resolve_left (Ne.symm e), .inr⟩)]; exact ih)
      rw [proofmarklaw18_has.l0, if_pos (by omega), if_pos (by omega), hr, if_neg e, wr i (by omega)]
theorem has_ev (l : List Int) (x : Int) (hl : l.length < 17592186044416) : Ev (fun k => proofmarklaw18_has.f k l x) (decide (x ∈ l)) := by
  have h := has_l0 l x hl l.length 0 (by omega) (by omega)
  simpa [proofmarklaw18_has.f] using h
theorem same_l0 (a b : List Int) (hl : a.length = b.length) (hb : a.length < 17592186044416) : ∀ (d i : Nat), a.length - i = d → i ≤ a.length → Ev (fun k => proofmarkref18_Same.l0 k a b (i : Int)) (decide (a.drop i = b.drop i))
  | 0, i, hd, hi => by
    refine Ev.step (f := fun _ => some true) (fun k => ?_) (by rw [List.drop_eq_nil_of_le (by omega), List.drop_eq_nil_of_le (by omega)]; simpa using Ev.now true)
    rw [proofmarkref18_Same.l0, if_neg (by omega)]
  | d + 1, i, hd, hi => by
    have h : i < a.length := by omega
    have h' : i < b.length := by omega
    have hr : YtdlfmobnmcamaaaW.PrintWords.rd a (i : Int) = a[i] := by simp [YtdlfmobnmcamaaaW.PrintWords.rd, List.getD_eq_getElem?_getD, h]
    have hr' : YtdlfmobnmcamaaaW.PrintWords.rd b (i : Int) = b[i] := by simp [YtdlfmobnmcamaaaW.PrintWords.rd, List.getD_eq_getElem?_getD, h']
    have ih := same_l0 a b hl hb d (i + 1) (by omega) (by omega)
    rw [List.drop_eq_getElem_cons h, List.drop_eq_getElem_cons h']
    by_cases e : a[i] = b[i]
    · refine Ev.step (f := fun k => proofmarkref18_Same.l0 k a b ((i + 1 : Nat) : Int)) (fun k => ?_) (by rw [show decide (a[i] :: a.drop (i + 1) = b[i] :: b.drop (i + 1)) = decide (a.drop (i + 1) = b.drop (i + 1)) from decide_eq_decide.2 (by rw [List.cons.injEq]; exact ⟨fun h => h.2, fun h => ⟨e, h⟩⟩)]; exact ih)
      rw [proofmarkref18_Same.l0, if_pos (by omega), if_pos (by omega), if_pos (by omega), hr, hr', if_pos e, wr i (by omega)]
    · refine Ev.step (f := fun _ => some false) (fun k => ?_) (by rw [show decide (a[i] :: a.drop (i + 1) = b[i] :: b.drop (i + 1)) = false from decide_eq_false (by rw [List.cons.injEq]; exact fun h => e h.1)]; exact Ev.now false)
      rw [proofmarkref18_Same.l0, if_pos (by omega), if_pos (by omega), if_pos (by omega), hr, hr', if_neg e]
theorem same_ev (a b : List Int) (hb : a.length < 17592186044416) : Ev (fun k => proofmarkref18_Same.f k a b) (decide (a = b)) := by
  unfold proofmarkref18_Same.f
  by_cases hl : a.length = b.length
  · have h := same_l0 a b hl hb a.length 0 (by omega) (by omega)
    simp only [hl, if_true]
    simpa using h
  · have : ¬ ((a.length : Int) = (b.length : Int)) := by omega
    simp only [this, if_false]
    rw [show decide (a = b) = false by simpa using fun e => hl (congrArg _ e)]
    exact Ev.now false
theorem wf_of {y : Int} (h : (Lit.int .i64 y).wf = true) : Wf y := by
  exact bounds_i64 h
theorem bl23_wf {l : List Int} (h : BL23 l) : ∀ y ∈ l, Wf y := fun y hy => wf_of (h.2 y hy)
theorem bl22_wf {l : List (List Int)} (h : BL22 l) : ∀ c ∈ l, ∀ y ∈ c, Wf y := fun c hc => bl23_wf (h.2 c hc)
theorem meets_iff (l : List (List Int)) (m : List Bool) : (l.all fun c => c.any (litTrue m)) = true ↔ Meets m l := by
  simp [Meets]
theorem met_f (l : List (List Int)) (m : List Bool) : prop_Met.f l m = some (l.all fun c => c.any (litTrue m)) := rfl
/-- Literals that are known: some of those given. -/
def knownOf (l : List Int) (n : Nat) : List Int := smallOf (l.take n)
theorem known_ev (l : List Int) (n : Nat) (hn : n ≤ 100) {β : Type} {f : Nat → List Int → Option β} {r : β} (h : Ev (fun k => f k (knownOf l n)) r) : Ev (fun k => (proofmarkref18_Cut.f l (n : Int)).bind fun t => (proofmarkref18_Small.f k t).bind fun u => f k u) r := by
  refine Ev.bind (ev_is (cut_f l n hn)) ?_
  exact Ev.bind (small_ev _ (by rw [List.length_take]; omega)) h
theorem known_len (l : List Int) (n : Nat) : (knownOf l n).length ≤ n := by
  have := small_le (l.take n)
  rw [List.length_take] at this
  unfold knownOf
  omega
theorem known_sm {l : List Int} (hw : ∀ y ∈ l, Wf y) (n : Nat) : ∀ y ∈ knownOf l n, Sm y := small_sm fun y hy => hw y (List.mem_of_mem_take hy)
/-- Clauses and literals of the variables 1 to 8, not many. -/
structure Ask8 (l : List (List Int)) (known : List Int) : Prop where
  cls : ∀ c ∈ l, ∀ y ∈ c, Sm y
  lit : ∀ y ∈ known, Sm y
  flat : l.flatten.length ≤ 1000000
  few : known.length ≤ 1000000
theorem Ask8.lits {l : List (List Int)} {known : List Int} (h : Ask8 l known) : Lits l := fun c hc y hy => (h.cls c hc y hy).lt
theorem Ask8.lt {l : List (List Int)} {known : List Int} (h : Ask8 l known) : ∀ y ∈ known, Lt y := fun y hy => (h.lit y hy).lt
theorem Ask8.small {l : List (List Int)} {known : List Int} (h : Ask8 l known) : Small l known :=
  ⟨by have := h.flat; have := h.few; omega, fun c hc y hy => (h.cls c hc y hy).wf, fun y hy => (h.lit y hy).wf⟩
theorem Ask8.right {l : List (List Int)} {known : List Int} (h : Ask8 l known) {v : Int} (hv : 8 ≤ v) (hv2 : v ≤ 1048576) : rightOf l v = true := right_sm hv hv2 h.cls
theorem Ask8.right1 {l : List (List Int)} {known : List Int} (h : Ask8 l known) {v : Int} (hv : 8 ≤ v) (hv2 : v ≤ 1048576) : rightOf [known] v = true := right_sm hv hv2 fun c hc y hy => by
  simp only [List.mem_singleton] at hc
  subst hc
  exact h.lit y hy
theorem Ask8.unit {l : List (List Int)} {known : List Int} (h : Ask8 l known) : prop_Unit.f l 8 known = some (unitOf l 8 known) := by
  unfold prop_Unit.f
  rw [if_pos (Ask8.small h)]
theorem Ask8.spec {l : List (List Int)} {known : List Int} (h : Ask8 l known) :
    (Conf l known ∧ unitOf l 8 known = ([], false)) ∨ (¬ Conf l known ∧ ∃ out, unitOf l 8 known = (out, true) ∧ (∀ x, x ∈ out ↔ Der l known x) ∧ Rise out) :=
  unit_spec (h.right (by omega) (by omega)) (h.right1 (by omega) (by omega)) h.lits h.lt
theorem ask8_of {l : List (List Int)} {k : List Int} (hl : BL22 l) (hk : BL23 k) (n : Nat) (hn : n ≤ 100) : Ask8 (smallsOf l) (knownOf k n) :=
  ⟨smalls_sm (bl22_wf hl), known_sm (bl23_wf hk) n, by have := smalls_flat l; omega, by have := known_len k n; omega⟩
theorem der_sm {l : List (List Int)} {known : List Int} (h : Ask8 l known) {x : Int} (hx : Der l known x) : Sm x := by
  cases hx with
  | known h' => exact h.lit _ h'
  | unit hc hx _ => exact h.cls _ hc _ hx
theorem rise_le : ∀ (a : List Int) (lo : Int), Rise a → lo ≤ 9 → (∀ y ∈ a, lo ≤ pvar y ∧ pvar y ≤ 8) → lo + a.length ≤ 9
  | [], lo, _, h, _ => by simpa using h
  | x :: r, lo, hr, h, hb => by
    have h1 := hb x List.mem_cons_self
    have hr' := List.pairwise_cons.1 hr
    have := rise_le r (pvar x + 1) hr'.2 (by omega) fun y hy => ⟨by have := hr'.1 y hy; omega, (hb y (List.mem_cons_of_mem _ hy)).2⟩
    simp only [List.length_cons]
    omega
theorem rise_len {a : List Int} (hr : Rise a) (hs : ∀ y ∈ a, Sm y) : a.length ≤ 8 := by
  have := rise_le a 1 hr (by omega) fun y hy => ⟨by have := pvar_pos (hs y hy).lt; omega, (hs y hy).pv⟩
  omega
theorem half_le (n : Nat) (h : n ≤ 1000) : wrap64 ((n : Int) / 2) = ((n / 2 : Nat) : Int) := by unfold wrap64; omega
/-- Clauses and what is known, told alike, come to the same. -/
theorem unit_same {l l' : List (List Int)} {k k' : List Int} (A : Ask8 l k) (B : Ask8 l' k') (h1 : ∀ c, c ∈ l ↔ c ∈ l') (h2 : ∀ x, x ∈ k ↔ x ∈ k') : unitOf l 8 k = unitOf l' 8 k' := by
  have d : ∀ x, Der l k x ↔ Der l' k' x := fun x => ⟨der_more (fun c hc => (h1 c).1 hc) fun x hx => .known ((h2 x).1 hx), der_more (fun c hc => (h1 c).2 hc) fun x hx => .known ((h2 x).2 hx)⟩
  have c1 : Conf l k → Conf l' k' := conf_more (fun c hc => (h1 c).1 hc) fun x hx => .known ((h2 x).1 hx)
  have c2 : Conf l' k' → Conf l k := conf_more (fun c hc => (h1 c).2 hc) fun x hx => .known ((h2 x).2 hx)
  rcases A.spec with ⟨ha, ea⟩ | ⟨ha, oa, ea, ma, ra⟩ <;> rcases B.spec with ⟨hb, eb⟩ | ⟨hb, ob, eb, mb, rb⟩
  · rw [ea, eb]
  · exact absurd (c1 ha) hb
  · exact absurd (c2 hb) ha
  · rw [ea, eb, rise_eq ra rb fun x => (ma x).trans ((d x).trans (mb x).symm)]
theorem unit_len {l : List (List Int)} {k : List Int} (A : Ask8 l k) : (unitOf l 8 k).1.length ≤ 8 := by
  rcases A.spec with ⟨_, e⟩ | ⟨_, out, e, hm, hr⟩
  · rw [e]; simp
  · rw [e]; exact rise_len hr fun y hy => der_sm A ((hm y).1 hy)
theorem rev_succ {α : Type} (l : List α) (n : Nat) (h : n < l.length) : (l.take (n + 1)).reverse = l[n] :: (l.take n).reverse := by
  rw [List.take_succ_eq_append_getElem h, List.reverse_append]; rfl
end Go.Proofs.Ytdlfmobnmcamaaa.Q
