/- What steps and proofs are, in plain Lean. Written for this claim. -/
import Derived.Test.YtdlfmobnmcamaaaPropEv
import Derived.Test.YtdlfmobnmcamaaaQx24
import Derived.Test.YtdlfmobnmcamaaaQx25
import Derived.Test.YtdlfmobnmcamaaaQx31
import Derived.Test.YtdlfmobnmcamaaaQx26
namespace Go.Proofs.Ytdlfmobnmcamaaa.Q
open Go.RowKit Go.Sort Go.Shelf Go.Proofs.YtdlfmobnmcamaaaW.PrintWords Go.Proofs.YtdlfmobnmcamaaaW.PrintLast Go.Proofs.YtdlfmobnmcamaaaW.PrintMore Go.Proofs.Ytdlfmobnmcamaaa.Q
set_option linter.unusedVariables false
set_option linter.unusedSimpArgs false
theorem opp_mem {c : List Int} {x : Int} : x ∈ opp c ↔ ∃ y ∈ c, neg y = x := by simp [opp, neg]
theorem opp_sm {c : List Int} (h : ∀ y ∈ c, Sm y) : ∀ y ∈ opp c, Sm y := by
  intro y hy
  obtain ⟨z, hz, rfl⟩ := opp_mem.1 hy
  exact (h z hz).neg
theorem opp_len (c : List Int) : (opp c).length = c.length := by simp [opp]
theorem ref_iff' {l : List (List Int)} {k : List Int} (A : Ask8 l k) {v : Int} (h1 : rightOf l v = true) (h2 : rightOf [k] v = true) : refOf l v k = true ↔ Conf l k := by
  unfold refOf
  rw [h1, h2]
  have := unit_true h1 h2 A.lits A.lt
  cases h : (unitOf l v k).2 with
  | true => simp [this.1 h]
  | false =>
    have hn : ¬ (unitOf l v k).2 = true := by simp [h]
    simp
    apply Classical.byContradiction
    intro hc
    exact hn (this.2 hc)
theorem ref_iff {l : List (List Int)} {k : List Int} (A : Ask8 l k) {v : Int} (hv : 8 ≤ v) (hv2 : v ≤ 1048576) : refOf l v k = true ↔ Conf l k := ref_iff' A (A.right hv hv2) (A.right1 hv hv2)
theorem step_f {l : List (List Int)} {c : List Int} (A : Ask8 l (opp c)) (v : Int) : rup_Step.f l v c = some (stepOf l v c) := by
  unfold rup_Step.f
  rw [if_pos (Ask8.small A)]
theorem step_iff {l : List (List Int)} {c : List Int} (A : Ask8 l (opp c)) : stepOf l 8 c = true ↔ Conf l (opp c) := ref_iff A (by omega) (by omega)
/-- A proof is one. -/
def Chk : List (List Int) → List (List Int) → List Int → Prop
  | l, [], a => Conf l a
  | l, c :: p, a => Conf l (opp c) ∧ Chk (l ++ [c]) p a
/-- Clauses, a proof and what is assumed: of the variables 1 to 8, not many. -/
structure Askc (l p : List (List Int)) (a : List Int) : Prop where
  cls : ∀ c ∈ l ++ p, ∀ y ∈ c, Sm y
  lit : ∀ y ∈ a, Sm y
  many : (l ++ p).length ≤ 1000000
  flat : (l ++ p).flatten.length ≤ 1000000
  few : a.length ≤ 1000000
theorem len_flat {l : List (List Int)} {c : List Int} (h : c ∈ l) : c.length ≤ l.flatten.length := by
  obtain ⟨s, t, rfl⟩ := List.append_of_mem h
  simp
  omega
theorem Askc.head {l p : List (List Int)} {c a : List Int} (h : Askc l (c :: p) a) : Ask8 l (opp c) :=
  ⟨fun d hd => h.cls d (List.mem_append_left _ hd), opp_sm (h.cls c (by simp)), by have := h.flat; simp only [List.flatten_append, List.length_append] at this; omega, by rw [opp_len]; have := h.flat; simp only [List.flatten_append, List.flatten_cons, List.length_append] at this; omega⟩
theorem Askc.tail {l p : List (List Int)} {c a : List Int} (h : Askc l (c :: p) a) : Askc (l ++ [c]) p a :=
  ⟨by rw [List.append_assoc]; exact h.cls, h.lit, by rw [List.append_assoc]; exact h.many, by rw [List.append_assoc]; exact h.flat, h.few⟩
theorem Askc.last {l : List (List Int)} {a : List Int} (h : Askc l [] a) : Ask8 l a :=
  ⟨fun c hc => h.cls c (List.mem_append_left _ hc), h.lit, by have := h.flat; simpa using this, h.few⟩
theorem Askc.small {l p : List (List Int)} {a : List Int} (h : Askc l p a) : SmallC l p a :=
  ⟨by have := h.many; simp at this; omega, by have := h.flat; have := h.few; omega, fun c hc y hy => (h.cls c hc y hy).wf, fun y hy => (h.lit y hy).wf⟩
theorem check_f {l p : List (List Int)} {a : List Int} (h : Askc l p a) (v : Int) : rup_Check.f l v p a = some (checkOf l v p a) := by
  unfold rup_Check.f
  rw [if_pos (Askc.small h)]
theorem right_of {l : List (List Int)} {v : Int} (hv : 0 ≤ v) (hv2 : v ≤ 1048576) (h : ∀ c ∈ l, ∀ y ∈ c, Sm y) (hb : ∀ c ∈ l, ∀ y ∈ c, pvar y ≤ v) : rightOf l v = true := by
  simp only [rightOf, Bool.and_eq_true, decide_eq_true_eq, List.all_eq_true]
  refine ⟨⟨hv, hv2⟩, fun c hc y hy => ?_⟩
  have := hb c hc y hy
  have := pvar_pos (h c hc y hy).lt
  simp only [litOk, Bool.and_eq_true, decide_eq_true_eq]
  omega
theorem right_one {k : List Int} {v : Int} (hv : 0 ≤ v) (hv2 : v ≤ 1048576) (h : ∀ y ∈ k, Sm y) (hb : ∀ y ∈ k, pvar y ≤ v) : rightOf [k] v = true :=
  right_of hv hv2 (fun c hc => by simp only [List.mem_singleton] at hc; subst hc; exact h) (fun c hc => by simp only [List.mem_singleton] at hc; subst hc; exact hb)
theorem check_iff' : ∀ {p l : List (List Int)} {a : List Int} (h : Askc l p a) {v : Int} (hv : 0 ≤ v) (hv2 : v ≤ 1048576) (hb : ∀ c ∈ l ++ p, ∀ y ∈ c, pvar y ≤ v) (ha : ∀ y ∈ a, pvar y ≤ v), checkOf l v p a = true ↔ Chk l p a
  | [], l, a, h, v, hv, hv2, hb, ha => by
    rw [checkOf]
    exact ref_iff' h.last (right_of hv hv2 h.last.cls fun c hc => hb c (List.mem_append_left _ hc)) (right_one hv hv2 h.last.lit ha)
  | c :: p, l, a, h, v, hv, hv2, hb, ha => by
    rw [checkOf, Bool.and_eq_true, check_iff' h.tail hv hv2 (by rw [List.append_assoc]; exact hb) ha]
    refine and_congr_left fun _ => ref_iff' h.head (right_of hv hv2 h.head.cls fun d hd => hb d (List.mem_append_left _ hd)) (right_one hv hv2 h.head.lit fun y hy => ?_)
    obtain ⟨z, hz, rfl⟩ := opp_mem.1 hy
    rw [pvar_neg (h.cls c (by simp) z hz).lt]
    exact hb c (by simp) z hz
theorem check_iff {p l : List (List Int)} {a : List Int} (h : Askc l p a) {v : Int} (hv : 8 ≤ v) (hv2 : v ≤ 1048576) : checkOf l v p a = true ↔ Chk l p a :=
  check_iff' h (by omega) hv2 (fun c hc y hy => by have := (h.cls c hc y hy).pv; omega) (fun y hy => by have := (h.lit y hy).pv; omega)
theorem chk_more : ∀ {p l l' : List (List Int)} {a a' : List Int}, (∀ c ∈ l, c ∈ l') → (∀ x ∈ a, x ∈ a') → Chk l p a → Chk l' p a'
  | [], l, l', a, a', h1, h2, h => conf_more h1 (fun x hx => .known (h2 x hx)) h
  | c :: p, l, l', a, a', h1, h2, h => ⟨conf_more h1 (fun x hx => .known hx) h.1, chk_more (fun d hd => by
      rcases List.mem_append.1 hd with hd | hd
      · exact List.mem_append_left _ (h1 d hd)
      · exact List.mem_append_right _ hd) h2 h.2⟩
theorem chk_drop : ∀ {p l : List (List Int)} {a : List Int} (n : Nat), n ≤ p.length → Chk l p a → Chk (l ++ p.take n) (p.drop n) a
  | p, l, a, 0, _, h => by simpa using h
  | [], l, a, n + 1, hn, h => by simp at hn
  | c :: p, l, a, n + 1, hn, h => by
    have := chk_drop (p := p) (l := l ++ [c]) n (by simpa using hn) h.2
    simpa using this
theorem chk_at {p l : List (List Int)} {a : List Int} (n : Nat) (hn : n < p.length) (h : Chk l p a) : Conf (l ++ p.take n) (opp p[n]) := by
  have := chk_drop n (Nat.le_of_lt hn) h
  rw [List.drop_eq_getElem_cons hn] at this
  exact this.1
theorem chk_behind : ∀ {p l : List (List Int)} {a m : List Int}, Conf l (opp m) → Chk l p a → Chk l (p ++ [m]) a
  | [], l, a, m, h, hc => ⟨h, conf_more (fun c hc => List.mem_append_left _ hc) (fun x hx => .known hx) hc⟩
  | c :: p, l, a, m, h, hc => ⟨hc.1, chk_behind (conf_more (fun c hc => List.mem_append_left _ hc) (fun x hx => .known hx) h) hc.2⟩
/-- What is a step is true in each model. -/
theorem step_true {l : List (List Int)} {c : List Int} (A : Ask8 l (opp c)) (hc : ∀ y ∈ c, Sm y) {m : List Bool} (hl : m.length = 8) (hm : Meets m l) (h : Conf l (opp c)) : ∃ y ∈ c, litTrue m y = true := by
  apply Classical.byContradiction
  intro hn
  refine conf_no A.lits A.lt hm (fun x hx => ?_) h
  obtain ⟨y, hy, rfl⟩ := opp_mem.1 hx
  rcases true_or (m := m) (hc y hy).lt (by have := (hc y hy).pv; omega) with e | e
  · exact absurd ⟨y, hy, e⟩ hn
  · exact e
theorem chk_no : ∀ {p l : List (List Int)} {a : List Int} (h : Askc l p a) {m : List Bool}, m.length = 8 → Meets m l → Chk l p a → ¬ ∀ y ∈ a, litTrue m y = true
  | [], l, a, h, m, hl, hm, hc => fun hk => conf_no h.last.lits h.last.lt hm hk hc
  | c :: p, l, a, h, m, hl, hm, hc => chk_no h.tail hl (fun d hd => by
      rcases List.mem_append.1 hd with hd | hd
      · exact hm d hd
      · simp only [List.mem_singleton] at hd
        subst hd
        exact step_true h.head (h.cls d (by simp)) hl hm hc.1) hc.2
theorem askc_of {l p : List (List Int)} {a : List Int} (hl : ∀ c ∈ l, ∀ y ∈ c, Sm y) (hp : ∀ c ∈ p, ∀ y ∈ c, Sm y) (ha : ∀ y ∈ a, Sm y) (h1 : l.length ≤ 1000) (h2 : p.length ≤ 1000) (h3 : l.flatten.length ≤ 10000) (h4 : p.flatten.length ≤ 10000) (h5 : a.length ≤ 1000) : Askc l p a :=
  ⟨fun c hc => (List.mem_append.1 hc).elim (hl c) (hp c), ha, by simp; omega, by simp only [List.flatten_append, List.length_append]; omega, by omega⟩
theorem all20_l0 (l : List Int) (m : List Bool) (hl : l.length < 17592186044416) : ∀ (d i : Nat), l.length - i = d → i ≤ l.length → Ev (fun k => proofmarklaw20_all.l0 k l m (i : Int)) ((l.drop i).all (litTrue m))
  | 0, i, hd, hi => by
    refine Ev.step (f := fun _ => some true) (fun k => ?_) (by rw [List.drop_eq_nil_of_le (by omega)]; exact Ev.now true)
    rw [proofmarklaw20_all.l0, if_neg (by omega)]
  | d + 1, i, hd, hi => by
    have h : i < l.length := by omega
    have hr : YtdlfmobnmcamaaaW.PrintWords.rd l (i : Int) = l[i] := by simp [YtdlfmobnmcamaaaW.PrintWords.rd, List.getD_eq_getElem?_getD, h]
    have ih := all20_l0 l m hl d (i + 1) (by omega) (by omega)
    rw [List.drop_eq_getElem_cons h, List.all_cons]
    cases ht : litTrue m l[i] with
    | true =>
      refine Ev.step (f := fun k => proofmarklaw20_all.l0 k l m ((i + 1 : Nat) : Int)) (fun k => ?_) (by simpa using ih)
      rw [proofmarklaw20_all.l0, if_pos (by omega), if_pos (by omega), hr, met_one, ht, Option.bind_some, if_pos rfl, wr i (by omega)]
    | false =>
      refine Ev.step (f := fun _ => some false) (fun k => ?_) (by simpa using Ev.now false)
      rw [proofmarklaw20_all.l0, if_pos (by omega), if_pos (by omega), hr, met_one, ht, Option.bind_some, if_neg (by simp)]
theorem all20_ev (l : List Int) (m : List Bool) (hl : l.length < 17592186044416) : Ev (fun k => proofmarklaw20_all.f k l m) (l.all (litTrue m)) := by
  have h := all20_l0 l m hl l.length 0 (by omega) (by omega)
  simpa [proofmarklaw20_all.f] using h
end Go.Proofs.Ytdlfmobnmcamaaa.Q
