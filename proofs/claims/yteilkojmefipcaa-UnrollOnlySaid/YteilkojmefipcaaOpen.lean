/- A value that reads as data is one of the print's kinds: for whole numbers, bools, strings, slices and structs; and how long what it reads may be. -/
import Derived.Test.YteilkojmefipcaaWWords
import Derived.Deep.Slices
import Derived.SizedLaws
import Derived.ChangeArms
import Derived.ChangeSlices
import Derived.OpenShut
namespace Go.Proofs.Yteilkojmefipcaa.Open
open Go.RowKit Go.Proofs.YteilkojmefipcaaW.PrintWords Go.ChangeShapes Go.WideShapes

theorem pick_list {α : Type} {Q : Nat → α → Prop} (n : Nat) (h : ∀ i, i < n → ∃ a, Q i a) : ∃ l : List α, l.length = n ∧ ∀ i a, l[i]? = some a → Q i a := by
  induction n with
  | zero => exact ⟨[], rfl, fun i a h => by simp at h⟩
  | succ n ih =>
    obtain ⟨l, hl, hq⟩ := ih (fun i hi => h i (Nat.lt_succ_of_lt hi))
    obtain ⟨a, ha⟩ := h n (Nat.lt_succ_self n)
    refine ⟨l ++ [a], by simp [hl], fun i b hb => ?_⟩
    rcases Nat.lt_or_ge i n with hi | hi
    · rw [List.getElem?_append_left (by omega)] at hb
      exact hq i b hb
    · have hi2 : i = n := by
        have := (List.getElem?_eq_some_iff.1 hb).1
        simp [hl] at this
        omega
      subst hi2
      rw [List.getElem?_append_right (by omega)] at hb
      simp [hl] at hb
      subst hb
      exact ha

/-- What reads as data at type t is of kind d, and, where no weight passes the reach, meets S. -/
structure Opens {α : Type} (P : Program) (t : TypeId) (d : Kd α) (S : α → Prop) : Prop where
  out : ∀ {H : Type} (enc : TypeId × Value → H) (w : World) (fuel : Nat) (cs : List Value) (x : DataW H) (ps : List MemPlace),
    DataW.trod enc P w 0 (fun _ => true) true fuel t cs = some (x, ps) → ∃ a, d.K w a cs ∧ ((x.weights P t).all (· ≤ reachBytes) = true → S a)
  cells : P.cellsOf t = d.sz

theorem opens_int {P : Program} {t : TypeId} {k : IntKind} (hu : P.underlying t = some (.int k)) (hc : P.cellsOf t = 1) : Opens P t (Kd.int k) (fun n => (Lit.int k n).wf = true) :=
  ⟨fun enc w fuel cs x ps h => by
    obtain ⟨n, rfl, _, hw⟩ := DataW.trod_int hu h
    exact ⟨n, rfl, fun _ => hw⟩, hc⟩
theorem opens_bool {P : Program} {t : TypeId} (hu : P.underlying t = some .bool) (hc : P.cellsOf t = 1) : Opens P t Kd.bool (fun _ => True) :=
  ⟨fun enc w fuel cs x ps h => by
    obtain ⟨n, rfl, _⟩ := DataW.trod_bool hu h
    exact ⟨n, rfl, fun _ => trivial⟩, hc⟩
theorem opens_string {P : Program} {t : TypeId} (hu : P.underlying t = some .string) (hc : P.cellsOf t = 1) : Opens P t Kd.string (fun s => s.size ≤ 140737488351232) :=
  ⟨fun enc w fuel cs x ps h => by
    obtain ⟨n, rfl, hx, _⟩ := DataW.trod_string hu h
    obtain ⟨rfl, _⟩ := Prod.mk.inj hx
    refine ⟨n, rfl, fun hw => ?_⟩
    have hw2 : decide (n.data.toList.length ≤ reachBytes) = true := by simpa [DataW.weights] using hw
    have hw3 := of_decide_eq_true hw2
    rw [Array.length_toList] at hw3
    exact hw3, hc⟩
theorem weightsAll_mem {H : Type} {P : Program} {e : TypeId} : ∀ {l : List (DataW H)} {d : DataW H}, d ∈ l → (DataW.weightsAll P e l).all (· ≤ reachBytes) = true → (d.weights P e).all (· ≤ reachBytes) = true
  | y :: r, d, hm, h => by
    unfold DataW.weightsAll at h
    rw [List.all_append, Bool.and_eq_true] at h
    rcases List.mem_cons.1 hm with rfl | hm
    · exact h.1
    · exact weightsAll_mem hm h.2
theorem opens_slice {α : Type} {P : Program} {t e : TypeId} {d : Kd α} {S : α → Prop} (hu : P.underlying t = some (.slice e)) (hc : P.cellsOf t = 1) (ho : Opens P e d S) :
    Opens P t (Kd.slice e d) (fun l => l.length * P.bytesOf e ≤ 140737488351232 ∧ ∀ x ∈ l, S x) := by
  refine ⟨fun enc w fuel cs x ps h => ?_, hc⟩
  rcases Go.Deep.open_slice hu h with ⟨rfl, hx⟩ | ⟨a, len, cap, m, n, D, Pl, rfl, hb, hl, hm, hmm, hx, hel⟩
  · exact ⟨[], ⟨none, 0, rfl, Nat.le_refl _, Kd.C_nil d w⟩, fun _ => ⟨by simp, fun _ h => by cases h⟩⟩
  · have hmc : m = cap := by rw [hmm]; rfl
    obtain ⟨hx, _⟩ := Prod.mk.inj hx
    have hq : ∀ i, i < len → ∃ b, (∃ c, c.length = d.sz ∧ d.K w b c ∧ ∀ j u, c[j]? = some u → w.cell? (a.add (i * d.sz + j)) = some u) ∧ (((D i).weights P e).all (· ≤ reachBytes) = true → S b) := by
      intro i hi
      obtain ⟨c, hcs, ht⟩ := hel i (by omega)
      obtain ⟨b, hK, hS⟩ := ho.out enc w n c (D i) (Pl i) ht
      obtain ⟨_, hcl, hcell⟩ := World.cells?_some hcs
      rw [ho.cells] at hcs hcl hcell
      refine ⟨b, ⟨c, hcl, hK, fun j u hj => ?_⟩, hS⟩
      have hj2 : j < d.sz := by rw [← hcl]; exact (List.getElem?_eq_some_iff.1 hj).1
      rw [← Addr.add_add, hcell j hj2]
      exact hj
    obtain ⟨l, hlen, hl2⟩ := pick_list len hq
    subst hlen
    refine ⟨l, ⟨some a, cap, rfl, hl, rfl, ?_, fun _ => ⟨a, rfl, fun j p hp => (hl2 j p hp).1⟩⟩, fun hw => ?_⟩
    · have : maxLen = 9223372036854775807 := by decide
      omega
    · subst hx
      simp only [DataW.weights, hu, List.all_cons, List.all_append, Bool.and_eq_true, List.length_map, List.length_range] at hw
      refine ⟨?_, fun y hy => ?_⟩
      · have h1 := of_decide_eq_true hw.1
        have h2 : l.length * P.bytesOf e ≤ (l.length + (m - l.length)) * P.bytesOf e := Nat.mul_le_mul_right _ (by omega)
        exact Nat.le_trans h2 h1
      · obtain ⟨i, hi⟩ := List.getElem?_of_mem hy
        have hil := (List.getElem?_eq_some_iff.1 hi).1
        exact (hl2 i y hi).2 (weightsAll_mem (List.mem_map.2 ⟨i, List.mem_range.2 hil, rfl⟩) hw.2.1)

/-- Fields, from cell 'off' on. -/
structure OpensF {α : Type} (P : Program) (fs : List Field) (off : Nat) (d : Kd α) (S : α → Prop) : Prop where
  out : ∀ {H : Type} (enc : TypeId × Value → H) (w : World) (fuel : Nat) (cs : List Value) (xs : List (DataW H × List MemPlace)),
    xs.length = fs.length → (∀ (i : Nat) (f : Field), fs[i]? = some f → DataW.trod enc P w 0 (fun _ => true) true fuel f.type ((cs.drop f.offset).take (P.cellsOf f.type)) = xs[i]?) → off + d.sz = cs.length →
    ∃ a, d.K w a (cs.drop off) ∧ ((DataW.weightsEach P (fs.map (·.type)) (xs.map (·.1))).all (· ≤ reachBytes) = true → S a)
theorem opensF_one {α : Type} {P : Program} {f : Field} {off : Nat} {d : Kd α} {S : α → Prop} (ho : Opens P f.type d S) (hoff : f.offset = off) : OpensF P [f] off d S :=
  ⟨fun enc w fuel cs xs hl h hs => by
    match xs, hl with
    | [x], _ =>
      have h0 := h 0 f rfl
      have e : (cs.drop f.offset).take (P.cellsOf f.type) = cs.drop off := by
        rw [hoff, ho.cells]
        exact List.take_of_length_le (by simp; omega)
      rw [e] at h0
      obtain ⟨a, hK, hS⟩ := ho.out enc w fuel _ x.1 x.2 h0
      refine ⟨a, hK, fun hw => hS ?_⟩
      simpa [DataW.weightsEach] using hw⟩
theorem opensF_cons {α β : Type} {P : Program} {f : Field} {fs : List Field} {off : Nat} {d : Kd α} {d' : Kd β} {S : α → Prop} {S' : β → Prop} (ho : Opens P f.type d S) (hoff : f.offset = off) (hr : OpensF P fs (off + d.sz) d' S') :
    OpensF P (f :: fs) off (Kd.pair d d') (fun p => S p.1 ∧ S' p.2) :=
  ⟨fun enc w fuel cs xs hl h hs => by
    match xs, hl with
    | x :: xs, hl =>
      have h0 := h 0 f rfl
      have hs2 : off + (d.sz + d'.sz) = cs.length := hs
      have e : (cs.drop f.offset).take (P.cellsOf f.type) = (cs.drop off).take d.sz := by rw [hoff, ho.cells]
      rw [e] at h0
      obtain ⟨a, hK, hS⟩ := ho.out enc w fuel _ x.1 x.2 h0
      obtain ⟨b, hK', hS'⟩ := hr.out enc w fuel cs xs (by simpa using hl) (fun i g hg => h (i + 1) g hg) (by omega)
      refine ⟨(a, b), ⟨(cs.drop off).take d.sz, cs.drop (off + d.sz), ?_, hK, hK'⟩, fun hw => ?_⟩
      · rw [← List.drop_drop]; exact (List.take_append_drop _ _).symm
      · simp only [List.map_cons, DataW.weightsEach, List.all_append, Bool.and_eq_true] at hw
        exact ⟨hS hw.1, hS' hw.2⟩⟩
theorem opens_struct {α β : Type} {P : Program} {t : TypeId} {fs : Array Field} {d : Kd α} {S : α → Prop} (f : β → α) (g : α → β) (hu : P.underlying t = some (.struct fs)) (hc : P.cellsOf t = d.sz) (ho : OpensF P fs.toList 0 d S) (hg : ∀ y, f (g y) = y) :
    Opens P t (Kd.iso d f) (fun x => S (f x)) :=
  ⟨fun enc w fuel cs x ps h => by
    obtain ⟨xs, n, rfl, hx, hl, hn, hf⟩ := DataW.trod_struct hu h
    obtain ⟨hx, _⟩ := Prod.mk.inj hx
    subst hx
    obtain ⟨a, hK, hS⟩ := ho.out enc w n cs xs (by simpa using hn) (fun i f hi => hf i f (by simpa using hi)) (by omega)
    refine ⟨g a, ?_, fun hw => ?_⟩
    · show d.K w (f (g a)) cs
      rw [hg]
      exact hK
    · show S (f (g a))
      rw [hg]
      refine hS ?_
      simpa [DataW.weights, hu] using hw, hc⟩
/-- The same under another demand. -/
theorem Opens.imp {α : Type} {P : Program} {t : TypeId} {d : Kd α} {S S' : α → Prop} (h : Opens P t d S) (hi : ∀ a, S a → S' a) : Opens P t d S' :=
  ⟨fun enc w fuel cs x ps ht => by
    obtain ⟨a, hK, hS⟩ := h.out enc w fuel cs x ps ht
    exact ⟨a, hK, fun hw => hi a (hS hw)⟩, h.cells⟩
/-- An argument, by what reads it. -/
theorem Opens.arg {α : Type} {P : Program} {t : TypeId} {d : Kd α} {S : α → Prop} (ho : Opens P t d S) {H : Type} {enc : TypeId × Value → H} {w : World} {v : Value} {x : DataW H} {ps : List MemPlace} {ts : List TypeId} {ds : List (DataW H)} {j : Nat}
    (hsz : (DataW.weightsEach P ts ds).all (· ≤ reachBytes) = true) (ht : ts[j]? = some t) (hd : ds[j]? = some x) (h : DataW.Trod enc P w 0 (fun _ => true) true t v x ps) : ∃ a, d.K w a v.cells.toList ∧ S a := by
  obtain ⟨fuel, hf⟩ := h
  obtain ⟨a, hK, hS⟩ := ho.out enc w fuel _ x ps hf
  refine ⟨a, hK, hS ?_⟩
  clear hf hK hS
  induction ts generalizing ds j with
  | nil => simp at ht
  | cons t0 ts ih =>
    match ds, hd with
    | y :: ds, hd =>
      unfold DataW.weightsEach at hsz
      rw [List.all_append, Bool.and_eq_true] at hsz
      cases j with
      | zero =>
        obtain rfl : t0 = t := by simpa using ht
        obtain rfl : y = x := by simpa using hd
        exact hsz.1
      | succ j => exact ih hsz.2 (by simpa using ht) (by simpa using hd)
theorem agg_of {P : Program} {t : TypeId} {fs : Array Field} {r : Reach} {b : Nat} {w : World} {v : Value} (hu : P.underlying t = some (.struct fs)) (hv : Value.okWide P w r b t v) : ∃ cs : List Value, v = .agg cs.toArray := by
  unfold Value.okWide at hv
  rw [hu] at hv
  obtain ⟨cs, rfl, _⟩ := hv
  exact ⟨cs.toList, by simp⟩
end Go.Proofs.Yteilkojmefipcaa.Open
