/- A value that reads as data is one of the print's kinds: for a struct that is nested in itself, by how much fuel the reading has. -/
import Derived.Test.YteilkojmefipcaaOpen
namespace Go.Proofs.Yteilkojmefipcaa.Open
open Go.RowKit Go.Proofs.YteilkojmefipcaaW.PrintWords Go.ChangeShapes Go.WideShapes

/-- What reads as data at type t, with at most so much fuel, is of kind d, and, where no weight passes the reach, meets S. -/
structure OpensN (N : Nat) {α : Type} (P : Program) (t : TypeId) (d : Kd α) (S : α → Prop) : Prop where
  out : ∀ {H : Type} (enc : TypeId × Value → H) (w : World) (fuel : Nat), fuel ≤ N → ∀ (cs : List Value) (x : DataW H) (ps : List MemPlace),
    DataW.trod enc P w 0 (fun _ => true) true fuel t cs = some (x, ps) → ∃ a, d.K w a cs ∧ ((x.weights P t).all (· ≤ reachBytes) = true → S a)
  cells : P.cellsOf t = d.sz
theorem Opens.upto {α : Type} {P : Program} {t : TypeId} {d : Kd α} {S : α → Prop} (h : Opens P t d S) (N : Nat) : OpensN N P t d S := ⟨fun enc w fuel _ => h.out enc w fuel, h.cells⟩
theorem opens_of_upto {α : Type} {P : Program} {t : TypeId} {d : Kd α} {S : α → Prop} (h : ∀ N, OpensN N P t d S) : Opens P t d S := ⟨fun enc w fuel => (h fuel).out enc w fuel (Nat.le_refl _), (h 0).cells⟩
theorem opensN_zero {α : Type} {P : Program} {t : TypeId} {d : Kd α} {S : α → Prop} (hc : P.cellsOf t = d.sz) : OpensN 0 P t d S :=
  ⟨fun enc w fuel hf cs x ps h => by
    obtain rfl : fuel = 0 := by omega
    simp [DataW.trod] at h, hc⟩
theorem opensN_slice {N : Nat} {α : Type} {P : Program} {t e : TypeId} {d : Kd α} {S : α → Prop} (hu : P.underlying t = some (.slice e)) (hc : P.cellsOf t = 1) (ho : OpensN N P e d S) :
    OpensN N P t (Kd.slice e d) (fun l => l.length * P.bytesOf e ≤ 140737488351232 ∧ ∀ x ∈ l, S x) := by
  refine ⟨fun enc w fuel hN cs x ps h => ?_, hc⟩
  rcases DataW.trod_slice hu h with ⟨rfl, hx⟩ | ⟨a, len, cap, elems, rest, n, hn, rfl, hx, hb, hl, hm, hlen, hel, hsp, hns⟩
  · exact ⟨[], ⟨none, 0, rfl, Nat.le_refl _, Kd.C_nil d w⟩, fun _ => ⟨by simp, fun _ h => by cases h⟩⟩
  · obtain ⟨hx, _⟩ := Prod.mk.inj hx
    have hq : ∀ i, i < len → ∃ b, (∃ c, c.length = d.sz ∧ d.K w b c ∧ ∀ j u, c[j]? = some u → w.cell? (a.add (i * d.sz + j)) = some u) ∧ (∀ y, elems[i]? = some y → (y.1.weights P e).all (· ≤ reachBytes) = true → S b) := by
      intro i hi
      have h1 := hel i hi
      rw [List.getElem?_eq_getElem (by omega)] at h1
      obtain ⟨c, hcs, ht⟩ := Option.bind_eq_some_iff.1 h1
      obtain ⟨b, hK, hS⟩ := ho.out enc w n (by omega) c (elems[i]'(by omega)).1 (elems[i]'(by omega)).2 ht
      obtain ⟨_, hcl, hcell⟩ := World.cells?_some hcs
      rw [ho.cells] at hcs hcl hcell
      refine ⟨b, ⟨c, hcl, hK, fun j u hj => ?_⟩, fun y hy hw => ?_⟩
      · have hj2 : j < d.sz := by rw [← hcl]; exact (List.getElem?_eq_some_iff.1 hj).1
        rw [← Addr.add_add, hcell j hj2]
        exact hj
      · rw [List.getElem?_eq_getElem (by omega)] at hy
        obtain rfl := Option.some.inj hy
        exact hS hw
    obtain ⟨l, hlen2, hl2⟩ := pick_list len hq
    subst hlen2
    refine ⟨l, ⟨some a, cap, rfl, hl, rfl, ?_, fun _ => ⟨a, rfl, fun j p hp => (hl2 j p hp).1⟩⟩, fun hw => ?_⟩
    · have : maxLen = 9223372036854775807 := by decide
      omega
    · subst hx
      simp only [DataW.weights, hu, List.all_cons, List.all_append, Bool.and_eq_true, List.length_map] at hw
      refine ⟨?_, fun y hy => ?_⟩
      · have h1 := of_decide_eq_true hw.1
        rw [hlen] at h1
        have h2 : l.length * P.bytesOf e ≤ (l.length + rest.length) * P.bytesOf e := Nat.mul_le_mul_right _ (by omega)
        exact Nat.le_trans h2 h1
      · obtain ⟨i, hi⟩ := List.getElem?_of_mem hy
        have hil := (List.getElem?_eq_some_iff.1 hi).1
        have he : elems[i]? = some (elems[i]'(by omega)) := List.getElem?_eq_getElem (by omega)
        exact (hl2 i y hi).2 _ he (weightsAll_mem (List.mem_map.2 ⟨_, List.mem_of_getElem? he, rfl⟩) hw.2.1)
/-- Fields, from cell 'off' on. -/
structure OpensFN (N : Nat) {α : Type} (P : Program) (fs : List Field) (off : Nat) (d : Kd α) (S : α → Prop) : Prop where
  out : ∀ {H : Type} (enc : TypeId × Value → H) (w : World) (fuel : Nat), fuel ≤ N → ∀ (cs : List Value) (xs : List (DataW H × List MemPlace)),
    xs.length = fs.length → (∀ (i : Nat) (f : Field), fs[i]? = some f → DataW.trod enc P w 0 (fun _ => true) true fuel f.type ((cs.drop f.offset).take (P.cellsOf f.type)) = xs[i]?) → off + d.sz = cs.length →
    ∃ a, d.K w a (cs.drop off) ∧ ((DataW.weightsEach P (fs.map (·.type)) (xs.map (·.1))).all (· ≤ reachBytes) = true → S a)
theorem opensFN_one {N : Nat} {α : Type} {P : Program} {f : Field} {off : Nat} {d : Kd α} {S : α → Prop} (ho : OpensN N P f.type d S) (hoff : f.offset = off) : OpensFN N P [f] off d S :=
  ⟨fun enc w fuel hN cs xs hl h hs => by
    match xs, hl with
    | [x], _ =>
      have h0 := h 0 f rfl
      have e : (cs.drop f.offset).take (P.cellsOf f.type) = cs.drop off := by
        rw [hoff, ho.cells]
        exact List.take_of_length_le (by simp; omega)
      rw [e] at h0
      obtain ⟨a, hK, hS⟩ := ho.out enc w fuel hN _ x.1 x.2 h0
      refine ⟨a, hK, fun hw => hS ?_⟩
      simpa [DataW.weightsEach] using hw⟩
theorem opensFN_cons {N : Nat} {α β : Type} {P : Program} {f : Field} {fs : List Field} {off : Nat} {d : Kd α} {d' : Kd β} {S : α → Prop} {S' : β → Prop} (ho : OpensN N P f.type d S) (hoff : f.offset = off) (hr : OpensFN N P fs (off + d.sz) d' S') :
    OpensFN N P (f :: fs) off (Kd.pair d d') (fun p => S p.1 ∧ S' p.2) :=
  ⟨fun enc w fuel hN cs xs hl h hs => by
    match xs, hl with
    | x :: xs, hl =>
      have h0 := h 0 f rfl
      have hs2 : off + (d.sz + d'.sz) = cs.length := hs
      have e : (cs.drop f.offset).take (P.cellsOf f.type) = (cs.drop off).take d.sz := by rw [hoff, ho.cells]
      rw [e] at h0
      obtain ⟨a, hK, hS⟩ := ho.out enc w fuel hN _ x.1 x.2 h0
      obtain ⟨b, hK', hS'⟩ := hr.out enc w fuel hN cs xs (by simpa using hl) (fun i g hg => h (i + 1) g hg) (by omega)
      refine ⟨(a, b), ⟨(cs.drop off).take d.sz, cs.drop (off + d.sz), ?_, hK, hK'⟩, fun hw => ?_⟩
      · rw [← List.drop_drop]; exact (List.take_append_drop _ _).symm
      · simp only [List.map_cons, DataW.weightsEach, List.all_append, Bool.and_eq_true] at hw
        exact ⟨hS hw.1, hS' hw.2⟩⟩
/-- A struct nested in itself: with one unit of fuel more; what it is of is told anew by 'fold'. -/
theorem opensN_struct {N : Nat} {α β : Type} {P : Program} {t : TypeId} {fs : Array Field} {d : Kd α} {k : Kd β} {S : α → Prop} {S' : β → Prop} (g : α → β) (hu : P.underlying t = some (.struct fs)) (hc : P.cellsOf t = d.sz) (hc' : P.cellsOf t = k.sz) (ho : OpensFN N P fs.toList 0 d S)
    (fold : ∀ w a cs, d.K w a cs → k.K w (g a) cs) (hS' : ∀ a, S a → S' (g a)) : OpensN (N + 1) P t k S' :=
  ⟨fun enc w fuel hN cs x ps h => by
    obtain ⟨xs, n, rfl, hx, hl, hn, hf⟩ := DataW.trod_struct hu h
    obtain ⟨hx, _⟩ := Prod.mk.inj hx
    subst hx
    obtain ⟨a, hK, hS⟩ := ho.out enc w n (by omega) cs xs (by simpa using hn) (fun i f hi => hf i f (by simpa using hi)) (by omega)
    refine ⟨g a, fold w a cs hK, fun hw => hS' a (hS ?_)⟩
    simpa [DataW.weights, hu] using hw, hc'⟩
/-- An array's elements as fields. -/
def arrF (e sz : Nat) : Nat → Nat → List Field
  | 0, _ => []
  | n + 1, i => { name := "", type := e, offset := i * sz, embedded := false, tag := "", pkgPath := "", byteOffset := 0 } :: arrF e sz n (i + 1)
theorem arrF_length (e sz : Nat) : ∀ n i, (arrF e sz n i).length = n
  | 0, _ => rfl
  | n + 1, i => by rw [arrF, List.length_cons, arrF_length e sz n (i + 1)]
theorem arrF_get (e sz : Nat) : ∀ n i j f, (arrF e sz n i)[j]? = some f → j < n ∧ f.type = e ∧ f.offset = (i + j) * sz
  | 0, _, _, _, h => by simp [arrF] at h
  | n + 1, i, 0, f, h => by
    rw [arrF] at h
    simp at h
    subst h
    exact ⟨by omega, rfl, rfl⟩
  | n + 1, i, j + 1, f, h => by
    rw [arrF, List.getElem?_cons_succ] at h
    obtain ⟨h1, h2, h3⟩ := arrF_get e sz n (i + 1) j f h
    exact ⟨by omega, h2, by rw [h3, Nat.add_assoc, Nat.add_comm 1 j]⟩
theorem weightsEach_all {H : Type} (P : Program) (e : TypeId) : ∀ (fs : List Field) (xs : List (DataW H)), (∀ f ∈ fs, f.type = e) → (DataW.weightsAll P e xs).all (· ≤ reachBytes) = true → (DataW.weightsEach P (fs.map (·.type)) xs).all (· ≤ reachBytes) = true
  | [], _, _, _ => by simp [DataW.weightsEach]
  | f :: fs, [], _, _ => by simp [DataW.weightsEach]
  | f :: fs, x :: xs, hf, h => by
    unfold DataW.weightsAll at h
    rw [List.all_append, Bool.and_eq_true] at h
    rw [List.map_cons, DataW.weightsEach, List.all_append, Bool.and_eq_true, hf f (by simp)]
    exact ⟨h.1, weightsEach_all P e fs xs (fun g hg => hf g (by simp [hg])) h.2⟩
theorem opens_array {α β : Type} {P : Program} {t e n : Nat} {d : Kd α} {S : α → Prop} (f : β → α) (g : α → β) (hu : P.underlying t = some (.array n e)) (hc : P.cellsOf t = d.sz) (sz : Nat) (he : P.cellsOf e = sz) (ho : OpensF P (arrF e sz n 0) 0 d S) (hg : ∀ y, f (g y) = y) :
    Opens P t (Kd.iso d f) (fun x => S (f x)) :=
  ⟨fun enc w fuel cs x ps h => by
    obtain ⟨xs, m, rfl, hx, hl, hn, hf⟩ := DataW.trod_array hu h
    obtain ⟨hx, _⟩ := Prod.mk.inj hx
    subst hx
    obtain ⟨a, hK, hS⟩ := ho.out enc w m cs xs (by rw [hn, arrF_length]) (fun i f hi => by
      obtain ⟨h1, h2, h3⟩ := arrF_get e sz n 0 i f hi
      rw [h2, h3, Nat.zero_add, ← he]
      exact hf i h1) (by omega)
    refine ⟨g a, ?_, fun hw => ?_⟩
    · show d.K w (f (g a)) cs
      rw [hg]
      exact hK
    · show S (f (g a))
      rw [hg]
      refine hS (weightsEach_all P e _ _ (fun f hf => ?_) ?_)
      · obtain ⟨i, hi⟩ := List.getElem?_of_mem hf
        exact (arrF_get e sz n 0 i f hi).2.1
      · simpa [DataW.weights, hu] using hw, hc⟩
end Go.Proofs.Yteilkojmefipcaa.Open
