/- rup.grown's iterator and rup.Check. Written for this claim. -/
import Derived.Test.YtdlfmobnmcamaaaRupRef
import Derived.Test.YtdlfmobnmcamaaaQx24
import Derived.RangeFuncNested
import Derived.RangeFuncCalls
import Derived.RangeFuncLeaves
import Derived.RangeFuncRecord
import Derived.OwnWalkIn
import Derived.TacticsInMore
import Derived.Outline
namespace Go.Proofs.Ytdlfmobnmcamaaa.Q
open Go.RowKit Go.Proofs.YtdlfmobnmcamaaaW.PrintWords Go.Proofs.YtdlfmobnmcamaaaW.PrintLast Go.Proofs.YtdlfmobnmcamaaaW.PrintMore
set_option linter.unusedVariables false
set_option linter.unusedSimpArgs false
attribute [local go_sem] Oper.semAt_some
theorem take_at (p : List (List Int)) (i : Nat) (h : i < p.length) : p.take (i + 1) = p.take i ++ [p[i]] := List.take_succ_eq_append_getElem h
theorem rdl (p : List (List Int)) (i : Nat) (h : i < p.length) : p.getD i [] = p[i] := by simp [List.getD_eq_getElem?_getD, h]
set_option maxHeartbeats 8000000 in
set_option maxRecDepth 100000 in
/-- The clauses that grow: each step is asked of the clauses so far. -/
theorem grown1_any (n l S B2 B3 : Nat) (A0 : Option Addr) (c0 : Nat) (l0 : List (List Int)) (A1 : Option Addr) (c1 : Nat) (p : List (List Int)) (W : World)
    (h2 : W.cell? ⟨B2, 0, none⟩ = some (.slice A0 l0.length c0)) (h3 : W.cell? ⟨B3, 0, none⟩ = some (.slice A1 p.length c1))
    (hS : S ≤ W.heap.size) (hr0 : Kd.F (Kd.slice 3 (Kd.int .i64)) W (fun k => k < S) A0 l0.length l0) (hr1 : Kd.F (Kd.slice 3 (Kd.int .i64)) W (fun k => k < S) A1 p.length p)
    (hm : l0.length + p.length < 5864062014805) (stp : Nat → Bool) (Jx : World → Prop)
    (hY : ∀ (i : Nat) (hi : i < p.length) A c A' c' W1, Below W.heap.size W W1 → Kd.F (Kd.slice 3 (Kd.int .i64)) W1 (fun k => k < S ∨ W.heap.size ≤ k) A (l0 ++ p.take i).length (l0 ++ p.take i) → (l0 ++ p.take i).length ≤ c → Kd.F (Kd.int .i64) W1 (fun k => k < S) A' p[i].length p[i] → p[i].length ≤ c' →
      YieldAt Fence.wide n Try.prog l #[.slice A (l0 ++ p.take i).length c, .slice A' p[i].length c'] W1 (fun e W' => (e = .returned (.bool true) ∧ stp i = true ∧ Below W1.heap.size W1 W') ∨ (e = .returned (.bool false) ∧ stp i = false ∧ Jx W'))) :
    Calls Try.prog 70 #[.func (.yield l) #[] #[], .pointer (some ⟨B2, 0, none⟩), .pointer (some ⟨B3, 0, none⟩)] W (fun e W' => (∃ v, e = .returned v) ∧ (((∀ i, i < p.length → stp i = true) ∧ Below W.heap.size W W') ∨ (∃ i, i < p.length ∧ stp i = false ∧ Jx W'))) := by
  have HF0 := Aside0.mk hr0
  have HF1 := Aside0.mk hr1
  have HSz := Aside0.mk hS
  have HY := Aside0.mk hY
  have HM := Aside0.mk hm
  clear hr0 hr1 hY hm hS
  go_enter Try.func70, Try.ntmps70
  go_wp2_with ((with_reducible refine gate_builtin (b := .append) (xs := #[.const (.slice none 0 0), .tmp 7]) rfl ?_); at_builtin; refine Kd.N_append_rows (Kd.slice 3 (Kd.int .i64)) (w0 := W) W.heap.size rfl (.const (.slice none 0 0)) (.tmp 7) 22 23 (.slice none 0 0) 24 rfl Try.underlying22 info23 rfl (by decide) (by omega) (.slice none 0 0) [] l0 A0 l0.length c0 (fun k => k < S ∨ W.heap.size ≤ k) (fun k => k < S) rfl rfl (Kd.N_nil _ _ _ _ _) HF0.out (fun k hk => ⟨.inl hk, by simp [Value.ownBlock]⟩) (fun _ hk => .inr hk) (Below.refl _ _) (Nat.le_refl _) (by have := HM.out; simp only [List.length_nil]; omega) ?_; intro v1 w1 ho hb hg hat; have HO1 := Aside0.mk ho; have HB1 := Aside0.mk hb; have h3' := pw_cell_below hb h3; clear ho hb hg hat)
  rw [List.nil_append] at HO1
  go_loopw [4, 11] (fun v4 v11 w' => ∃ i : Nat, v11 = .int .i64 (i : Int) ∧ i ≤ p.length ∧ Aside0 (Kd.N (Kd.slice 3 (Kd.int .i64)) 23 w' W.heap.size (fun k => k < S ∨ W.heap.size ≤ k) v4 (l0 ++ p.take i)) ∧ Aside0 (Below W.heap.size W w') ∧ Aside0 (∀ j, j < i → stp j = true)) (fun _ v11 _ => p.length - (intOf v11).toNat)
  case atStart => exact ⟨0, rfl, Nat.zero_le _, ⟨by rw [List.take_zero, List.append_nil]; exact HO1.out⟩, HB1, ⟨fun j hj => absurd hj (Nat.not_lt_zero j)⟩⟩
  case round =>
    obtain ⟨i, rfl, hi, HO, HB, HI⟩ := hrel
    have hm := HM.out
    by_cases hlt : i < p.length
    · obtain ⟨q, hq⟩ : ∃ q, l0 ++ p.take i = q := ⟨_, rfl⟩
      have hYi := HY.out i hlt
      rw [hq] at HO hYi
      have HQ := Aside0.mk hq
      have hql : q.length < 5864062014805 := by rw [← hq, List.length_append, List.length_take]; omega
      have HQL := Aside0.mk hql
      clear hq hql
      obtain ⟨A, c, rfl⟩ := Kd.N_slice HO.out
      obtain ⟨_, hlc, _⟩ := Kd.N_reads' HO.out
      have hC := Kd.N_F HO.out
      obtain ⟨ad, cs, rfl, hcl, hFK, hcc, _⟩ := Kd.F_get (Kd.F_step HF1.out (fun k hk hk2 => HB.out.block k hk2)) [] (i : Int) (by omega) (by omega)
      rw [Int.toNat_natCast] at hFK hcc
      rw [rdl p i hlt] at hFK
      have HFK := Aside0.mk hFK
      obtain ⟨A', c', rfl, hl', hF'⟩ := Kd.FK_slice_open hFK
      have hx := hcc 0 _ rfl
      rw [Nat.add_zero, show (Kd.slice 3 (Kd.int .i64)).sz = 1 from rfl, Nat.mul_one] at hx
      obtain ⟨fn, tmps, assign, body, hy, hR⟩ := hYi A c A' c' _ HB.out hC hlc hF' hl'
      clear hYi hcc hcl hC hF' hFK
      go_upto_region 4 with (fail)
      refine (wpIn_wide (n := n + 1)).1 ?_
      gi_wp2
      refine hR.mono ?_
      rintro e W3 (⟨rfl, hs, hb⟩ | ⟨rfl, hs, hj⟩)
      · have HS := Aside0.mk hs
        have HB3 := Aside0.mk (below_then HB.out HB.out.size hb)
        have HO3 := Aside0.mk (Kd.N_below HO.out hb)
        have HFK3 := Aside0.mk (Foot.step HFK.out (fun k hk hlt => hb.block k hlt))
        clear hs hb
        gi_wp2
        go_wp2_with ((with_reducible refine gate_builtin (b := .append) (xs := #[.tmp 20, .tmp 22]) rfl ?_); at_builtin; refine Kd.N_append (Kd.slice 3 (Kd.int .i64)) (w0 := W) W.heap.size rfl (.tmp 20) (.tmp 22) 22 23 (.slice none 0 0) 24 rfl Try.underlying22 info23 rfl (by decide) (by omega) (.slice A q.length c) q p[i] [.slice A' p[i].length c'] (fun k => k < S ∨ W.heap.size ≤ k) (fun k => k < S) rfl rfl HFK3.out (fun k hk => ⟨.inl hk, fun e => by have := Kd.N_base HO3.out k e.symm; have := HSz.out; omega⟩) (fun _ hk => .inr (Nat.le_trans HB3.out.size hk)) HO3.out HB3.out HB3.out.size (by have := HQL.out; omega) ?_; intro v4 w4 ho hb hg hat; have HO4 := Aside0.mk ho; have HB4 := Aside0.mk hb; clear ho hb hg hat)
        go_roundw
        case rel => exact ⟨i + 1, by go_num, by omega, ⟨by rw [take_at p i hlt, ← List.append_assoc, HQ.out]; exact HO4.out⟩, HB4, ⟨fun j hj => by
          by_cases e : j = i
          · subst e; exact HS.out
          · exact HI.out j (by omega)⟩⟩
        case measure => simp [intOf]; omega
      · have HX : Aside0 (stp i = false ∧ Jx W3) := ⟨⟨hs, hj⟩⟩
        clear hs hj
        gi_wp2
        go_wp2_with fail
        refine bodyPost_ret (results_none rfl _ _ _) rfl ?_
        exact ⟨⟨_, rfl⟩, .inr ⟨i, hlt, HX.out.1, HX.out.2⟩⟩
    · go_wp2_with fail
      go_end0
      exact ⟨⟨_, rfl⟩, .inl ⟨fun j hj => HI.out j (by omega), HB.out⟩⟩
end Go.Proofs.Ytdlfmobnmcamaaa.Q
namespace Go.Proofs.Ytdlfmobnmcamaaa.Q
open Go.RowKit Go.Proofs.YtdlfmobnmcamaaaW.PrintWords Go.Proofs.YtdlfmobnmcamaaaW.PrintLast Go.Proofs.YtdlfmobnmcamaaaW.PrintMore
set_option linter.unusedVariables false
set_option linter.unusedSimpArgs false
attribute [local go_sem] Oper.semAt_some
/-- A proof is one: each clause is a step of what is ahead of it; all of it ends in a conflict. -/
noncomputable def checkOf : List (List Int) → Int → List (List Int) → List Int → Bool
  | l, vars, [], assume => refOf l vars assume
  | l, vars, c :: p, assume => stepOf l vars c && checkOf (l ++ [c]) vars p assume
/-- The bounds within which the contract speaks. -/
def SmallC (l p : List (List Int)) (assume : List Int) : Prop := l.length + p.length < 5864062014805 ∧ 2 * (l ++ p).flatten.length + assume.length + 1 < 17592186044416 ∧ (∀ c ∈ l ++ p, ∀ y ∈ c, Wf y) ∧ ∀ y ∈ assume, Wf y
instance (l p : List (List Int)) (a : List Int) : Decidable (SmallC l p a) := by unfold SmallC; infer_instance
/-- What the rounds ask, one by one. -/
noncomputable def stpAt (l : List (List Int)) (vars : Int) (p : List (List Int)) (i : Nat) : Bool := stepOf (l ++ p.take i) vars (p.getD i [])
theorem check_all : ∀ (p l : List (List Int)) (vars : Int) (a : List Int), (∀ i, i < p.length → stpAt l vars p i = true) → checkOf l vars p a = refOf (l ++ p) vars a
  | [], l, vars, a, _ => by rw [checkOf, List.append_nil]
  | c :: p, l, vars, a, h => by
    have h0 := h 0 (by simp)
    have ih := check_all p (l ++ [c]) vars a fun i hi => by
      have := h (i + 1) (by simpa using hi)
      simpa [stpAt] using this
    rw [checkOf, ih, List.append_assoc]
    simp [stpAt] at h0
    simp [h0]
theorem check_some : ∀ (p l : List (List Int)) (vars : Int) (a : List Int) (i : Nat), i < p.length → stpAt l vars p i = false → checkOf l vars p a = false
  | [], l, vars, a, i, hi, _ => by simp at hi
  | c :: p, l, vars, a, 0, _, h => by simp [stpAt] at h; rw [checkOf, h]; rfl
  | c :: p, l, vars, a, i + 1, hi, h => by
    rw [checkOf, check_some p (l ++ [c]) vars a i (by simpa using hi) (by simpa [stpAt] using h)]
    simp
theorem small_step {l p : List (List Int)} {a : List Int} (h : SmallC l p a) (i : Nat) (hi : i < p.length) : Small (l ++ p.take i) (opp p[i]) := by
  obtain ⟨h1, h2, h3, h4⟩ := h
  have e : p = p.take i ++ p[i] :: p.drop (i + 1) := by rw [← List.drop_eq_getElem_cons hi, List.take_append_drop]
  have hf := congrArg (fun q => (l ++ q).flatten.length) e
  simp only [List.flatten_append, List.flatten_cons, List.length_append] at hf h2
  refine ⟨?_, fun c hc y hy => h3 c ?_ y hy, fun y hy => ?_⟩
  · simp only [opp, List.flatten_append, List.length_append, List.length_map]
    omega
  · rcases List.mem_append.1 hc with hc | hc
    · exact List.mem_append_left _ hc
    · exact List.mem_append_right _ (List.mem_of_mem_take hc)
  · simp only [opp, List.mem_map] at hy
    obtain ⟨x, hx, rfl⟩ := hy
    unfold Wf wrap64
    omega
theorem small_last {l p : List (List Int)} {a : List Int} (h : SmallC l p a) : Small (l ++ p) a := ⟨by have := h.2.1; omega, h.2.2.1, h.2.2.2⟩
set_option maxHeartbeats 4000000 in
set_option maxRecDepth 100000 in
theorem grown_any (A : Option Addr) (n c : Nat) (A1 : Option Addr) (n1 c1 : Nat) (w : World) :
    Calls Try.prog 48 #[.slice A n c, .slice A1 n1 c1] w fun e w' => e = .returned (.func (.func 70) #[] #[.pointer (some ⟨w.heap.size, 0, none⟩), .pointer (some ⟨w.heap.size + 1, 0, none⟩)]) ∧ w' = (w.alloc (.cells #[.slice A n c] 22)).alloc (.cells #[.slice A1 n1 c1] 22) := by
  go_enter Try.func48, Try.ntmps48
  go_wp2
  go_ret
  exact ⟨rfl, rfl⟩
theorem below_back {W W3 : World} {l : Nat} {o o' : Obj} (h : W.heap[l]? = some o) (hb : Below W.heap.size (W.putObj l o') W3) : Below W.heap.size W (W3.putObj l o) := by
  have hl : l < W.heap.size := (Array.getElem?_eq_some_iff.1 h).1
  have hz := hb.size
  rw [World.putObj_size] at hz
  refine ⟨hb.os, hb.tape, hb.output, by rw [World.putObj_size]; exact hz, fun k hk => ?_⟩
  by_cases e : k = l
  · subst e; rw [h]; exact World.putObj_heap_same (by omega)
  · rw [World.putObj_heap_other e, hb.block k hk, World.putObj_heap_other e]
theorem below_put {B : Nat} {w W : World} {l : Nat} (h : Below B w W) (hl : B ≤ l) (o : Obj) : Below B w (W.putObj l o) :=
  ⟨h.os, h.tape, h.output, by rw [World.putObj_size]; exact h.size, fun k hk => by rw [World.putObj_heap_other (by omega)]; exact h.block k hk⟩
theorem F_put {α : Type} {d : Kd α} {W : World} {ok : Nat → Prop} {A : Option Addr} {n : Nat} {xs : List α} {l : Nat} (o : Obj) (h : Kd.F d W ok A n xs) (hok : ∀ k, ok k → k ≠ l) : Kd.F d (W.putObj l o) ok A n xs :=
  Kd.F_step h fun k hk _ => World.putObj_heap_other (hok k hk)
/-- A range over a function that is a closure: its one call, and what is pending behind it. -/
theorem wp_range {P : Program} {g : Operand} {ps : Array Tmp} {assign body : Code} {Q : Exit → Act → World → Prop} {a : Act} {W0 : World} {gf : Nat} {lb : Array Value} (hg : a.eval g = .func (.func gf) #[] lb) (eg : ∀ args w, (callFunc gf args).run P w = .ok (.enter gf args) w)
    (h : ∀ (R : Loop), (∃ fn, R = { state := .ready, pending := none, fn := fn, tmps := a.tmps, params := ps, assign := assign, body := body, defers := W0.heap.size }) →
      Calls P gf (#[.func (.yield (W0.heap.size + 1)) #[] #[]] ++ lb) ((W0.alloc (.deferred (some []))).alloc (.loop R)) (fun e W2 => (∃ v, e = .returned v) ∧ ∃ jump st, W2.heap[W0.heap.size + 1]? = some (.loop { R with state := st, pending := jump }) ∧ st ≠ .busy ∧
        (match jump with
         | none => Q .normal { a with defers := [{ target := .collected W0.heap.size, args := #[] }] ++ a.defers } (W2.putObj (W0.heap.size + 1) (.loop { R with state := .exhausted, pending := jump }))
         | some c => c.wp P Q { a with defers := [{ target := .collected W0.heap.size, args := #[] }] ++ a.defers } (W2.putObj (W0.heap.size + 1) (.loop { R with state := .exhausted, pending := jump }))))) :
    (Code.rangeFunc g ps assign body).wp P Q a W0 := by
  refine (wpIn_wide (n := 5)).1 (wpIn_rangeFunc ?_)
  intro fn _
  obtain ⟨R, hR⟩ : ∃ R : Loop, R = { state := .ready, pending := none, fn := fn, tmps := a.tmps, params := ps, assign := assign, body := body, defers := W0.heap.size } := ⟨_, rfl⟩
  have hc := h R ⟨fn, hR⟩
  have he := run_enterLoop_outer (P := P) (w := W0) fn a.tmps ps assign body
  rw [← hR] at he
  obtain ⟨W1, hW1⟩ : ∃ W1, (W0.alloc (.deferred (some []))).alloc (.loop R) = W1 := ⟨_, rfl⟩
  rw [hW1] at he hc
  refine ⟨W0.heap.size + 1, [{ target := .collected W0.heap.size, args := #[] }], W1, { target := .fn (.func gf) lb, args := #[.func (.yield (W0.heap.size + 1)) #[] #[]] }, W1, gf, #[.func (.yield (W0.heap.size + 1)) #[] #[]] ++ lb, W1, he, ?_, ?_, ?_, ?_, ?_⟩
  · simp only [resolve, hg]
    simp [go_sem]
  · intro f' _; trivial
  · simp [invoke, go_sem, eg]
  · intro _; omega
  · refine callsIn_wide.2 (Calls.mono hc ?_)
    rintro e W2 ⟨⟨v, rfl⟩, jump, st, hl, hst, hj⟩
    refine ⟨jump, _, run_endLoop hl hst, ?_⟩
    cases jump with
    | none => exact hj
    | some c => exact wpIn_wide.2 hj
theorem new_at {W : World} {o : Obj} {k : Nat} (h : k = W.heap.size) : (W.alloc o).heap[k]? = some o := by rw [h]; exact alloc_new W o
set_option maxHeartbeats 16000000 in
set_option maxRecDepth 100000 in
theorem check_any (A0 : Option Addr) (c0 : Nat) (l0 : List (List Int)) (a1 : Int) (A2 : Option Addr) (c2 : Nat) (p : List (List Int)) (A3 : Option Addr) (c3 : Nat) (l3 : List Int) (w : World) (hr0 : Kd.C (Kd.slice 3 (Kd.int .i64)) w A0 l0.length l0) (hc0 : l0.length ≤ c0) (hr2 : Kd.C (Kd.slice 3 (Kd.int .i64)) w A2 p.length p) (hc2 : p.length ≤ c2) (hr3 : Kd.C (Kd.int .i64) w A3 l3.length l3) (hc3 : l3.length ≤ c3) (hs : SmallC l0 p l3) :
    Calls Try.prog 22 #[.slice A0 l0.length c0, .int .i64 a1, .slice A2 p.length c2, .slice A3 l3.length c3] w fun e w' => e = .returned (.bool (checkOf l0 a1 p l3)) ∧ Below w.heap.size w w' := by
  have HF0 := Aside0.mk (Kd.C_F (Kd.heap_slice 3 (Kd.heap_int .i64)) hr0)
  have HF2 := Aside0.mk (Kd.C_F (Kd.heap_slice 3 (Kd.heap_int .i64)) hr2)
  have HF3 := Aside0.mk hr3
  have HC3 := Aside0.mk hc3
  have HS := Aside0.mk hs
  obtain ⟨r, hr⟩ : ∃ r, checkOf l0 a1 p l3 = r := ⟨_, rfl⟩
  have HR := Aside0.mk hr
  rw [hr]
  clear hr0 hc0 hr2 hc2 hr3 hc3 hs hr
  refine (callsIn_wide (n := 5)).1 (callsIn_of_wp_marks Try.func22 rfl trivial ((wpIn_wide (n := 5)).2 ?_) rfl)
  simp only [Try.ntmps22, List.size_toArray, List.length_cons, List.length_nil, Nat.reduceAdd, Nat.reduceSub, Array.replicate_succ, Array.replicate_zero, List.push_toArray, List.append_toArray, List.nil_append, List.cons_append]
  go_wp2_with (go_at_call 48; refine (grown_any _ _ _ _ _ _ _).mono ?_; rintro e w' ⟨rfl, rfl⟩)
  obtain ⟨W0, hW0⟩ : ∃ W0, ((((w.alloc (.cells #[.int .i64 a1] 3)).alloc (.cells #[.bool false] 4)).alloc (.cells #[.slice A0 l0.length c0] 22)).alloc (.cells #[.slice A2 p.length c2] 22)) = W0 := ⟨_, rfl⟩
  have z0 : W0.heap.size = w.heap.size + 1 + 1 + 1 + 1 := by rw [← hW0]; simp only [alloc_size]
  have b0 : Below w.heap.size w W0 := by rw [← hW0]; exact below_alloc (below_alloc (below_alloc (below_alloc (Below.refl _ _) _) _) _) _
  have k0 : W0.heap[w.heap.size]? = some (.cells #[.int .i64 a1] 3 (0, 0)) := by rw [← hW0]; repeat (first | rw [alloc_old _ _ _ (by simp only [alloc_size]; omega)] | exact new_at (by simp only [alloc_size]))
  have k1 : W0.heap[w.heap.size + 1]? = some (.cells #[.bool false] 4 (0, 0)) := by rw [← hW0]; repeat (first | rw [alloc_old _ _ _ (by simp only [alloc_size]; omega)] | exact new_at (by simp only [alloc_size]))
  have k2 : W0.heap[w.heap.size + 1 + 1]? = some (.cells #[.slice A0 l0.length c0] 22 (0, 0)) := by rw [← hW0]; repeat (first | rw [alloc_old _ _ _ (by simp only [alloc_size]; omega)] | exact new_at (by simp only [alloc_size]))
  have k3 : W0.heap[w.heap.size + 1 + 1 + 1]? = some (.cells #[.slice A2 p.length c2] 22 (0, 0)) := by rw [← hW0]; repeat (first | rw [alloc_old _ _ _ (by simp only [alloc_size]; omega)] | exact new_at (by simp only [alloc_size]))
  rw [hW0]
  have Z0 := Aside0.mk z0
  have B0 := Aside0.mk b0
  have K0 := Aside0.mk k0
  have K1 := Aside0.mk k1
  have K2 := Aside0.mk k2
  have K3 := Aside0.mk k3
  clear hW0 z0 b0 k0 k1 k2 k3
  refine wp_range (gf := 70) rfl (enters_of Try.func70 (by kernel_rfl) rfl) fun R hR => ?_
  have HRec := Aside0.mk hR
  have hst : R.state = .ready := by obtain ⟨fn, rfl⟩ := hR; rfl
  have hpe : R.pending = none := by obtain ⟨fn, rfl⟩ := hR; rfl
  have hpa : R.params = #[15, 16] := by obtain ⟨fn, rfl⟩ := hR; rfl
  clear hR
  obtain ⟨W1, hW1⟩ : ∃ W1, (W0.alloc (.deferred (some []))).alloc (.loop R) = W1 := ⟨_, rfl⟩
  have bW1 : Below W0.heap.size W0 W1 := by rw [← hW1]; exact below_alloc (below_alloc (Below.refl _ _) _) _
  have zW1 : W1.heap.size = W0.heap.size + 1 + 1 := by rw [← hW1]; simp only [alloc_size]
  have kD : W1.heap[W0.heap.size]? = some (.deferred (some [])) := by rw [← hW1]; repeat (first | rw [alloc_old _ _ _ (by simp only [alloc_size]; omega)] | exact new_at (by simp only [alloc_size]))
  have kL : W1.heap[W0.heap.size + 1]? = some (.loop R) := by rw [← hW1]; exact new_at (by simp only [alloc_size])
  rw [hW1]
  clear hW1
  have bw1 : Below w.heap.size w W1 := below_then B0.out (Nat.le_of_lt (by have := Z0.out; omega)) bW1
  obtain ⟨Jx, hJx⟩ : ∃ Jx : World → Prop, Jx = fun W' => Below w.heap.size w W' ∧ W'.heap[W0.heap.size + 1]? = some (.loop { R with state := .done, pending := some .ret }) ∧ W'.heap[W0.heap.size]? = some (.deferred (some [])) ∧ W'.heap[w.heap.size + 1]? = some (.cells #[.bool false] 4 (0, 0)) := ⟨_, rfl⟩
  have HJx := Aside0.mk hJx
  clear hJx
  refine (grown1_any 4 (W0.heap.size + 1) w.heap.size (w.heap.size + 1 + 1) (w.heap.size + 1 + 1 + 1) A0 c0 l0 A2 c2 p W1 (by rw [blk_cell ((bW1.block _ (by have := Z0.out; omega)).trans K2.out)]; rfl) (by rw [blk_cell ((bW1.block _ (by have := Z0.out; omega)).trans K3.out)]; rfl) (by rw [zW1]; have := Z0.out; omega)
    (Kd.F_step HF0.out (fun k hk _ => bw1.block k hk)) (Kd.F_step HF2.out (fun k hk _ => bw1.block k hk)) HS.out.1 (stpAt l0 a1 p)
    Jx ?round).mono ?rest
  case round =>
    intro i hi A c A' c' W3 hB hF hlc hF' hl'
    have hl : W3.heap[W0.heap.size + 1]? = some (.loop R) := (hB.block _ (by omega)).trans kL
    have hd : W3.heap[W0.heap.size]? = some (.deferred (some [])) := (hB.block _ (by omega)).trans kD
    have hz := hB.size
    have hk0 : W3.heap[w.heap.size]? = some (.cells #[.int .i64 a1] 3 (0, 0)) := (hB.block _ (by have := Z0.out; omega)).trans ((bW1.block _ (by have := Z0.out; omega)).trans K0.out)
    have hk1 : W3.heap[w.heap.size + 1]? = some (.cells #[.bool false] 4 (0, 0)) := (hB.block _ (by have := Z0.out; omega)).trans ((bW1.block _ (by have := Z0.out; omega)).trans K1.out)
    have hsm := small_step HS.out i hi
    have hbw3 : Below w.heap.size w W3 := below_then bw1 bw1.size hB
    obtain ⟨fn, hR⟩ := HRec.out
    obtain ⟨q, hq⟩ : ∃ q, l0 ++ p.take i = q := ⟨_, rfl⟩
    have hstp : stpAt l0 a1 p i = stepOf q a1 p[i] := by unfold stpAt; rw [hq, rdl p i hi]
    obtain ⟨y, hy⟩ : ∃ y, p[i] = y := ⟨_, rfl⟩
    rw [hy] at hF' hl' hsm hstp ⊢
    rw [hq] at hF hlc hsm ⊢
    clear hq hy
    obtain ⟨sv, hsv⟩ : ∃ sv, stpAt l0 a1 p i = sv := ⟨_, rfl⟩
    rw [hsv] at hstp ⊢
    have HSV := Aside0.mk hstp
    clear hsv hstp
    refine ⟨R.fn, _, R.assign, R.body, run_yield hl (by rw [hpa]; rfl), roundIn_of_wpIn trivial ?_⟩
    simp only [hR]
    clear hR
    gi_wp2
    refine ⟨_, run_beginRound hl hst, ?_⟩
    obtain ⟨ob, hob⟩ : ∃ ob : Obj, .loop { R with state := .busy } = ob := ⟨_, rfl⟩
    rw [hob]
    obtain ⟨Wb, hWb⟩ : ∃ Wb, W3.putObj (W0.heap.size + 1) ob = Wb := ⟨_, rfl⟩
    have hFb : Kd.F (Kd.slice 3 (Kd.int .i64)) Wb (fun k => k < w.heap.size ∨ W1.heap.size ≤ k) A q.length q := by rw [← hWb]; exact F_put _ hF (fun k hk => by have := Z0.out; omega)
    have hFb' : Kd.F (Kd.int .i64) Wb (fun k => k < w.heap.size) A' y.length y := by rw [← hWb]; exact F_put _ hF' (fun k hk => by have := Z0.out; omega)
    have zb : Wb.heap.size = W3.heap.size := by rw [← hWb, World.putObj_size]
    have hbl : Wb.heap[W0.heap.size + 1]? = some ob := by rw [← hWb]; exact World.putObj_heap_same (by omega)
    have hbd : Wb.heap[W0.heap.size]? = some (.deferred (some [])) := by rw [← hWb, World.putObj_heap_other (by omega)]; exact hd
    have hb0 : Wb.heap[w.heap.size]? = some (.cells #[.int .i64 a1] 3 (0, 0)) := by rw [← hWb, World.putObj_heap_other (by have := Z0.out; omega)]; exact hk0
    have hb1 : Wb.heap[w.heap.size + 1]? = some (.cells #[.bool false] 4 (0, 0)) := by rw [← hWb, World.putObj_heap_other (by have := Z0.out; omega)]; exact hk1
    have hbelow : Below w.heap.size w Wb := by rw [← hWb]; exact below_put hbw3 (by have := Z0.out; omega) _
    have hback : ∀ W', Below Wb.heap.size Wb W' → Below W3.heap.size W3 (W'.putObj (W0.heap.size + 1) (.loop R)) := fun W' h => by
      rw [zb, ← hWb] at h
      exact below_back hl h
    have KS := step_any A c q a1 A' c' y Wb (Kd.F_now hFb) hlc (Kd.F_now hFb') hl' hsm
    rw [← HSV.out] at KS
    have KS' := Aside0.mk KS
    have HB0 := Aside0.mk hb0
    have HB1 := Aside0.mk hb1
    have HBL := Aside0.mk hbl
    have HBD := Aside0.mk hbd
    have HBack := Aside0.mk hback
    have HBelow := Aside0.mk hbelow
    have HOb := Aside0.mk hob
    have hcell : Wb.cell? ⟨w.heap.size, 0, none⟩ = some (.int .i64 a1) := by rw [blk_cell hb0]; rfl
    rw [hWb]
    have HLk := Aside0.mk hl
    have HDk := Aside0.mk hd
    have HZ := Aside0.mk (show W0.heap.size + 1 < Wb.heap.size by omega)
    have HZ0 := Aside0.mk (show w.heap.size + 1 < W0.heap.size by have := Z0.out; omega)
    clear hl hd hk0 hk1 hF hF' hFb hFb' hbl hbd hb0 hb1 hbelow hback KS hWb hob hB hsm hbw3 hlc hl' HSV zb hz
    cases sv with
    | true =>
      gi_wp2_with (refine ⟨trivial, ?_⟩; gi_at_call 20; refine (CallsIn.inRound (W0.heap.size + 1) (callsIn_wide.2 KS'.out)).mono ?_; rintro e w' ⟨rfl, hb⟩; have HBB := Aside0.mk hb; clear hb)
      have hl3 := (HBB.out.block _ HZ.out).trans HBL.out
      rw [← HOb.out] at hl3
      refine ⟨_, _, run_endRound none hl3, rfl, ?_⟩
      have := HBack.out _ HBB.out
      have e : ({ R with state := .ready, pending := none } : Loop) = R := by
        cases R
        simp only at hst hpe
        subst hst hpe
        rfl
      rw [← e] at this
      exact this
    | false =>
      gi_wp2_with (refine ⟨trivial, ?_⟩; gi_at_call 20; refine (CallsIn.inRound (W0.heap.size + 1) (callsIn_wide.2 KS'.out)).mono ?_; rintro e w' ⟨rfl, hb⟩; have HBB := Aside0.mk hb; have hk1 := (hb.block (w.heap.size + 1) (by have := HZ.out; have := HZ0.out; omega)).trans HB1.out; have hc1 : w'.cell? ⟨w.heap.size + 1, 0, none⟩ = some (.bool false) := (by rw [blk_cell hk1]; rfl); have hf1 : w'.frozen? ⟨w.heap.size + 1, 0, none⟩ = false := (by simp [World.frozen?, hk1]); have HK1' := Aside0.mk hk1; clear hb hk1)
      have z1 := HZ0.out
      have hl3 := (HBB.out.block _ HZ.out).trans HBL.out
      rw [← HOb.out] at hl3
      have hl4 := (Below.heap_setCell _ ⟨w.heap.size + 1, 0, none⟩ (.bool false) (W0.heap.size + 1) (by simp only; omega)).trans hl3
      refine ⟨_, _, run_endRound (some .ret) hl4, rfl, ?_⟩
      rw [HJx.out]
      have hlt : W0.heap.size + 1 < (w'.setCell ⟨w.heap.size + 1, 0, none⟩ (.bool false)).heap.size := (Array.getElem?_eq_some_iff.1 hl4).1
      refine ⟨?_, ?_, ?_, ?_⟩
      · exact below_put ((below_then HBelow.out HBelow.out.size HBB.out).setCell (p := ⟨w.heap.size + 1, 0, none⟩) (by simp) _) (by omega) _
      · rw [World.putObj_heap_same hlt]; rfl
      · rw [World.putObj_heap_other (by omega), Below.heap_setCell _ _ _ _ (by simp only; omega), HBB.out.block _ (by have := HZ.out; omega)]; exact HBD.out
      · rw [World.putObj_heap_other (by omega)]
        simp only [World.setCell]
        rw [Array.getElem?_modify]
        simp [HK1'.out]
  case rest =>
    have e0 : ({ R with state := .ready, pending := none } : Loop) = R := by
      cases R
      simp only at hst hpe
      subst hst hpe
      rfl
    have z1 := Z0.out
    rintro e W2 ⟨⟨v, rfl⟩, ⟨hall, hb⟩ | ⟨i, hi, hs, hj⟩⟩
    · refine ⟨⟨_, rfl⟩, none, .ready, ?_, by simp, ?_⟩
      · rw [e0, hb.block _ (by omega)]; exact kL
      · have hz2 := hb.size
        have HE : Aside0 (refOf (l0 ++ p) a1 l3 = r) := ⟨by rw [← HR.out]; exact (check_all p l0 a1 l3 hall).symm⟩
        have hw2 := below_then bw1 bw1.size hb
        obtain ⟨ob, hob⟩ : ∃ ob : Obj, .loop { R with state := .exhausted, pending := none } = ob := ⟨_, rfl⟩
        obtain ⟨W5, hW5⟩ : ∃ W5, W2.putObj (W0.heap.size + 1) ob = W5 := ⟨_, rfl⟩
        have HW5 : Aside0 (Below w.heap.size w W5) := ⟨by rw [← hW5]; exact below_put hw2 (by omega) _⟩
        have z5 : W5.heap.size = W2.heap.size := by rw [← hW5, World.putObj_size]
        have HZ5 := Aside0.mk (show W0.heap.size + 1 < W5.heap.size by omega)
        have HD5 : Aside0 (W5.heap[W0.heap.size]? = some (.deferred (some []))) := ⟨by rw [← hW5, World.putObj_heap_other (by omega), hb.block _ (by omega)]; exact kD⟩
        have HK0 : Aside0 (W5.heap[w.heap.size]? = some (.cells #[.int .i64 a1] 3 (0, 0))) := ⟨by rw [← hW5, World.putObj_heap_other (by omega), hb.block _ (by omega), bW1.block _ (by omega)]; exact K0.out⟩
        have HK1 : Aside0 (W5.heap[w.heap.size + 1]? = some (.cells #[.bool false] 4 (0, 0))) := ⟨by rw [← hW5, World.putObj_heap_other (by omega), hb.block _ (by omega), bW1.block _ (by omega)]; exact K1.out⟩
        have HF05 := Aside0.mk (Kd.F_step HF0.out (fun k hk _ => HW5.out.block k hk))
        have HF25 := Aside0.mk (Kd.F_step HF2.out (fun k hk _ => HW5.out.block k hk))
        have HF35 := Aside0.mk (Kd.C_below HF3.out HW5.out)
        rw [hob, hW5]
        have HZw : Aside0 (w.heap.size + 1 < W5.heap.size) := ⟨by omega⟩
        obtain ⟨q, hq⟩ : ∃ q, l0 ++ p = q := ⟨_, rfl⟩
        have HQ := Aside0.mk hq
        have hsl := small_last HS.out
        rw [hq] at HE hsl
        have HSL := Aside0.mk hsl
        clear hall hb hw2 hob hW5 z5 hz2 kD kL bW1 bw1 zW1 z1 hq hsl
        go_wp2_with (first | ((with_reducible refine gate_builtin (b := .append) (xs := #[.const (.slice none 0 0), .tmp 22]) rfl ?_); at_builtin; refine Kd.N_append_rows (Kd.slice 3 (Kd.int .i64)) (w0 := W5) W5.heap.size rfl (.const (.slice none 0 0)) (.tmp 22) 22 23 (.slice none 0 0) 24 rfl Try.underlying22 info23 rfl (by decide) (by omega) (.slice none 0 0) [] l0 A0 l0.length c0 (fun k => k < w.heap.size ∨ W5.heap.size ≤ k) (fun k => k < w.heap.size) rfl rfl (Kd.N_nil _ _ _ _ _) HF05.out (fun k hk => ⟨.inl hk, by simp [Value.ownBlock]⟩) (fun _ hk => .inr hk) (Below.refl _ _) (Nat.le_refl _) (by have := HS.out.1; simp only [List.length_nil]; omega) ?_; intro v6 w6 ho6 hb6 hg6 hat6; have HO6 := Aside0.mk ho6; have HB6 := Aside0.mk hb6; clear ho6 hb6 hg6 hat6) | ((with_reducible refine gate_builtin (b := .append) (xs := #[.tmp 23, .tmp 24]) rfl ?_); at_builtin; refine Kd.N_append_rows (Kd.slice 3 (Kd.int .i64)) (w0 := W5) W5.heap.size rfl (.tmp 23) (.tmp 24) 22 23 (.slice none 0 0) 24 rfl Try.underlying22 info23 rfl (by decide) (by omega) v6 l0 p A2 p.length c2 (fun k => k < w.heap.size ∨ W5.heap.size ≤ k) (fun k => k < w.heap.size) rfl rfl HO6.out (Kd.F_step HF25.out (fun k hk hk2 => HB6.out.block k hk2)) (fun k hk => ⟨.inl hk, fun e => by have := Kd.N_base HO6.out k e.symm; have := HZw.out; omega⟩) (fun _ hk => .inr (Nat.le_trans HB6.out.size hk)) HB6.out HB6.out.size (by have := HS.out.1; omega) ?_; intro v7 w7 ho7 hb7 hg7 hat7; rw [HQ.out] at ho7; obtain ⟨A7, c7, rfl⟩ := Kd.N_slice ho7; have HO7 := Aside0.mk ho7; have HB7 := Aside0.mk hb7; have hx0 := pw_cell_below hb7 (by rw [blk_cell HK0.out]; rfl : W5.cell? ⟨w.heap.size, 0, none⟩ = some (.int .i64 a1)); clear ho7 hb7 hg7 hat7) | (go_at_call 44; refine (refuted_any A7 q.length c7 a1 _).mono ?_; rintro e w' ⟨rfl, rfl⟩))
        obtain ⟨_, hlc7, hC7⟩ := Kd.N_reads' HO7.out
        obtain ⟨w8, hw8⟩ : ∃ w8, refW w7 A7 q.length c7 a1 = w8 := ⟨_, rfl⟩
        have s1 := alloc_size w7 (.cells #[.slice A7 q.length c7] 22)
        have g1 : w8.heap[w7.heap.size]? = some (.cells #[.slice A7 q.length c7] 22 (0, 0)) := by rw [← hw8, refW, alloc_old _ _ _ (by omega)]; exact alloc_new _ _
        have g2 : w8.heap[w7.heap.size + 1]? = some (.cells #[.int .i64 a1] 3 (0, 0)) := by rw [← hw8, refW, ← s1]; exact alloc_new _ _
        have b8 : Below w7.heap.size w7 w8 := by rw [← hw8]; exact below_alloc (below_alloc (Below.refl _ _) _) _
        have b58 := below_then HB7.out HB7.out.size b8
        have KR := refuted1_any ⟨w7.heap.size, 0, none⟩ ⟨w7.heap.size + 1, 0, none⟩ A7 c7 q a1 A3 c3 l3 w8 (by rw [blk_cell g1]; rfl) (by rw [blk_cell g2]; rfl) (Kd.C_below hC7 b8) hlc7 (Kd.C_below HF35.out b58) HC3.out HSL.out
        rw [HE.out] at KR
        rw [hw8]
        clear s1 g1 g2 hw8 hlc7 hC7 hx0
        refine KR.mono ?_
        rintro e w9 ⟨rfl, hb9⟩
        have b59 := below_then b58 b58.size hb9
        have hk1 := (b59.block (w.heap.size + 1) HZw.out).trans HK1.out
        have hc1 : w9.cell? ⟨w.heap.size + 1, 0, none⟩ = some (.bool false) := by rw [blk_cell hk1]; rfl
        have hf1 : w9.frozen? ⟨w.heap.size + 1, 0, none⟩ = false := by simp [World.frozen?, hk1]
        have HB9 := Aside0.mk b59
        have HK9 := Aside0.mk hk1
        clear KR b8 b58 hb9 b59 hk1
        go_wp2_with fail
        have z1 := Z0.out
        have z5 := HZ5.out
        have hd9 : (w9.setCell ⟨w.heap.size + 1, 0, none⟩ (.bool r)).heap[W0.heap.size]? = some (.deferred (some [])) := by
          rw [Below.heap_setCell _ _ _ _ (by simp only; omega), HB9.out.block _ (by omega)]
          exact HD5.out
        refine ⟨by simp, .inl ⟨_, _, rfl, run_takeDeferred hd9, ?_⟩⟩
        have hk2 : ((w9.setCell ⟨w.heap.size + 1, 0, none⟩ (.bool r)).putObj W0.heap.size (.deferred none)).heap[w.heap.size + 1]? = some (.cells #[.bool r] 4 (0, 0)) := by
          rw [World.putObj_heap_other (by omega)]
          simp only [World.setCell]
          rw [Array.getElem?_modify]
          simp [HK9.out]
        refine ⟨.bool r, ?_, rfl, below_put ((below_then HW5.out HW5.out.size HB9.out).setCell (p := ⟨w.heap.size + 1, 0, none⟩) (by simp) _) (by omega) _⟩
        simp [results, Try.f22, go_sem, blk_cell hk2]
    · rw [HJx.out] at hj
      obtain ⟨hbw, hl, hd, hc⟩ := hj
      have hlt : W0.heap.size + 1 < W2.heap.size := (Array.getElem?_eq_some_iff.1 hl).1
      have hr : r = false := by rw [← HR.out]; exact check_some p l0 a1 l3 i hi hs
      refine ⟨⟨_, rfl⟩, some .ret, .done, hl, by simp, ?_⟩
      obtain ⟨ob, hob⟩ : ∃ ob : Obj, .loop { R with state := .exhausted, pending := some .ret } = ob := ⟨_, rfl⟩
      rw [hob]
      have hd5 : (W2.putObj (W0.heap.size + 1) ob).heap[W0.heap.size]? = some (.deferred (some [])) := by rw [World.putObj_heap_other (by omega)]; exact hd
      have hc5 : ((W2.putObj (W0.heap.size + 1) ob).putObj W0.heap.size (.deferred none)).heap[w.heap.size + 1]? = some (.cells #[.bool false] 4 (0, 0)) := by rw [World.putObj_heap_other (by omega), World.putObj_heap_other (by omega)]; exact hc
      have hb5 : Below w.heap.size w ((W2.putObj (W0.heap.size + 1) ob).putObj W0.heap.size (.deferred none)) := below_put (below_put hbw (by omega) _) (by omega) _
      have HD5 := Aside0.mk hd5
      have HC5 := Aside0.mk hc5
      have HB5 := Aside0.mk hb5
      clear hd5 hc5 hb5 hob hd hc hl hbw hs z1
      go_wp2_with fail
      refine ⟨by simp, .inl ⟨_, _, rfl, run_takeDeferred HD5.out, ?_⟩⟩
      refine ⟨.bool false, ?_, by rw [hr], HB5.out⟩
      simp [results, Try.f22, go_sem, blk_cell HC5.out]
end Go.Proofs.Ytdlfmobnmcamaaa.Q
