/- Scope: walks and plain laws of this seat's functions, merged out of smaller texts of this session (ScD, ScE). -/
import Derived.Test.YtnfhlhjbmcofoaaM01
import Derived.Test.YtnfhlhjbmcofoaaSOpens
import Derived.BigQuiet
namespace Go.Proofs.Ytnfhlhjbmcofoaa.S
open Go.RowKit Go.Proofs.YtnfhlhjbmcofoaaW.PrintWords Go.Proofs.YtnfhlhjbmcofoaaW.PrintLast
set_option linter.unusedVariables false
set_option linter.unusedSimpArgs false
/-- What is wrong with numbers: one has a name that is no param's. -/
def dimsS (ps : List ByteArray) (l : List S42) : Int := if l.any (freeS ps) = true then 40 else 0
theorem dims2 (ps : List ByteArray) (a b : S42) : dimsS ps [a, b] = if (freeS ps a || freeS ps b) = true then 40 else 0 := by simp [dimsS]
/-- What is wrong with an expression itself. -/
def ownS (l : List S34) (m : S34) (op : Int) (val wid hi lo : S42) (nm : ByteArray) : Int :=
  if op = 1 then dimsS m.f1 [wid, val] else if op = 18 then dimsS m.f1 [hi, lo] else if op = 19 then amongS (kindS m nm).1 6 6 6 else if op = 2 then refS l m nm else 0
mutual
/-- What is wrong first with an expression. -/
def exprS (l : List S34) (m : S34) : S47 → Int
  | ⟨op, val, wid, hi, lo, nm, kids⟩ => if (kids.length : Int) ≠ takesS op then 1 else if ownS l m op val wid hi lo nm ≠ 0 then ownS l m op val wid hi lo nm else kidsS l m kids
def kidsS (l : List S34) (m : S34) : List S47 → Int
  | [] => 0
  | e :: r => if exprS l m e ≠ 0 then exprS l m e else kidsS l m r
end
theorem kids_step (l : List S34) (m : S34) (kids : List S47) (i : Nat) (h : i < kids.length) : kidsS l m (kids.drop i) = if exprS l m kids[i] ≠ 0 then exprS l m kids[i] else kidsS l m (kids.drop (i + 1)) := by
  rw [List.drop_eq_getElem_cons h, kidsS]
theorem kid_size {op : Int} {val wid hi lo : S42} {nm : ByteArray} {kids : List S47} {x : S47} (h : x ∈ kids) {N : Nat} (hN : SizeOf.sizeOf (⟨op, val, wid, hi, lo, nm, kids⟩ : S47) < N + 1) : SizeOf.sizeOf x < N := by
  have h1 := List.sizeOf_lt_of_mem h
  simp only [S47.mk.sizeOf_spec] at hN
  omega
theorem ownS_1 (l : List S34) (m : S34) (val wid hi lo : S42) (nm : ByteArray) : ownS l m 1 val wid hi lo nm = dimsS m.f1 [wid, val] := rfl
theorem ownS_18 (l : List S34) (m : S34) (val wid hi lo : S42) (nm : ByteArray) : ownS l m 18 val wid hi lo nm = dimsS m.f1 [hi, lo] := rfl
theorem ownS_19 (l : List S34) (m : S34) (val wid hi lo : S42) (nm : ByteArray) : ownS l m 19 val wid hi lo nm = amongS (kindS m nm).1 6 6 6 := rfl
theorem ownS_2 (l : List S34) (m : S34) (val wid hi lo : S42) (nm : ByteArray) : ownS l m 2 val wid hi lo nm = refS l m nm := rfl
set_option maxHeartbeats 16000000 in
theorem expr_any (N : Nat) : ∀ (e : S47), SizeOf.sizeOf e < N → ∀ (A0 : Option Addr) (c0 : Nat) (l : List S34) (m : S34) (cs ces : List Value) (w : World), Kd.C k34 w A0 l.length l → k34.K w m cs → k47.K w e ces → B47 e →
    Calls Try.prog 52 #[.agg #[.slice A0 l.length c0], .agg cs.toArray, .agg ces.toArray] w fun e' w' => e' = .returned (.int .i64 (exprS l m e)) ∧ Below w.heap.size w w' := by
  induction N with
  | zero => intro e h; omega
  | succ N ih0 =>
  rintro ⟨op, val, wid, hi, lo, nm, kids⟩ hN A0 c0 l m cs ces w h0 h he hB
  have ih := fun (x : S47) (hx : SizeOf.sizeOf (⟨op, val, wid, hi, lo, nm, kids⟩ : S47) < N + 1 → SizeOf.sizeOf x < N) => ih0 x (hx hN)
  have HC := Aside0.mk h0
  have HM := Aside0.mk h
  obtain ⟨A1, c1, A2, c2, A3, c3, rfl, hl1, hC1, hl2, hC2, hl3, hC3⟩ := k34_open h
  obtain ⟨A10, c10, rfl, hl10, hC10⟩ := k47_open he
  simp only at hl10 hC10
  have HC5 := Aside0.mk hC10
  have hm : kids.length ≤ 9223372036854775807 := hC10.2.1
  obtain ⟨_, hB1, hB2, hB3⟩ := hB
  have HBK := Aside0.mk hB3
  have hs : nm.size ≤ 9223372036854775807 := by have := hB1.2.2.2.2.2; simp at this; omega
  have KA := Aside0.mk (fun w' cs' (hb : k34.K w' m cs') => among_any m cs' nm 6 6 6 w' hb)
  have KR := Aside0.mk (fun w' cs' (hD : Kd.C k34 w' A0 l.length l) (hb : k34.K w' m cs') => ref_any A0 c0 l m cs' nm w' hD hb hs)
  rw [exprS]
  obtain ⟨z, hz⟩ : ∃ z, kidsS l m kids = z := ⟨_, rfl⟩
  have HZ := Aside0.mk hz
  rw [hz]
  obtain ⟨t, ht⟩ : ∃ t, takesS op = t := ⟨_, rfl⟩
  have KT := Aside0.mk (fun w' => takes_any op w')
  rw [ht] at KT ⊢
  have HT := Aside0.mk ht
  clear ht hB1 hB2 hB3 hz h0 h he hl1 hC1 hl2 hC2 hl3 hC3 hl10 hC10 hs ih0 hN
  have HKA : Aside0 ((((w.alloc (.cells #[.slice A0 l.length c0] 24)).alloc (.cells #[.string m.f0, .slice A1 m.f1.length c1, .slice A2 m.f2.length c2, .slice A3 m.f3.length c3] 34)).alloc (.cells #[.int .i64 op, .string val.f0, .int .i64 val.f1, .string wid.f0, .int .i64 wid.f1, .string hi.f0, .int .i64 hi.f1, .string lo.f0, .int .i64 lo.f1, .string nm, .slice A10 kids.length c10] 47)).heap[w.heap.size]? = some (.cells #[.slice A0 l.length c0] 24 (0, 0))) := ⟨by rw [alloc_old _ _ _ (by simp; omega), alloc_old _ _ _ (by simp)]; exact alloc_new _ _⟩
  have HKB : Aside0 ((((w.alloc (.cells #[.slice A0 l.length c0] 24)).alloc (.cells #[.string m.f0, .slice A1 m.f1.length c1, .slice A2 m.f2.length c2, .slice A3 m.f3.length c3] 34)).alloc (.cells #[.int .i64 op, .string val.f0, .int .i64 val.f1, .string wid.f0, .int .i64 wid.f1, .string hi.f0, .int .i64 hi.f1, .string lo.f0, .int .i64 lo.f1, .string nm, .slice A10 kids.length c10] 47)).heap[w.heap.size + 1]? = some (.cells #[.string m.f0, .slice A1 m.f1.length c1, .slice A2 m.f2.length c2, .slice A3 m.f3.length c3] 34 (0, 0))) := ⟨by rw [alloc_old _ _ _ (by simp), ← alloc_size w (.cells #[.slice A0 l.length c0] 24)]; exact alloc_new _ _⟩
  have HKC : Aside0 ((((w.alloc (.cells #[.slice A0 l.length c0] 24)).alloc (.cells #[.string m.f0, .slice A1 m.f1.length c1, .slice A2 m.f2.length c2, .slice A3 m.f3.length c3] 34)).alloc (.cells #[.int .i64 op, .string val.f0, .int .i64 val.f1, .string wid.f0, .int .i64 wid.f1, .string hi.f0, .int .i64 hi.f1, .string lo.f0, .int .i64 lo.f1, .string nm, .slice A10 kids.length c10] 47)).heap[w.heap.size + 2]? = some (.cells #[.int .i64 op, .string val.f0, .int .i64 val.f1, .string wid.f0, .int .i64 wid.f1, .string hi.f0, .int .i64 hi.f1, .string lo.f0, .int .i64 lo.f1, .string nm, .slice A10 kids.length c10] 47 (0, 0))) := ⟨by rw [show w.heap.size + 2 = ((w.alloc (.cells #[.slice A0 l.length c0] 24)).alloc (.cells #[.string m.f0, .slice A1 m.f1.length c1, .slice A2 m.f2.length c2, .slice A3 m.f3.length c3] 34)).heap.size by simp]; exact alloc_new _ _⟩
  have HBA : Aside0 (Below w.heap.size w (((w.alloc (.cells #[.slice A0 l.length c0] 24)).alloc (.cells #[.string m.f0, .slice A1 m.f1.length c1, .slice A2 m.f2.length c2, .slice A3 m.f3.length c3] 34)).alloc (.cells #[.int .i64 op, .string val.f0, .int .i64 val.f1, .string wid.f0, .int .i64 wid.f1, .string hi.f0, .int .i64 hi.f1, .string lo.f0, .int .i64 lo.f1, .string nm, .slice A10 kids.length c10] 47))) := ⟨below_alloc (below_alloc (below_alloc (Below.refl _ _) _) _) _⟩
  by_cases h1 : (kids.length : Int) ≠ t
  · rw [if_pos h1]
    go_enter Try.func52, Try.ntmps52
    go_wp2
    go_quiet ((go_at_call 61; exact Calls.quiet_of_same (KT.out _)))
    go_wp2
    go_ret
    exact ⟨rfl, pw_below_drewN HBA.out _⟩
  · rw [if_neg h1]
    obtain ⟨r, hr⟩ : ∃ r, (if ownS l m op val wid hi lo nm ≠ 0 then ownS l m op val wid hi lo nm else z) = r := ⟨_, rfl⟩
    rw [hr]
    by_cases o1 : op = 1
    · subst o1
      rw [ownS_1, dims2] at hr
      have F1 := Aside0.mk (fun w' (hb : Below w.heap.size w w') => free_any m _ wid w' (k34.K_below hb HM.out))
      have F2 := Aside0.mk (fun w' (hb : Below w.heap.size w w') => free_any m _ val w' (k34.K_below hb HM.out))
      obtain ⟨b1, hb1⟩ : ∃ b, freeS m.f1 wid = b := ⟨_, rfl⟩
      obtain ⟨b2, hb2⟩ : ∃ b, freeS m.f1 val = b := ⟨_, rfl⟩
      rw [hb1] at F1 hr
      rw [hb2] at F2 hr
      have HR := Aside0.mk hr
      clear hb1 hb2 hr
      have h1' : ((kids.length : Int) != t) = false := by simpa using h1
      go_enter Try.func52, Try.ntmps52
      go_wp2
      go_quiet ((go_at_call 61; exact Calls.quiet_of_same (KT.out _)))
      generalize hgw : World.drewN _ _ = wq
      replace HKA : Aside0 (wq.heap[w.heap.size]? = some (.cells #[.slice A0 l.length c0] 24 (0, 0))) := ⟨by rw [← hgw]; exact HKA.out⟩
      replace HKB : Aside0 (wq.heap[w.heap.size + 1]? = some (.cells #[.string m.f0, .slice A1 m.f1.length c1, .slice A2 m.f2.length c2, .slice A3 m.f3.length c3] 34 (0, 0))) := ⟨by rw [← hgw]; exact HKB.out⟩
      replace HKC : Aside0 (wq.heap[w.heap.size + 2]? = some (.cells #[.int .i64 1, .string val.f0, .int .i64 val.f1, .string wid.f0, .int .i64 wid.f1, .string hi.f0, .int .i64 hi.f1, .string lo.f0, .int .i64 lo.f1, .string nm, .slice A10 kids.length c10] 47 (0, 0))) := ⟨by rw [← hgw]; exact HKC.out⟩
      replace HBA : Aside0 (Below w.heap.size w wq) := ⟨by rw [← hgw]; exact pw_below_drewN HBA.out _⟩
      clear hgw
      have hk3 : wq.cell? ⟨w.heap.size, 0, none⟩ = some (.slice A0 l.length c0) := blk_cell HKA.out 0
      have hk40 : wq.cell? ⟨w.heap.size + 1, 0, none⟩ = some (.string m.f0) := blk_cell HKB.out 0
      have hk41 : wq.cell? ⟨w.heap.size + 1, 1, none⟩ = some (.slice A1 m.f1.length c1) := blk_cell HKB.out 1
      have hk42 : wq.cell? ⟨w.heap.size + 1, 2, none⟩ = some (.slice A2 m.f2.length c2) := blk_cell HKB.out 2
      have hk43 : wq.cell? ⟨w.heap.size + 1, 3, none⟩ = some (.slice A3 m.f3.length c3) := blk_cell HKB.out 3
      have hk50 : wq.cell? ⟨w.heap.size + 2, 0, none⟩ = some (.int .i64 1) := blk_cell HKC.out 0
      have hk51 : wq.cell? ⟨w.heap.size + 2, 1, none⟩ = some (.string val.f0) := blk_cell HKC.out 1
      have hk52 : wq.cell? ⟨w.heap.size + 2, 2, none⟩ = some (.int .i64 val.f1) := blk_cell HKC.out 2
      have hk53 : wq.cell? ⟨w.heap.size + 2, 3, none⟩ = some (.string wid.f0) := blk_cell HKC.out 3
      have hk54 : wq.cell? ⟨w.heap.size + 2, 4, none⟩ = some (.int .i64 wid.f1) := blk_cell HKC.out 4
      have hk55 : wq.cell? ⟨w.heap.size + 2, 5, none⟩ = some (.string hi.f0) := blk_cell HKC.out 5
      have hk56 : wq.cell? ⟨w.heap.size + 2, 6, none⟩ = some (.int .i64 hi.f1) := blk_cell HKC.out 6
      have hk57 : wq.cell? ⟨w.heap.size + 2, 7, none⟩ = some (.string lo.f0) := blk_cell HKC.out 7
      have hk58 : wq.cell? ⟨w.heap.size + 2, 8, none⟩ = some (.int .i64 lo.f1) := blk_cell HKC.out 8
      have hk59 : wq.cell? ⟨w.heap.size + 2, 9, none⟩ = some (.string nm) := blk_cell HKC.out 9
      go_wp2_with fail
      refine (F1.out _ HBA.out).mono ?_
      rintro e w1 ⟨rfl, hb⟩
      clear hk3 hk40 hk41 hk42 hk43 hk50 hk51 hk52 hk53 hk54 hk55 hk56 hk57 hk58 hk59
      replace HKA := Aside0.mk ((hb.block _ (by have := blk_lt HKC.out; simp at this ⊢; omega)).trans HKA.out)
      replace HKB := Aside0.mk ((hb.block _ (by have := blk_lt HKC.out; simp at this ⊢; omega)).trans HKB.out)
      replace HKC := Aside0.mk ((hb.block _ (by have := blk_lt HKC.out; simp at this ⊢; omega)).trans HKC.out)
      replace HBA := Aside0.mk (below_step HBA.out hb)
      clear hb
      have hk3 : w1.cell? ⟨w.heap.size, 0, none⟩ = some (.slice A0 l.length c0) := blk_cell HKA.out 0
      have hk40 : w1.cell? ⟨w.heap.size + 1, 0, none⟩ = some (.string m.f0) := blk_cell HKB.out 0
      have hk41 : w1.cell? ⟨w.heap.size + 1, 1, none⟩ = some (.slice A1 m.f1.length c1) := blk_cell HKB.out 1
      have hk42 : w1.cell? ⟨w.heap.size + 1, 2, none⟩ = some (.slice A2 m.f2.length c2) := blk_cell HKB.out 2
      have hk43 : w1.cell? ⟨w.heap.size + 1, 3, none⟩ = some (.slice A3 m.f3.length c3) := blk_cell HKB.out 3
      have hk50 : w1.cell? ⟨w.heap.size + 2, 0, none⟩ = some (.int .i64 1) := blk_cell HKC.out 0
      have hk51 : w1.cell? ⟨w.heap.size + 2, 1, none⟩ = some (.string val.f0) := blk_cell HKC.out 1
      have hk52 : w1.cell? ⟨w.heap.size + 2, 2, none⟩ = some (.int .i64 val.f1) := blk_cell HKC.out 2
      have hk53 : w1.cell? ⟨w.heap.size + 2, 3, none⟩ = some (.string wid.f0) := blk_cell HKC.out 3
      have hk54 : w1.cell? ⟨w.heap.size + 2, 4, none⟩ = some (.int .i64 wid.f1) := blk_cell HKC.out 4
      have hk55 : w1.cell? ⟨w.heap.size + 2, 5, none⟩ = some (.string hi.f0) := blk_cell HKC.out 5
      have hk56 : w1.cell? ⟨w.heap.size + 2, 6, none⟩ = some (.int .i64 hi.f1) := blk_cell HKC.out 6
      have hk57 : w1.cell? ⟨w.heap.size + 2, 7, none⟩ = some (.string lo.f0) := blk_cell HKC.out 7
      have hk58 : w1.cell? ⟨w.heap.size + 2, 8, none⟩ = some (.int .i64 lo.f1) := blk_cell HKC.out 8
      have hk59 : w1.cell? ⟨w.heap.size + 2, 9, none⟩ = some (.string nm) := blk_cell HKC.out 9
      go_wp2_with fail
      refine (F2.out _ HBA.out).mono ?_
      rintro e w2 ⟨rfl, hb⟩
      clear hk3 hk40 hk41 hk42 hk43 hk50 hk51 hk52 hk53 hk54 hk55 hk56 hk57 hk58 hk59
      replace HKA := Aside0.mk ((hb.block _ (by have := blk_lt HKC.out; simp at this ⊢; omega)).trans HKA.out)
      replace HKB := Aside0.mk ((hb.block _ (by have := blk_lt HKC.out; simp at this ⊢; omega)).trans HKB.out)
      replace HKC := Aside0.mk ((hb.block _ (by have := blk_lt HKC.out; simp at this ⊢; omega)).trans HKC.out)
      replace HBA := Aside0.mk (below_step HBA.out hb)
      clear hb
      have hk3 : w2.cell? ⟨w.heap.size, 0, none⟩ = some (.slice A0 l.length c0) := blk_cell HKA.out 0
      have hk40 : w2.cell? ⟨w.heap.size + 1, 0, none⟩ = some (.string m.f0) := blk_cell HKB.out 0
      have hk41 : w2.cell? ⟨w.heap.size + 1, 1, none⟩ = some (.slice A1 m.f1.length c1) := blk_cell HKB.out 1
      have hk42 : w2.cell? ⟨w.heap.size + 1, 2, none⟩ = some (.slice A2 m.f2.length c2) := blk_cell HKB.out 2
      have hk43 : w2.cell? ⟨w.heap.size + 1, 3, none⟩ = some (.slice A3 m.f3.length c3) := blk_cell HKB.out 3
      have hk50 : w2.cell? ⟨w.heap.size + 2, 0, none⟩ = some (.int .i64 1) := blk_cell HKC.out 0
      have hk51 : w2.cell? ⟨w.heap.size + 2, 1, none⟩ = some (.string val.f0) := blk_cell HKC.out 1
      have hk52 : w2.cell? ⟨w.heap.size + 2, 2, none⟩ = some (.int .i64 val.f1) := blk_cell HKC.out 2
      have hk53 : w2.cell? ⟨w.heap.size + 2, 3, none⟩ = some (.string wid.f0) := blk_cell HKC.out 3
      have hk54 : w2.cell? ⟨w.heap.size + 2, 4, none⟩ = some (.int .i64 wid.f1) := blk_cell HKC.out 4
      have hk55 : w2.cell? ⟨w.heap.size + 2, 5, none⟩ = some (.string hi.f0) := blk_cell HKC.out 5
      have hk56 : w2.cell? ⟨w.heap.size + 2, 6, none⟩ = some (.int .i64 hi.f1) := blk_cell HKC.out 6
      have hk57 : w2.cell? ⟨w.heap.size + 2, 7, none⟩ = some (.string lo.f0) := blk_cell HKC.out 7
      have hk58 : w2.cell? ⟨w.heap.size + 2, 8, none⟩ = some (.int .i64 lo.f1) := blk_cell HKC.out 8
      have hk59 : w2.cell? ⟨w.heap.size + 2, 9, none⟩ = some (.string nm) := blk_cell HKC.out 9
      cases b1 <;> cases b2
      · obtain rfl : z = r := HR.out
        go_wp2
        have HX := HKA
        clear hk3 hk40 hk41 hk42 hk43 hk50 hk51 hk52 hk53 hk54 hk55 hk56 hk57 hk58 hk59
        go_loopw [12] (fun v wr => ∃ i : Nat, v = .int .i64 (i : Int) ∧ i ≤ kids.length ∧ Aside0 (kidsS l m (kids.drop i) = z) ∧ Aside0 (wr.heap[w.heap.size]? = some (.cells #[.slice A0 l.length c0] 24 (0, 0))) ∧ Aside0 (wr.heap[w.heap.size + 1]? = some (.cells #[.string m.f0, .slice A1 m.f1.length c1, .slice A2 m.f2.length c2, .slice A3 m.f3.length c3] 34 (0, 0))) ∧ Aside0 (wr.heap[w.heap.size + 2]? = some (.cells #[.int .i64 1, .string val.f0, .int .i64 val.f1, .string wid.f0, .int .i64 wid.f1, .string hi.f0, .int .i64 hi.f1, .string lo.f0, .int .i64 lo.f1, .string nm, .slice A10 kids.length c10] 47 (0, 0))) ∧ Aside0 (Below w.heap.size w wr)) (fun v _ => kids.length - (intOf v).toNat)
        case atStart => exact ⟨0, rfl, Nat.zero_le _, ⟨HZ.out⟩, HKA, HKB, HKC, HBA⟩
        case round =>
          clear HKA HKB HKC HBA
          obtain ⟨i, rfl, hi, HI, HK3, HK4, HK5, HB⟩ := hrel
          have hk3 : wr.cell? ⟨w.heap.size, 0, none⟩ = some (.slice A0 l.length c0) := blk_cell HK3.out 0
          have hk40 : wr.cell? ⟨w.heap.size + 1, 0, none⟩ = some (.string m.f0) := blk_cell HK4.out 0
          have hk41 : wr.cell? ⟨w.heap.size + 1, 1, none⟩ = some (.slice A1 m.f1.length c1) := blk_cell HK4.out 1
          have hk42 : wr.cell? ⟨w.heap.size + 1, 2, none⟩ = some (.slice A2 m.f2.length c2) := blk_cell HK4.out 2
          have hk43 : wr.cell? ⟨w.heap.size + 1, 3, none⟩ = some (.slice A3 m.f3.length c3) := blk_cell HK4.out 3
          have hk5 : wr.cell? ⟨w.heap.size + 2, 10, none⟩ = some (.slice A10 kids.length c10) := blk_cell HK5.out 10
          have hz0 : w.heap.size + 2 < wr.heap.size := blk_lt HK5.out
          have hz1 : w.heap.size + 1 < wr.heap.size := by omega
          have hz2 : w.heap.size < wr.heap.size := by omega
          by_cases hlt : i < kids.length
          · obtain ⟨ad, E10, e10, rfl, hx0, hx1, hx2, hx3, hx4, hx5, hx6, hx7, hx8, hx9, hx10, hle, hCe⟩ := at47 (Kd.C_below HC5.out HB.out) i hlt
            have HKE := Aside0.mk (k47_mk wr kids[i] hle hCe)
            have IHX := Aside0.mk (fun w' ces (hD : Kd.C k34 w' A0 l.length l) (hM : k34.K w' m [.string m.f0, .slice A1 m.f1.length c1, .slice A2 m.f2.length c2, .slice A3 m.f3.length c3]) (hE : k47.K w' kids[i] ces) => ih kids[i] (kid_size (List.getElem_mem hlt)) A0 c0 l m _ ces w' hD hM hE (HBK.out kids[i] (List.getElem_mem hlt)))
            have hks := kids_step l m kids i hlt
            obtain ⟨x, hx⟩ : ∃ x, kids[i] = x := ⟨_, rfl⟩
            rw [hx] at hx0 hx1 hx2 hx3 hx4 hx5 hx6 hx7 hx8 hx9 hx10 HKE IHX hks
            obtain ⟨b, hb0⟩ : ∃ b, exprS l m x = b := ⟨_, rfl⟩
            rw [hb0] at IHX hks
            have HKS := Aside0.mk (hks.symm.trans HI.out)
            have hbk : (ad.add (i * 11)).block < wr.heap.size := World.block_lt_of_cell? wr _ hx0
            clear hks hb0 hx hle hCe
            go_wp2
            go_region_held3 (fun w' => w'.cell? ⟨w.heap.size, 0, none⟩ = some (.slice A0 l.length c0) ∧ w'.cell? ⟨w.heap.size + 1, 0, none⟩ = some (.string m.f0) ∧ w'.cell? ⟨w.heap.size + 1, 1, none⟩ = some (.slice A1 m.f1.length c1) ∧ w'.cell? ⟨w.heap.size + 1, 2, none⟩ = some (.slice A2 m.f2.length c2) ∧ w'.cell? ⟨w.heap.size + 1, 3, none⟩ = some (.slice A3 m.f3.length c3) ∧ w'.cell? ⟨w.heap.size + 2, 10, none⟩ = some (.slice (some ad) kids.length c10) ∧ w'.cell? (ad.add (i * 11)) = some (.int .i64 x.f0) ∧ w'.cell? ⟨(ad.add (i * 11)).block, (ad.add (i * 11)).off + 1, none⟩ = some (.string x.f1.f0) ∧ w'.cell? ⟨(ad.add (i * 11)).block, (ad.add (i * 11)).off + 2, none⟩ = some (.int .i64 x.f1.f1) ∧ w'.cell? ⟨(ad.add (i * 11)).block, (ad.add (i * 11)).off + 3, none⟩ = some (.string x.f2.f0) ∧ w'.cell? ⟨(ad.add (i * 11)).block, (ad.add (i * 11)).off + 4, none⟩ = some (.int .i64 x.f2.f1) ∧ w'.cell? ⟨(ad.add (i * 11)).block, (ad.add (i * 11)).off + 5, none⟩ = some (.string x.f3.f0) ∧ w'.cell? ⟨(ad.add (i * 11)).block, (ad.add (i * 11)).off + 6, none⟩ = some (.int .i64 x.f3.f1) ∧ w'.cell? ⟨(ad.add (i * 11)).block, (ad.add (i * 11)).off + 7, none⟩ = some (.string x.f4.f0) ∧ w'.cell? ⟨(ad.add (i * 11)).block, (ad.add (i * 11)).off + 8, none⟩ = some (.int .i64 x.f4.f1) ∧ w'.cell? ⟨(ad.add (i * 11)).block, (ad.add (i * 11)).off + 9, none⟩ = some (.string x.f5) ∧ w'.cell? ⟨(ad.add (i * 11)).block, (ad.add (i * 11)).off + 10, none⟩ = some (.slice E10 x.f6.length e10))
              (go_keep)
              (first | (go_at_call 52; refine (IHX.out _ _ (Kd.C_below HC.out (below_drew HB.out)) (k34.K_below (below_drew HB.out) HM.out) (k47.K_below (below_drew (Below.refl _ _)) HKE.out)).mono ?_; rintro e w2 ⟨rfl, hb⟩; obtain ⟨hc, hf⟩ := bcell (below_step (below_drew (Below.refl wr.heap.size wr)) hb)))
            clear hc hf
            go_wp2
            · have hq : (b != 0) = true := by assumption
              have HE : Aside0 (z = b) := ⟨by rw [← HKS.out, if_pos (by simpa using hq)]⟩
              go_ret
              exact ⟨by rw [HE.out]; rfl, below_step (below_drew HB.out) hb⟩
            · have hq : (b != 0) = false := by assumption
              have HE : Aside0 (kidsS l m (kids.drop (i + 1)) = z) := ⟨by rw [← HKS.out, if_neg (by simpa using hq)]⟩
              go_roundw
              case rel => exact ⟨i + 1, by go_num, by omega, HE, ⟨(hb.block _ (by simp; omega)).trans HK3.out⟩, ⟨(hb.block _ (by simp; omega)).trans HK4.out⟩, ⟨(hb.block _ (by simp; omega)).trans HK5.out⟩, ⟨below_step (below_drew HB.out) hb⟩⟩
              case measure => simp [intOf]; omega
          · have HE : Aside0 (z = 0) := ⟨by rw [← HI.out, List.drop_eq_nil_of_le (by omega)]; simp [kidsS]⟩
            go_wp2
            go_ret
            exact ⟨by rw [HE.out]; rfl, HB.out⟩
      all_goals (have HE : Aside0 (r = 40) := ⟨HR.out.symm⟩; go_wp2; go_ret; exact ⟨by rw [HE.out]; rfl, HBA.out⟩)
    by_cases o18 : op = 18
    · subst o18
      rw [ownS_18, dims2] at hr
      have F1 := Aside0.mk (fun w' (hb : Below w.heap.size w w') => free_any m _ hi w' (k34.K_below hb HM.out))
      have F2 := Aside0.mk (fun w' (hb : Below w.heap.size w w') => free_any m _ lo w' (k34.K_below hb HM.out))
      obtain ⟨b1, hb1⟩ : ∃ b, freeS m.f1 hi = b := ⟨_, rfl⟩
      obtain ⟨b2, hb2⟩ : ∃ b, freeS m.f1 lo = b := ⟨_, rfl⟩
      rw [hb1] at F1 hr
      rw [hb2] at F2 hr
      have HR := Aside0.mk hr
      clear hb1 hb2 hr
      have h1' : ((kids.length : Int) != t) = false := by simpa using h1
      go_enter Try.func52, Try.ntmps52
      go_wp2
      go_quiet ((go_at_call 61; exact Calls.quiet_of_same (KT.out _)))
      generalize hgw : World.drewN _ _ = wq
      replace HKA : Aside0 (wq.heap[w.heap.size]? = some (.cells #[.slice A0 l.length c0] 24 (0, 0))) := ⟨by rw [← hgw]; exact HKA.out⟩
      replace HKB : Aside0 (wq.heap[w.heap.size + 1]? = some (.cells #[.string m.f0, .slice A1 m.f1.length c1, .slice A2 m.f2.length c2, .slice A3 m.f3.length c3] 34 (0, 0))) := ⟨by rw [← hgw]; exact HKB.out⟩
      replace HKC : Aside0 (wq.heap[w.heap.size + 2]? = some (.cells #[.int .i64 18, .string val.f0, .int .i64 val.f1, .string wid.f0, .int .i64 wid.f1, .string hi.f0, .int .i64 hi.f1, .string lo.f0, .int .i64 lo.f1, .string nm, .slice A10 kids.length c10] 47 (0, 0))) := ⟨by rw [← hgw]; exact HKC.out⟩
      replace HBA : Aside0 (Below w.heap.size w wq) := ⟨by rw [← hgw]; exact pw_below_drewN HBA.out _⟩
      clear hgw
      have hk3 : wq.cell? ⟨w.heap.size, 0, none⟩ = some (.slice A0 l.length c0) := blk_cell HKA.out 0
      have hk40 : wq.cell? ⟨w.heap.size + 1, 0, none⟩ = some (.string m.f0) := blk_cell HKB.out 0
      have hk41 : wq.cell? ⟨w.heap.size + 1, 1, none⟩ = some (.slice A1 m.f1.length c1) := blk_cell HKB.out 1
      have hk42 : wq.cell? ⟨w.heap.size + 1, 2, none⟩ = some (.slice A2 m.f2.length c2) := blk_cell HKB.out 2
      have hk43 : wq.cell? ⟨w.heap.size + 1, 3, none⟩ = some (.slice A3 m.f3.length c3) := blk_cell HKB.out 3
      have hk50 : wq.cell? ⟨w.heap.size + 2, 0, none⟩ = some (.int .i64 18) := blk_cell HKC.out 0
      have hk51 : wq.cell? ⟨w.heap.size + 2, 1, none⟩ = some (.string val.f0) := blk_cell HKC.out 1
      have hk52 : wq.cell? ⟨w.heap.size + 2, 2, none⟩ = some (.int .i64 val.f1) := blk_cell HKC.out 2
      have hk53 : wq.cell? ⟨w.heap.size + 2, 3, none⟩ = some (.string wid.f0) := blk_cell HKC.out 3
      have hk54 : wq.cell? ⟨w.heap.size + 2, 4, none⟩ = some (.int .i64 wid.f1) := blk_cell HKC.out 4
      have hk55 : wq.cell? ⟨w.heap.size + 2, 5, none⟩ = some (.string hi.f0) := blk_cell HKC.out 5
      have hk56 : wq.cell? ⟨w.heap.size + 2, 6, none⟩ = some (.int .i64 hi.f1) := blk_cell HKC.out 6
      have hk57 : wq.cell? ⟨w.heap.size + 2, 7, none⟩ = some (.string lo.f0) := blk_cell HKC.out 7
      have hk58 : wq.cell? ⟨w.heap.size + 2, 8, none⟩ = some (.int .i64 lo.f1) := blk_cell HKC.out 8
      have hk59 : wq.cell? ⟨w.heap.size + 2, 9, none⟩ = some (.string nm) := blk_cell HKC.out 9
      go_wp2_with fail
      refine (F1.out _ HBA.out).mono ?_
      rintro e w1 ⟨rfl, hb⟩
      clear hk3 hk40 hk41 hk42 hk43 hk50 hk51 hk52 hk53 hk54 hk55 hk56 hk57 hk58 hk59
      replace HKA := Aside0.mk ((hb.block _ (by have := blk_lt HKC.out; simp at this ⊢; omega)).trans HKA.out)
      replace HKB := Aside0.mk ((hb.block _ (by have := blk_lt HKC.out; simp at this ⊢; omega)).trans HKB.out)
      replace HKC := Aside0.mk ((hb.block _ (by have := blk_lt HKC.out; simp at this ⊢; omega)).trans HKC.out)
      replace HBA := Aside0.mk (below_step HBA.out hb)
      clear hb
      have hk3 : w1.cell? ⟨w.heap.size, 0, none⟩ = some (.slice A0 l.length c0) := blk_cell HKA.out 0
      have hk40 : w1.cell? ⟨w.heap.size + 1, 0, none⟩ = some (.string m.f0) := blk_cell HKB.out 0
      have hk41 : w1.cell? ⟨w.heap.size + 1, 1, none⟩ = some (.slice A1 m.f1.length c1) := blk_cell HKB.out 1
      have hk42 : w1.cell? ⟨w.heap.size + 1, 2, none⟩ = some (.slice A2 m.f2.length c2) := blk_cell HKB.out 2
      have hk43 : w1.cell? ⟨w.heap.size + 1, 3, none⟩ = some (.slice A3 m.f3.length c3) := blk_cell HKB.out 3
      have hk50 : w1.cell? ⟨w.heap.size + 2, 0, none⟩ = some (.int .i64 18) := blk_cell HKC.out 0
      have hk51 : w1.cell? ⟨w.heap.size + 2, 1, none⟩ = some (.string val.f0) := blk_cell HKC.out 1
      have hk52 : w1.cell? ⟨w.heap.size + 2, 2, none⟩ = some (.int .i64 val.f1) := blk_cell HKC.out 2
      have hk53 : w1.cell? ⟨w.heap.size + 2, 3, none⟩ = some (.string wid.f0) := blk_cell HKC.out 3
      have hk54 : w1.cell? ⟨w.heap.size + 2, 4, none⟩ = some (.int .i64 wid.f1) := blk_cell HKC.out 4
      have hk55 : w1.cell? ⟨w.heap.size + 2, 5, none⟩ = some (.string hi.f0) := blk_cell HKC.out 5
      have hk56 : w1.cell? ⟨w.heap.size + 2, 6, none⟩ = some (.int .i64 hi.f1) := blk_cell HKC.out 6
      have hk57 : w1.cell? ⟨w.heap.size + 2, 7, none⟩ = some (.string lo.f0) := blk_cell HKC.out 7
      have hk58 : w1.cell? ⟨w.heap.size + 2, 8, none⟩ = some (.int .i64 lo.f1) := blk_cell HKC.out 8
      have hk59 : w1.cell? ⟨w.heap.size + 2, 9, none⟩ = some (.string nm) := blk_cell HKC.out 9
      go_wp2_with fail
      refine (F2.out _ HBA.out).mono ?_
      rintro e w2 ⟨rfl, hb⟩
      clear hk3 hk40 hk41 hk42 hk43 hk50 hk51 hk52 hk53 hk54 hk55 hk56 hk57 hk58 hk59
      replace HKA := Aside0.mk ((hb.block _ (by have := blk_lt HKC.out; simp at this ⊢; omega)).trans HKA.out)
      replace HKB := Aside0.mk ((hb.block _ (by have := blk_lt HKC.out; simp at this ⊢; omega)).trans HKB.out)
      replace HKC := Aside0.mk ((hb.block _ (by have := blk_lt HKC.out; simp at this ⊢; omega)).trans HKC.out)
      replace HBA := Aside0.mk (below_step HBA.out hb)
      clear hb
      have hk3 : w2.cell? ⟨w.heap.size, 0, none⟩ = some (.slice A0 l.length c0) := blk_cell HKA.out 0
      have hk40 : w2.cell? ⟨w.heap.size + 1, 0, none⟩ = some (.string m.f0) := blk_cell HKB.out 0
      have hk41 : w2.cell? ⟨w.heap.size + 1, 1, none⟩ = some (.slice A1 m.f1.length c1) := blk_cell HKB.out 1
      have hk42 : w2.cell? ⟨w.heap.size + 1, 2, none⟩ = some (.slice A2 m.f2.length c2) := blk_cell HKB.out 2
      have hk43 : w2.cell? ⟨w.heap.size + 1, 3, none⟩ = some (.slice A3 m.f3.length c3) := blk_cell HKB.out 3
      have hk50 : w2.cell? ⟨w.heap.size + 2, 0, none⟩ = some (.int .i64 18) := blk_cell HKC.out 0
      have hk51 : w2.cell? ⟨w.heap.size + 2, 1, none⟩ = some (.string val.f0) := blk_cell HKC.out 1
      have hk52 : w2.cell? ⟨w.heap.size + 2, 2, none⟩ = some (.int .i64 val.f1) := blk_cell HKC.out 2
      have hk53 : w2.cell? ⟨w.heap.size + 2, 3, none⟩ = some (.string wid.f0) := blk_cell HKC.out 3
      have hk54 : w2.cell? ⟨w.heap.size + 2, 4, none⟩ = some (.int .i64 wid.f1) := blk_cell HKC.out 4
      have hk55 : w2.cell? ⟨w.heap.size + 2, 5, none⟩ = some (.string hi.f0) := blk_cell HKC.out 5
      have hk56 : w2.cell? ⟨w.heap.size + 2, 6, none⟩ = some (.int .i64 hi.f1) := blk_cell HKC.out 6
      have hk57 : w2.cell? ⟨w.heap.size + 2, 7, none⟩ = some (.string lo.f0) := blk_cell HKC.out 7
      have hk58 : w2.cell? ⟨w.heap.size + 2, 8, none⟩ = some (.int .i64 lo.f1) := blk_cell HKC.out 8
      have hk59 : w2.cell? ⟨w.heap.size + 2, 9, none⟩ = some (.string nm) := blk_cell HKC.out 9
      cases b1 <;> cases b2
      · obtain rfl : z = r := HR.out
        go_wp2
        have HX := HKA
        clear hk3 hk40 hk41 hk42 hk43 hk50 hk51 hk52 hk53 hk54 hk55 hk56 hk57 hk58 hk59
        go_loopw [12] (fun v wr => ∃ i : Nat, v = .int .i64 (i : Int) ∧ i ≤ kids.length ∧ Aside0 (kidsS l m (kids.drop i) = z) ∧ Aside0 (wr.heap[w.heap.size]? = some (.cells #[.slice A0 l.length c0] 24 (0, 0))) ∧ Aside0 (wr.heap[w.heap.size + 1]? = some (.cells #[.string m.f0, .slice A1 m.f1.length c1, .slice A2 m.f2.length c2, .slice A3 m.f3.length c3] 34 (0, 0))) ∧ Aside0 (wr.heap[w.heap.size + 2]? = some (.cells #[.int .i64 18, .string val.f0, .int .i64 val.f1, .string wid.f0, .int .i64 wid.f1, .string hi.f0, .int .i64 hi.f1, .string lo.f0, .int .i64 lo.f1, .string nm, .slice A10 kids.length c10] 47 (0, 0))) ∧ Aside0 (Below w.heap.size w wr)) (fun v _ => kids.length - (intOf v).toNat)
        case atStart => exact ⟨0, rfl, Nat.zero_le _, ⟨HZ.out⟩, HKA, HKB, HKC, HBA⟩
        case round =>
          clear HKA HKB HKC HBA
          obtain ⟨i, rfl, hi, HI, HK3, HK4, HK5, HB⟩ := hrel
          have hk3 : wr.cell? ⟨w.heap.size, 0, none⟩ = some (.slice A0 l.length c0) := blk_cell HK3.out 0
          have hk40 : wr.cell? ⟨w.heap.size + 1, 0, none⟩ = some (.string m.f0) := blk_cell HK4.out 0
          have hk41 : wr.cell? ⟨w.heap.size + 1, 1, none⟩ = some (.slice A1 m.f1.length c1) := blk_cell HK4.out 1
          have hk42 : wr.cell? ⟨w.heap.size + 1, 2, none⟩ = some (.slice A2 m.f2.length c2) := blk_cell HK4.out 2
          have hk43 : wr.cell? ⟨w.heap.size + 1, 3, none⟩ = some (.slice A3 m.f3.length c3) := blk_cell HK4.out 3
          have hk5 : wr.cell? ⟨w.heap.size + 2, 10, none⟩ = some (.slice A10 kids.length c10) := blk_cell HK5.out 10
          have hz0 : w.heap.size + 2 < wr.heap.size := blk_lt HK5.out
          have hz1 : w.heap.size + 1 < wr.heap.size := by omega
          have hz2 : w.heap.size < wr.heap.size := by omega
          by_cases hlt : i < kids.length
          · obtain ⟨ad, E10, e10, rfl, hx0, hx1, hx2, hx3, hx4, hx5, hx6, hx7, hx8, hx9, hx10, hle, hCe⟩ := at47 (Kd.C_below HC5.out HB.out) i hlt
            have HKE := Aside0.mk (k47_mk wr kids[i] hle hCe)
            have IHX := Aside0.mk (fun w' ces (hD : Kd.C k34 w' A0 l.length l) (hM : k34.K w' m [.string m.f0, .slice A1 m.f1.length c1, .slice A2 m.f2.length c2, .slice A3 m.f3.length c3]) (hE : k47.K w' kids[i] ces) => ih kids[i] (kid_size (List.getElem_mem hlt)) A0 c0 l m _ ces w' hD hM hE (HBK.out kids[i] (List.getElem_mem hlt)))
            have hks := kids_step l m kids i hlt
            obtain ⟨x, hx⟩ : ∃ x, kids[i] = x := ⟨_, rfl⟩
            rw [hx] at hx0 hx1 hx2 hx3 hx4 hx5 hx6 hx7 hx8 hx9 hx10 HKE IHX hks
            obtain ⟨b, hb0⟩ : ∃ b, exprS l m x = b := ⟨_, rfl⟩
            rw [hb0] at IHX hks
            have HKS := Aside0.mk (hks.symm.trans HI.out)
            have hbk : (ad.add (i * 11)).block < wr.heap.size := World.block_lt_of_cell? wr _ hx0
            clear hks hb0 hx hle hCe
            go_wp2
            go_region_held3 (fun w' => w'.cell? ⟨w.heap.size, 0, none⟩ = some (.slice A0 l.length c0) ∧ w'.cell? ⟨w.heap.size + 1, 0, none⟩ = some (.string m.f0) ∧ w'.cell? ⟨w.heap.size + 1, 1, none⟩ = some (.slice A1 m.f1.length c1) ∧ w'.cell? ⟨w.heap.size + 1, 2, none⟩ = some (.slice A2 m.f2.length c2) ∧ w'.cell? ⟨w.heap.size + 1, 3, none⟩ = some (.slice A3 m.f3.length c3) ∧ w'.cell? ⟨w.heap.size + 2, 10, none⟩ = some (.slice (some ad) kids.length c10) ∧ w'.cell? (ad.add (i * 11)) = some (.int .i64 x.f0) ∧ w'.cell? ⟨(ad.add (i * 11)).block, (ad.add (i * 11)).off + 1, none⟩ = some (.string x.f1.f0) ∧ w'.cell? ⟨(ad.add (i * 11)).block, (ad.add (i * 11)).off + 2, none⟩ = some (.int .i64 x.f1.f1) ∧ w'.cell? ⟨(ad.add (i * 11)).block, (ad.add (i * 11)).off + 3, none⟩ = some (.string x.f2.f0) ∧ w'.cell? ⟨(ad.add (i * 11)).block, (ad.add (i * 11)).off + 4, none⟩ = some (.int .i64 x.f2.f1) ∧ w'.cell? ⟨(ad.add (i * 11)).block, (ad.add (i * 11)).off + 5, none⟩ = some (.string x.f3.f0) ∧ w'.cell? ⟨(ad.add (i * 11)).block, (ad.add (i * 11)).off + 6, none⟩ = some (.int .i64 x.f3.f1) ∧ w'.cell? ⟨(ad.add (i * 11)).block, (ad.add (i * 11)).off + 7, none⟩ = some (.string x.f4.f0) ∧ w'.cell? ⟨(ad.add (i * 11)).block, (ad.add (i * 11)).off + 8, none⟩ = some (.int .i64 x.f4.f1) ∧ w'.cell? ⟨(ad.add (i * 11)).block, (ad.add (i * 11)).off + 9, none⟩ = some (.string x.f5) ∧ w'.cell? ⟨(ad.add (i * 11)).block, (ad.add (i * 11)).off + 10, none⟩ = some (.slice E10 x.f6.length e10))
              (go_keep)
              (first | (go_at_call 52; refine (IHX.out _ _ (Kd.C_below HC.out (below_drew HB.out)) (k34.K_below (below_drew HB.out) HM.out) (k47.K_below (below_drew (Below.refl _ _)) HKE.out)).mono ?_; rintro e w2 ⟨rfl, hb⟩; obtain ⟨hc, hf⟩ := bcell (below_step (below_drew (Below.refl wr.heap.size wr)) hb)))
            clear hc hf
            go_wp2
            · have hq : (b != 0) = true := by assumption
              have HE : Aside0 (z = b) := ⟨by rw [← HKS.out, if_pos (by simpa using hq)]⟩
              go_ret
              exact ⟨by rw [HE.out]; rfl, below_step (below_drew HB.out) hb⟩
            · have hq : (b != 0) = false := by assumption
              have HE : Aside0 (kidsS l m (kids.drop (i + 1)) = z) := ⟨by rw [← HKS.out, if_neg (by simpa using hq)]⟩
              go_roundw
              case rel => exact ⟨i + 1, by go_num, by omega, HE, ⟨(hb.block _ (by simp; omega)).trans HK3.out⟩, ⟨(hb.block _ (by simp; omega)).trans HK4.out⟩, ⟨(hb.block _ (by simp; omega)).trans HK5.out⟩, ⟨below_step (below_drew HB.out) hb⟩⟩
              case measure => simp [intOf]; omega
          · have HE : Aside0 (z = 0) := ⟨by rw [← HI.out, List.drop_eq_nil_of_le (by omega)]; simp [kidsS]⟩
            go_wp2
            go_ret
            exact ⟨by rw [HE.out]; rfl, HB.out⟩
      all_goals (have HE : Aside0 (r = 40) := ⟨HR.out.symm⟩; go_wp2; go_ret; exact ⟨by rw [HE.out]; rfl, HBA.out⟩)
    by_cases o19 : op = 19
    · subst o19
      rw [ownS_19] at hr
      obtain ⟨b, hb0⟩ : ∃ b, amongS (kindS m nm).1 6 6 6 = b := ⟨_, rfl⟩
      rw [hb0] at KA hr
      have HR := Aside0.mk hr
      clear hb0 hr
      have h1' : ((kids.length : Int) != t) = false := by simpa using h1
      go_enter Try.func52, Try.ntmps52
      go_wp2
      go_quiet ((go_at_call 61; exact Calls.quiet_of_same (KT.out _)))
      generalize hgw : World.drewN _ _ = wq
      replace HKA : Aside0 (wq.heap[w.heap.size]? = some (.cells #[.slice A0 l.length c0] 24 (0, 0))) := ⟨by rw [← hgw]; exact HKA.out⟩
      replace HKB : Aside0 (wq.heap[w.heap.size + 1]? = some (.cells #[.string m.f0, .slice A1 m.f1.length c1, .slice A2 m.f2.length c2, .slice A3 m.f3.length c3] 34 (0, 0))) := ⟨by rw [← hgw]; exact HKB.out⟩
      replace HKC : Aside0 (wq.heap[w.heap.size + 2]? = some (.cells #[.int .i64 19, .string val.f0, .int .i64 val.f1, .string wid.f0, .int .i64 wid.f1, .string hi.f0, .int .i64 hi.f1, .string lo.f0, .int .i64 lo.f1, .string nm, .slice A10 kids.length c10] 47 (0, 0))) := ⟨by rw [← hgw]; exact HKC.out⟩
      replace HBA : Aside0 (Below w.heap.size w wq) := ⟨by rw [← hgw]; exact pw_below_drewN HBA.out _⟩
      clear hgw
      have hk3 : wq.cell? ⟨w.heap.size, 0, none⟩ = some (.slice A0 l.length c0) := blk_cell HKA.out 0
      have hk40 : wq.cell? ⟨w.heap.size + 1, 0, none⟩ = some (.string m.f0) := blk_cell HKB.out 0
      have hk41 : wq.cell? ⟨w.heap.size + 1, 1, none⟩ = some (.slice A1 m.f1.length c1) := blk_cell HKB.out 1
      have hk42 : wq.cell? ⟨w.heap.size + 1, 2, none⟩ = some (.slice A2 m.f2.length c2) := blk_cell HKB.out 2
      have hk43 : wq.cell? ⟨w.heap.size + 1, 3, none⟩ = some (.slice A3 m.f3.length c3) := blk_cell HKB.out 3
      have hk50 : wq.cell? ⟨w.heap.size + 2, 0, none⟩ = some (.int .i64 19) := blk_cell HKC.out 0
      have hk51 : wq.cell? ⟨w.heap.size + 2, 1, none⟩ = some (.string val.f0) := blk_cell HKC.out 1
      have hk52 : wq.cell? ⟨w.heap.size + 2, 2, none⟩ = some (.int .i64 val.f1) := blk_cell HKC.out 2
      have hk53 : wq.cell? ⟨w.heap.size + 2, 3, none⟩ = some (.string wid.f0) := blk_cell HKC.out 3
      have hk54 : wq.cell? ⟨w.heap.size + 2, 4, none⟩ = some (.int .i64 wid.f1) := blk_cell HKC.out 4
      have hk55 : wq.cell? ⟨w.heap.size + 2, 5, none⟩ = some (.string hi.f0) := blk_cell HKC.out 5
      have hk56 : wq.cell? ⟨w.heap.size + 2, 6, none⟩ = some (.int .i64 hi.f1) := blk_cell HKC.out 6
      have hk57 : wq.cell? ⟨w.heap.size + 2, 7, none⟩ = some (.string lo.f0) := blk_cell HKC.out 7
      have hk58 : wq.cell? ⟨w.heap.size + 2, 8, none⟩ = some (.int .i64 lo.f1) := blk_cell HKC.out 8
      have hk59 : wq.cell? ⟨w.heap.size + 2, 9, none⟩ = some (.string nm) := blk_cell HKC.out 9
      go_wp2_with fail
      refine (KA.out _ _ (k34.K_below HBA.out HM.out)).mono ?_
      rintro e w1 ⟨rfl, hb⟩
      clear hk3 hk40 hk41 hk42 hk43 hk50 hk51 hk52 hk53 hk54 hk55 hk56 hk57 hk58 hk59
      replace HKA := Aside0.mk ((hb.block _ (by have := blk_lt HKC.out; simp at this ⊢; omega)).trans HKA.out)
      replace HKB := Aside0.mk ((hb.block _ (by have := blk_lt HKC.out; simp at this ⊢; omega)).trans HKB.out)
      replace HKC := Aside0.mk ((hb.block _ (by have := blk_lt HKC.out; simp at this ⊢; omega)).trans HKC.out)
      replace HBA := Aside0.mk (below_step HBA.out hb)
      clear hb
      have hk3 : w1.cell? ⟨w.heap.size, 0, none⟩ = some (.slice A0 l.length c0) := blk_cell HKA.out 0
      have hk40 : w1.cell? ⟨w.heap.size + 1, 0, none⟩ = some (.string m.f0) := blk_cell HKB.out 0
      have hk41 : w1.cell? ⟨w.heap.size + 1, 1, none⟩ = some (.slice A1 m.f1.length c1) := blk_cell HKB.out 1
      have hk42 : w1.cell? ⟨w.heap.size + 1, 2, none⟩ = some (.slice A2 m.f2.length c2) := blk_cell HKB.out 2
      have hk43 : w1.cell? ⟨w.heap.size + 1, 3, none⟩ = some (.slice A3 m.f3.length c3) := blk_cell HKB.out 3
      have hk50 : w1.cell? ⟨w.heap.size + 2, 0, none⟩ = some (.int .i64 19) := blk_cell HKC.out 0
      have hk51 : w1.cell? ⟨w.heap.size + 2, 1, none⟩ = some (.string val.f0) := blk_cell HKC.out 1
      have hk52 : w1.cell? ⟨w.heap.size + 2, 2, none⟩ = some (.int .i64 val.f1) := blk_cell HKC.out 2
      have hk53 : w1.cell? ⟨w.heap.size + 2, 3, none⟩ = some (.string wid.f0) := blk_cell HKC.out 3
      have hk54 : w1.cell? ⟨w.heap.size + 2, 4, none⟩ = some (.int .i64 wid.f1) := blk_cell HKC.out 4
      have hk55 : w1.cell? ⟨w.heap.size + 2, 5, none⟩ = some (.string hi.f0) := blk_cell HKC.out 5
      have hk56 : w1.cell? ⟨w.heap.size + 2, 6, none⟩ = some (.int .i64 hi.f1) := blk_cell HKC.out 6
      have hk57 : w1.cell? ⟨w.heap.size + 2, 7, none⟩ = some (.string lo.f0) := blk_cell HKC.out 7
      have hk58 : w1.cell? ⟨w.heap.size + 2, 8, none⟩ = some (.int .i64 lo.f1) := blk_cell HKC.out 8
      have hk59 : w1.cell? ⟨w.heap.size + 2, 9, none⟩ = some (.string nm) := blk_cell HKC.out 9
      by_cases hb0 : b = 0
      rotate_left
      · have hb1 : (b != 0) = true := by simpa using hb0
        have HE : Aside0 (r = b) := ⟨by rw [← HR.out, if_pos hb0]⟩
        go_wp2
        go_ret
        exact ⟨by rw [HE.out]; rfl, HBA.out⟩
      · subst hb0
        obtain rfl : z = r := by rw [← HR.out, if_neg (by decide)]
        go_wp2
        clear hk3 hk40 hk41 hk42 hk43 hk50 hk51 hk52 hk53 hk54 hk55 hk56 hk57 hk58 hk59
        go_loopw [12] (fun v wr => ∃ i : Nat, v = .int .i64 (i : Int) ∧ i ≤ kids.length ∧ Aside0 (kidsS l m (kids.drop i) = z) ∧ Aside0 (wr.heap[w.heap.size]? = some (.cells #[.slice A0 l.length c0] 24 (0, 0))) ∧ Aside0 (wr.heap[w.heap.size + 1]? = some (.cells #[.string m.f0, .slice A1 m.f1.length c1, .slice A2 m.f2.length c2, .slice A3 m.f3.length c3] 34 (0, 0))) ∧ Aside0 (wr.heap[w.heap.size + 2]? = some (.cells #[.int .i64 19, .string val.f0, .int .i64 val.f1, .string wid.f0, .int .i64 wid.f1, .string hi.f0, .int .i64 hi.f1, .string lo.f0, .int .i64 lo.f1, .string nm, .slice A10 kids.length c10] 47 (0, 0))) ∧ Aside0 (Below w.heap.size w wr)) (fun v _ => kids.length - (intOf v).toNat)
        case atStart => exact ⟨0, rfl, Nat.zero_le _, ⟨HZ.out⟩, HKA, HKB, HKC, HBA⟩
        case round =>
          clear HKA HKB HKC HBA
          obtain ⟨i, rfl, hi, HI, HK3, HK4, HK5, HB⟩ := hrel
          have hk3 : wr.cell? ⟨w.heap.size, 0, none⟩ = some (.slice A0 l.length c0) := blk_cell HK3.out 0
          have hk40 : wr.cell? ⟨w.heap.size + 1, 0, none⟩ = some (.string m.f0) := blk_cell HK4.out 0
          have hk41 : wr.cell? ⟨w.heap.size + 1, 1, none⟩ = some (.slice A1 m.f1.length c1) := blk_cell HK4.out 1
          have hk42 : wr.cell? ⟨w.heap.size + 1, 2, none⟩ = some (.slice A2 m.f2.length c2) := blk_cell HK4.out 2
          have hk43 : wr.cell? ⟨w.heap.size + 1, 3, none⟩ = some (.slice A3 m.f3.length c3) := blk_cell HK4.out 3
          have hk5 : wr.cell? ⟨w.heap.size + 2, 10, none⟩ = some (.slice A10 kids.length c10) := blk_cell HK5.out 10
          have hz0 : w.heap.size + 2 < wr.heap.size := blk_lt HK5.out
          have hz1 : w.heap.size + 1 < wr.heap.size := by omega
          have hz2 : w.heap.size < wr.heap.size := by omega
          by_cases hlt : i < kids.length
          · obtain ⟨ad, E10, e10, rfl, hx0, hx1, hx2, hx3, hx4, hx5, hx6, hx7, hx8, hx9, hx10, hle, hCe⟩ := at47 (Kd.C_below HC5.out HB.out) i hlt
            have HKE := Aside0.mk (k47_mk wr kids[i] hle hCe)
            have IHX := Aside0.mk (fun w' ces (hD : Kd.C k34 w' A0 l.length l) (hM : k34.K w' m [.string m.f0, .slice A1 m.f1.length c1, .slice A2 m.f2.length c2, .slice A3 m.f3.length c3]) (hE : k47.K w' kids[i] ces) => ih kids[i] (kid_size (List.getElem_mem hlt)) A0 c0 l m _ ces w' hD hM hE (HBK.out kids[i] (List.getElem_mem hlt)))
            have hks := kids_step l m kids i hlt
            obtain ⟨x, hx⟩ : ∃ x, kids[i] = x := ⟨_, rfl⟩
            rw [hx] at hx0 hx1 hx2 hx3 hx4 hx5 hx6 hx7 hx8 hx9 hx10 HKE IHX hks
            obtain ⟨b, hb0⟩ : ∃ b, exprS l m x = b := ⟨_, rfl⟩
            rw [hb0] at IHX hks
            have HKS := Aside0.mk (hks.symm.trans HI.out)
            have hbk : (ad.add (i * 11)).block < wr.heap.size := World.block_lt_of_cell? wr _ hx0
            clear hks hb0 hx hle hCe
            go_wp2
            go_region_held3 (fun w' => w'.cell? ⟨w.heap.size, 0, none⟩ = some (.slice A0 l.length c0) ∧ w'.cell? ⟨w.heap.size + 1, 0, none⟩ = some (.string m.f0) ∧ w'.cell? ⟨w.heap.size + 1, 1, none⟩ = some (.slice A1 m.f1.length c1) ∧ w'.cell? ⟨w.heap.size + 1, 2, none⟩ = some (.slice A2 m.f2.length c2) ∧ w'.cell? ⟨w.heap.size + 1, 3, none⟩ = some (.slice A3 m.f3.length c3) ∧ w'.cell? ⟨w.heap.size + 2, 10, none⟩ = some (.slice (some ad) kids.length c10) ∧ w'.cell? (ad.add (i * 11)) = some (.int .i64 x.f0) ∧ w'.cell? ⟨(ad.add (i * 11)).block, (ad.add (i * 11)).off + 1, none⟩ = some (.string x.f1.f0) ∧ w'.cell? ⟨(ad.add (i * 11)).block, (ad.add (i * 11)).off + 2, none⟩ = some (.int .i64 x.f1.f1) ∧ w'.cell? ⟨(ad.add (i * 11)).block, (ad.add (i * 11)).off + 3, none⟩ = some (.string x.f2.f0) ∧ w'.cell? ⟨(ad.add (i * 11)).block, (ad.add (i * 11)).off + 4, none⟩ = some (.int .i64 x.f2.f1) ∧ w'.cell? ⟨(ad.add (i * 11)).block, (ad.add (i * 11)).off + 5, none⟩ = some (.string x.f3.f0) ∧ w'.cell? ⟨(ad.add (i * 11)).block, (ad.add (i * 11)).off + 6, none⟩ = some (.int .i64 x.f3.f1) ∧ w'.cell? ⟨(ad.add (i * 11)).block, (ad.add (i * 11)).off + 7, none⟩ = some (.string x.f4.f0) ∧ w'.cell? ⟨(ad.add (i * 11)).block, (ad.add (i * 11)).off + 8, none⟩ = some (.int .i64 x.f4.f1) ∧ w'.cell? ⟨(ad.add (i * 11)).block, (ad.add (i * 11)).off + 9, none⟩ = some (.string x.f5) ∧ w'.cell? ⟨(ad.add (i * 11)).block, (ad.add (i * 11)).off + 10, none⟩ = some (.slice E10 x.f6.length e10))
              (go_keep)
              (first | (go_at_call 52; refine (IHX.out _ _ (Kd.C_below HC.out (below_drew HB.out)) (k34.K_below (below_drew HB.out) HM.out) (k47.K_below (below_drew (Below.refl _ _)) HKE.out)).mono ?_; rintro e w2 ⟨rfl, hb⟩; obtain ⟨hc, hf⟩ := bcell (below_step (below_drew (Below.refl wr.heap.size wr)) hb)))
            clear hc hf
            go_wp2
            · have hq : (b != 0) = true := by assumption
              have HE : Aside0 (z = b) := ⟨by rw [← HKS.out, if_pos (by simpa using hq)]⟩
              go_ret
              exact ⟨by rw [HE.out]; rfl, below_step (below_drew HB.out) hb⟩
            · have hq : (b != 0) = false := by assumption
              have HE : Aside0 (kidsS l m (kids.drop (i + 1)) = z) := ⟨by rw [← HKS.out, if_neg (by simpa using hq)]⟩
              go_roundw
              case rel => exact ⟨i + 1, by go_num, by omega, HE, ⟨(hb.block _ (by simp; omega)).trans HK3.out⟩, ⟨(hb.block _ (by simp; omega)).trans HK4.out⟩, ⟨(hb.block _ (by simp; omega)).trans HK5.out⟩, ⟨below_step (below_drew HB.out) hb⟩⟩
              case measure => simp [intOf]; omega
          · have HE : Aside0 (z = 0) := ⟨by rw [← HI.out, List.drop_eq_nil_of_le (by omega)]; simp [kidsS]⟩
            go_wp2
            go_ret
            exact ⟨by rw [HE.out]; rfl, HB.out⟩
    by_cases o2 : op = 2
    · subst o2
      rw [ownS_2] at hr
      obtain ⟨b, hb0⟩ : ∃ b, refS l m nm = b := ⟨_, rfl⟩
      rw [hb0] at KR hr
      have HR := Aside0.mk hr
      clear hb0 hr
      have h1' : ((kids.length : Int) != t) = false := by simpa using h1
      go_enter Try.func52, Try.ntmps52
      go_wp2
      go_quiet ((go_at_call 61; exact Calls.quiet_of_same (KT.out _)))
      generalize hgw : World.drewN _ _ = wq
      replace HKA : Aside0 (wq.heap[w.heap.size]? = some (.cells #[.slice A0 l.length c0] 24 (0, 0))) := ⟨by rw [← hgw]; exact HKA.out⟩
      replace HKB : Aside0 (wq.heap[w.heap.size + 1]? = some (.cells #[.string m.f0, .slice A1 m.f1.length c1, .slice A2 m.f2.length c2, .slice A3 m.f3.length c3] 34 (0, 0))) := ⟨by rw [← hgw]; exact HKB.out⟩
      replace HKC : Aside0 (wq.heap[w.heap.size + 2]? = some (.cells #[.int .i64 2, .string val.f0, .int .i64 val.f1, .string wid.f0, .int .i64 wid.f1, .string hi.f0, .int .i64 hi.f1, .string lo.f0, .int .i64 lo.f1, .string nm, .slice A10 kids.length c10] 47 (0, 0))) := ⟨by rw [← hgw]; exact HKC.out⟩
      replace HBA : Aside0 (Below w.heap.size w wq) := ⟨by rw [← hgw]; exact pw_below_drewN HBA.out _⟩
      clear hgw
      have hk3 : wq.cell? ⟨w.heap.size, 0, none⟩ = some (.slice A0 l.length c0) := blk_cell HKA.out 0
      have hk40 : wq.cell? ⟨w.heap.size + 1, 0, none⟩ = some (.string m.f0) := blk_cell HKB.out 0
      have hk41 : wq.cell? ⟨w.heap.size + 1, 1, none⟩ = some (.slice A1 m.f1.length c1) := blk_cell HKB.out 1
      have hk42 : wq.cell? ⟨w.heap.size + 1, 2, none⟩ = some (.slice A2 m.f2.length c2) := blk_cell HKB.out 2
      have hk43 : wq.cell? ⟨w.heap.size + 1, 3, none⟩ = some (.slice A3 m.f3.length c3) := blk_cell HKB.out 3
      have hk50 : wq.cell? ⟨w.heap.size + 2, 0, none⟩ = some (.int .i64 2) := blk_cell HKC.out 0
      have hk51 : wq.cell? ⟨w.heap.size + 2, 1, none⟩ = some (.string val.f0) := blk_cell HKC.out 1
      have hk52 : wq.cell? ⟨w.heap.size + 2, 2, none⟩ = some (.int .i64 val.f1) := blk_cell HKC.out 2
      have hk53 : wq.cell? ⟨w.heap.size + 2, 3, none⟩ = some (.string wid.f0) := blk_cell HKC.out 3
      have hk54 : wq.cell? ⟨w.heap.size + 2, 4, none⟩ = some (.int .i64 wid.f1) := blk_cell HKC.out 4
      have hk55 : wq.cell? ⟨w.heap.size + 2, 5, none⟩ = some (.string hi.f0) := blk_cell HKC.out 5
      have hk56 : wq.cell? ⟨w.heap.size + 2, 6, none⟩ = some (.int .i64 hi.f1) := blk_cell HKC.out 6
      have hk57 : wq.cell? ⟨w.heap.size + 2, 7, none⟩ = some (.string lo.f0) := blk_cell HKC.out 7
      have hk58 : wq.cell? ⟨w.heap.size + 2, 8, none⟩ = some (.int .i64 lo.f1) := blk_cell HKC.out 8
      have hk59 : wq.cell? ⟨w.heap.size + 2, 9, none⟩ = some (.string nm) := blk_cell HKC.out 9
      go_wp2_with fail
      refine (KR.out _ _ (Kd.C_below HC.out HBA.out) (k34.K_below HBA.out HM.out)).mono ?_
      rintro e w1 ⟨rfl, hb⟩
      go_wp2
      go_ret
      have hk : kids = [] := by
        have h5 : (kids.length : Int) = t := by simpa using h1'
        rw [← HT.out] at h5
        simp [takesS] at h5
        exact h5
      have hz0 : z = 0 := by rw [← HZ.out, hk]; rw [kidsS]
      have HE : Aside0 (r = b) := ⟨by rw [← HR.out, hz0]; split <;> omega⟩
      exact ⟨by rw [HE.out]; rfl, below_step HBA.out hb⟩
    have o1' : (op == 1) = false := by simpa using o1
    have o18' : (op == 18) = false := by simpa using o18
    have o19' : (op == 19) = false := by simpa using o19
    have o2' : (op == 2) = false := by simpa using o2
    have HE : Aside0 (z = r) := ⟨by rw [← hr]; unfold ownS; rw [if_neg o1, if_neg o18, if_neg o19, if_neg o2]; rfl⟩
    obtain rfl := HE.out
    clear hr HE
    have h1' : ((kids.length : Int) != t) = false := by simpa using h1
    go_enter Try.func52, Try.ntmps52
    go_wp2
    go_quiet ((go_at_call 61; exact Calls.quiet_of_same (KT.out _)))
    generalize hgw : World.drewN _ _ = wq
    replace HKA : Aside0 (wq.heap[w.heap.size]? = some (.cells #[.slice A0 l.length c0] 24 (0, 0))) := ⟨by rw [← hgw]; exact HKA.out⟩
    replace HKB : Aside0 (wq.heap[w.heap.size + 1]? = some (.cells #[.string m.f0, .slice A1 m.f1.length c1, .slice A2 m.f2.length c2, .slice A3 m.f3.length c3] 34 (0, 0))) := ⟨by rw [← hgw]; exact HKB.out⟩
    replace HKC : Aside0 (wq.heap[w.heap.size + 2]? = some (.cells #[.int .i64 op, .string val.f0, .int .i64 val.f1, .string wid.f0, .int .i64 wid.f1, .string hi.f0, .int .i64 hi.f1, .string lo.f0, .int .i64 lo.f1, .string nm, .slice A10 kids.length c10] 47 (0, 0))) := ⟨by rw [← hgw]; exact HKC.out⟩
    replace HBA : Aside0 (Below w.heap.size w wq) := ⟨by rw [← hgw]; exact pw_below_drewN HBA.out _⟩
    clear hgw
    have hk3 : wq.cell? ⟨w.heap.size, 0, none⟩ = some (.slice A0 l.length c0) := blk_cell HKA.out 0
    have hk40 : wq.cell? ⟨w.heap.size + 1, 0, none⟩ = some (.string m.f0) := blk_cell HKB.out 0
    have hk41 : wq.cell? ⟨w.heap.size + 1, 1, none⟩ = some (.slice A1 m.f1.length c1) := blk_cell HKB.out 1
    have hk42 : wq.cell? ⟨w.heap.size + 1, 2, none⟩ = some (.slice A2 m.f2.length c2) := blk_cell HKB.out 2
    have hk43 : wq.cell? ⟨w.heap.size + 1, 3, none⟩ = some (.slice A3 m.f3.length c3) := blk_cell HKB.out 3
    have hk50 : wq.cell? ⟨w.heap.size + 2, 0, none⟩ = some (.int .i64 op) := blk_cell HKC.out 0
    have hk51 : wq.cell? ⟨w.heap.size + 2, 1, none⟩ = some (.string val.f0) := blk_cell HKC.out 1
    have hk52 : wq.cell? ⟨w.heap.size + 2, 2, none⟩ = some (.int .i64 val.f1) := blk_cell HKC.out 2
    have hk53 : wq.cell? ⟨w.heap.size + 2, 3, none⟩ = some (.string wid.f0) := blk_cell HKC.out 3
    have hk54 : wq.cell? ⟨w.heap.size + 2, 4, none⟩ = some (.int .i64 wid.f1) := blk_cell HKC.out 4
    have hk55 : wq.cell? ⟨w.heap.size + 2, 5, none⟩ = some (.string hi.f0) := blk_cell HKC.out 5
    have hk56 : wq.cell? ⟨w.heap.size + 2, 6, none⟩ = some (.int .i64 hi.f1) := blk_cell HKC.out 6
    have hk57 : wq.cell? ⟨w.heap.size + 2, 7, none⟩ = some (.string lo.f0) := blk_cell HKC.out 7
    have hk58 : wq.cell? ⟨w.heap.size + 2, 8, none⟩ = some (.int .i64 lo.f1) := blk_cell HKC.out 8
    have hk59 : wq.cell? ⟨w.heap.size + 2, 9, none⟩ = some (.string nm) := blk_cell HKC.out 9
    go_wp2
    clear hk3 hk40 hk41 hk42 hk43 hk50 hk51 hk52 hk53 hk54 hk55 hk56 hk57 hk58 hk59
    go_loopw [12] (fun v wr => ∃ i : Nat, v = .int .i64 (i : Int) ∧ i ≤ kids.length ∧ Aside0 (kidsS l m (kids.drop i) = z) ∧ Aside0 (wr.heap[w.heap.size]? = some (.cells #[.slice A0 l.length c0] 24 (0, 0))) ∧ Aside0 (wr.heap[w.heap.size + 1]? = some (.cells #[.string m.f0, .slice A1 m.f1.length c1, .slice A2 m.f2.length c2, .slice A3 m.f3.length c3] 34 (0, 0))) ∧ Aside0 (wr.heap[w.heap.size + 2]? = some (.cells #[.int .i64 op, .string val.f0, .int .i64 val.f1, .string wid.f0, .int .i64 wid.f1, .string hi.f0, .int .i64 hi.f1, .string lo.f0, .int .i64 lo.f1, .string nm, .slice A10 kids.length c10] 47 (0, 0))) ∧ Aside0 (Below w.heap.size w wr)) (fun v _ => kids.length - (intOf v).toNat)
    case atStart => exact ⟨0, rfl, Nat.zero_le _, ⟨HZ.out⟩, HKA, HKB, HKC, HBA⟩
    case round =>
      clear HKA HKB HKC HBA
      obtain ⟨i, rfl, hi, HI, HK3, HK4, HK5, HB⟩ := hrel
      have hk3 : wr.cell? ⟨w.heap.size, 0, none⟩ = some (.slice A0 l.length c0) := blk_cell HK3.out 0
      have hk40 : wr.cell? ⟨w.heap.size + 1, 0, none⟩ = some (.string m.f0) := blk_cell HK4.out 0
      have hk41 : wr.cell? ⟨w.heap.size + 1, 1, none⟩ = some (.slice A1 m.f1.length c1) := blk_cell HK4.out 1
      have hk42 : wr.cell? ⟨w.heap.size + 1, 2, none⟩ = some (.slice A2 m.f2.length c2) := blk_cell HK4.out 2
      have hk43 : wr.cell? ⟨w.heap.size + 1, 3, none⟩ = some (.slice A3 m.f3.length c3) := blk_cell HK4.out 3
      have hk5 : wr.cell? ⟨w.heap.size + 2, 10, none⟩ = some (.slice A10 kids.length c10) := blk_cell HK5.out 10
      have hz0 : w.heap.size + 2 < wr.heap.size := blk_lt HK5.out
      have hz1 : w.heap.size + 1 < wr.heap.size := by omega
      have hz2 : w.heap.size < wr.heap.size := by omega
      by_cases hlt : i < kids.length
      · obtain ⟨ad, E10, e10, rfl, hx0, hx1, hx2, hx3, hx4, hx5, hx6, hx7, hx8, hx9, hx10, hle, hCe⟩ := at47 (Kd.C_below HC5.out HB.out) i hlt
        have HKE := Aside0.mk (k47_mk wr kids[i] hle hCe)
        have IHX := Aside0.mk (fun w' ces (hD : Kd.C k34 w' A0 l.length l) (hM : k34.K w' m [.string m.f0, .slice A1 m.f1.length c1, .slice A2 m.f2.length c2, .slice A3 m.f3.length c3]) (hE : k47.K w' kids[i] ces) => ih kids[i] (kid_size (List.getElem_mem hlt)) A0 c0 l m _ ces w' hD hM hE (HBK.out kids[i] (List.getElem_mem hlt)))
        have hks := kids_step l m kids i hlt
        obtain ⟨x, hx⟩ : ∃ x, kids[i] = x := ⟨_, rfl⟩
        rw [hx] at hx0 hx1 hx2 hx3 hx4 hx5 hx6 hx7 hx8 hx9 hx10 HKE IHX hks
        obtain ⟨b, hb0⟩ : ∃ b, exprS l m x = b := ⟨_, rfl⟩
        rw [hb0] at IHX hks
        have HKS := Aside0.mk (hks.symm.trans HI.out)
        have hbk : (ad.add (i * 11)).block < wr.heap.size := World.block_lt_of_cell? wr _ hx0
        clear hks hb0 hx hle hCe
        go_wp2
        go_region_held3 (fun w' => w'.cell? ⟨w.heap.size, 0, none⟩ = some (.slice A0 l.length c0) ∧ w'.cell? ⟨w.heap.size + 1, 0, none⟩ = some (.string m.f0) ∧ w'.cell? ⟨w.heap.size + 1, 1, none⟩ = some (.slice A1 m.f1.length c1) ∧ w'.cell? ⟨w.heap.size + 1, 2, none⟩ = some (.slice A2 m.f2.length c2) ∧ w'.cell? ⟨w.heap.size + 1, 3, none⟩ = some (.slice A3 m.f3.length c3) ∧ w'.cell? ⟨w.heap.size + 2, 10, none⟩ = some (.slice (some ad) kids.length c10) ∧ w'.cell? (ad.add (i * 11)) = some (.int .i64 x.f0) ∧ w'.cell? ⟨(ad.add (i * 11)).block, (ad.add (i * 11)).off + 1, none⟩ = some (.string x.f1.f0) ∧ w'.cell? ⟨(ad.add (i * 11)).block, (ad.add (i * 11)).off + 2, none⟩ = some (.int .i64 x.f1.f1) ∧ w'.cell? ⟨(ad.add (i * 11)).block, (ad.add (i * 11)).off + 3, none⟩ = some (.string x.f2.f0) ∧ w'.cell? ⟨(ad.add (i * 11)).block, (ad.add (i * 11)).off + 4, none⟩ = some (.int .i64 x.f2.f1) ∧ w'.cell? ⟨(ad.add (i * 11)).block, (ad.add (i * 11)).off + 5, none⟩ = some (.string x.f3.f0) ∧ w'.cell? ⟨(ad.add (i * 11)).block, (ad.add (i * 11)).off + 6, none⟩ = some (.int .i64 x.f3.f1) ∧ w'.cell? ⟨(ad.add (i * 11)).block, (ad.add (i * 11)).off + 7, none⟩ = some (.string x.f4.f0) ∧ w'.cell? ⟨(ad.add (i * 11)).block, (ad.add (i * 11)).off + 8, none⟩ = some (.int .i64 x.f4.f1) ∧ w'.cell? ⟨(ad.add (i * 11)).block, (ad.add (i * 11)).off + 9, none⟩ = some (.string x.f5) ∧ w'.cell? ⟨(ad.add (i * 11)).block, (ad.add (i * 11)).off + 10, none⟩ = some (.slice E10 x.f6.length e10))
          (go_keep)
          (first | (go_at_call 52; refine (IHX.out _ _ (Kd.C_below HC.out (below_drew HB.out)) (k34.K_below (below_drew HB.out) HM.out) (k47.K_below (below_drew (Below.refl _ _)) HKE.out)).mono ?_; rintro e w2 ⟨rfl, hb⟩; obtain ⟨hc, hf⟩ := bcell (below_step (below_drew (Below.refl wr.heap.size wr)) hb)))
        clear hc hf
        go_wp2
        · have hq : (b != 0) = true := by assumption
          have HE : Aside0 (z = b) := ⟨by rw [← HKS.out, if_pos (by simpa using hq)]⟩
          go_ret
          exact ⟨by rw [HE.out]; rfl, below_step (below_drew HB.out) hb⟩
        · have hq : (b != 0) = false := by assumption
          have HE : Aside0 (kidsS l m (kids.drop (i + 1)) = z) := ⟨by rw [← HKS.out, if_neg (by simpa using hq)]⟩
          go_roundw
          case rel => exact ⟨i + 1, by go_num, by omega, HE, ⟨(hb.block _ (by simp; omega)).trans HK3.out⟩, ⟨(hb.block _ (by simp; omega)).trans HK4.out⟩, ⟨(hb.block _ (by simp; omega)).trans HK5.out⟩, ⟨below_step (below_drew HB.out) hb⟩⟩
          case measure => simp [intOf]; omega
      · have HE : Aside0 (z = 0) := ⟨by rw [← HI.out, List.drop_eq_nil_of_le (by omega)]; simp [kidsS]⟩
        go_wp2
        go_ret
        exact ⟨by rw [HE.out]; rfl, HB.out⟩
/-- Is a name a port's of In? -/
def gIn (nm : ByteArray) (p : S59) (i : Nat) : Option Unit := if p.f0 = true ∧ eqS p.f1 nm = true then some () else none
def portS (m : S34) (nm : ByteArray) : Bool := (fst (gIn nm) m.f2 0).isSome
set_option maxHeartbeats 4000000 in
theorem port_any (m : S34) (cs : List Value) (nm : ByteArray) (w : World) (h : k34.K w m cs) :
    Calls Try.prog 67 #[.agg cs.toArray, .string nm] w fun e w' => e = .returned (.bool (portS m nm)) ∧ Below w.heap.size w w' := by
  obtain ⟨A1, c1, A2, c2, A3, c3, rfl, hl1, hC1, hl2, hC2, hl3, hC3⟩ := k34_open h
  have HC2 := Aside0.mk hC2
  have hm2 : m.f2.length ≤ 9223372036854775807 := hC2.2.1
  obtain ⟨z, hz⟩ : ∃ z, fst (gIn nm) m.f2 0 = z := ⟨_, rfl⟩
  unfold portS
  rw [hz]
  have HZ := Aside0.mk hz
  clear hz h hC1 hC2 hC3 hl1 hl2 hl3
  go_enter Try.func67, Try.ntmps67
  go_wp2
  go_loopw [5] (fun v wr => ∃ i : Nat, v = .int .i64 (i : Int) ∧ i ≤ m.f2.length ∧ Aside0 (fst (gIn nm) (m.f2.drop i) i = z) ∧ Aside0 (wr.heap[w.heap.size]? = some (.cells #[.string m.f0, .slice A1 m.f1.length c1, .slice A2 m.f2.length c2, .slice A3 m.f3.length c3] 34 (0, 0))) ∧ Aside0 (Below w.heap.size w wr)) (fun v _ => m.f2.length - (intOf v).toNat)
  case atStart => exact ⟨0, rfl, Nat.zero_le _, ⟨HZ.out⟩, ⟨alloc_new w _⟩, ⟨below_alloc (Below.refl _ _) _⟩⟩
  case round =>
    obtain ⟨i, rfl, hi, HI, HK, HB⟩ := hrel
    have hk2 : wr.cell? ⟨w.heap.size, 2, none⟩ = some (.slice A2 m.f2.length c2) := blk_cell HK.out 2
    by_cases hlt : i < m.f2.length
    · obtain ⟨ad, rfl, hx0, hx1, _, _⟩ := at59 (Kd.C_below HC2.out HB.out) i hlt
      cases hf : m.f2[i].f0 <;> cases hq : (m.f2[i].f1.toList == nm.toList)
      all_goals go_wp2
      all_goals first
        | (have hp : (gIn nm) m.f2[i] i = some () := by exact if_pos ⟨hf, hq⟩
           have HE := (fst_hit (gIn nm) m.f2 i hlt hp).symm.trans HI.out
           go_ret
           exact ⟨by rw [← HE]; rfl, HB.out⟩)
        | (have hp : (gIn nm) m.f2[i] i = none := by exact if_neg (fun h9 => by have h8 := h9.1; have h7 := h9.2; simp [hf, eqS, hq] at h8 h7)
           have HE := (fst_miss (gIn nm) m.f2 i hlt hp).symm.trans HI.out
           go_roundw
           case rel => exact ⟨i + 1, by go_num, by omega, ⟨HE⟩, HK, HB⟩
           case measure => simp [intOf]; omega)
    · have HE := (fst_end (gIn nm) m.f2 i (by omega)).symm.trans HI.out
      go_wp2
      go_ret
      exact ⟨by rw [← HE]; rfl, HB.out⟩
def gPn (nm : ByteArray) (p : S59) (i : Nat) : Option Unit := if eqS p.f1 nm = true then some () else none
def gNm (nm : ByteArray) (x : S49) (i : Nat) : Option Unit := if namedS x.f0 = true ∧ eqS x.f1 nm = true then some () else none
/-- Is a name one of a module's params, ports, or of some items? -/
def nameS (m : S34) (its : List S49) (nm : ByteArray) : Bool := decide (0 ≤ paramS m.f1 nm) || (fst (gPn nm) m.f2 0).isSome || (fst (gNm nm) its 0).isSome
theorem take_get {α : Type} (l : List α) (k i : Nat) (h : i < (l.take k).length) : (l.take k)[i] = l[i]'(by simp at h; omega) := by simp
set_option maxHeartbeats 8000000 in
theorem ahead_any (m : S34) (cs : List Value) (at_ : Nat) (w : World) (h : k34.K w m cs) (ha : at_ < m.f3.length) :
    Calls Try.prog 49 #[.agg cs.toArray, .int .i64 (at_ : Int)] w fun e w' => e = .returned (.bool (nameS m (m.f3.take at_) m.f3[at_].f1)) ∧ Below w.heap.size w w' := by
  have HM := Aside0.mk h
  obtain ⟨A1, c1, A2, c2, A3, c3, rfl, hl1, hC1, hl2, hC2, hl3, hC3⟩ := k34_open h
  have HC2 := Aside0.mk hC2
  have HC3 := Aside0.mk hC3
  have hm2 : m.f2.length ≤ 9223372036854775807 := hC2.2.1
  have hm3 : m.f3.length ≤ 9223372036854775807 := hC3.2.1
  obtain ⟨nm, hnm⟩ : ∃ nm, m.f3[at_].f1 = nm := ⟨_, rfl⟩
  have HNM := Aside0.mk hnm
  rw [hnm]
  have K1 := Aside0.mk (fun w' (hb : Below w.heap.size w w') => param_any m _ nm w' (k34.K_below hb h))
  obtain ⟨p, hp⟩ : ∃ p, paramS m.f1 nm = p := ⟨_, rfl⟩
  obtain ⟨z, hz⟩ : ∃ z, fst (gPn nm) m.f2 0 = z := ⟨_, rfl⟩
  obtain ⟨its, hits⟩ : ∃ its, m.f3.take at_ = its := ⟨_, rfl⟩
  have hil : its.length = at_ := by rw [← hits, List.length_take]; omega
  have HITS := Aside0.mk hits
  rw [hits]
  obtain ⟨z2, hz2⟩ : ∃ z, fst (gNm nm) its 0 = z := ⟨_, rfl⟩
  unfold nameS
  rw [hp] at K1 ⊢
  rw [hz, hz2]
  have HZ := Aside0.mk hz
  have HZ2 := Aside0.mk hz2
  obtain ⟨ad0, e0, _, hx1⟩ := at49a hC3 at_ ha
  rw [hnm] at hx1
  subst e0
  have hbk := World.block_lt_of_cell? w _ hx1
  simp only at hbk
  clear hz hz2 h hC1 hC2 hC3 hl1 hl2 hl3 hp hnm hits
  by_cases h0 : 0 ≤ p
  · have hd : decide (0 ≤ p) = true := by simpa using h0
    rw [hd]
    go_enter Try.func49, Try.ntmps49
    go_wp2_with (go_at_call 37; refine (K1.out _ (below_alloc (Below.refl _ _) _)).mono ?_; rintro e w1 ⟨rfl, hb⟩)
    go_ret
    exact ⟨rfl, below_new hb⟩
  · have hd : decide (0 ≤ p) = false := by simpa using h0
    rw [hd, Bool.false_or]
    go_enter Try.func49, Try.ntmps49
    go_wp2_with (go_at_call 37; refine (K1.out _ (below_alloc (Below.refl _ _) _)).mono ?_; rintro e w1 ⟨rfl, hb⟩)
    have HK0 := Aside0.mk (keep_new hb)
    have HB0 := Aside0.mk (below_new hb)
    clear hb hx1 hbk
    go_loopw [6] (fun v wr => ∃ i : Nat, v = .int .i64 (i : Int) ∧ i ≤ m.f2.length ∧ Aside0 (fst (gPn nm) (m.f2.drop i) i = z) ∧ Aside0 (wr.heap[w.heap.size]? = some (.cells #[.string m.f0, .slice A1 m.f1.length c1, .slice A2 m.f2.length c2, .slice (some ad0) m.f3.length c3] 34 (0, 0))) ∧ Aside0 (Below w.heap.size w wr)) (fun v _ => m.f2.length - (intOf v).toNat)
    case atStart => exact ⟨0, rfl, Nat.zero_le _, ⟨HZ.out⟩, ⟨HK0.out⟩, ⟨HB0.out⟩⟩
    case round =>
      obtain ⟨i, rfl, hi, HI, HK, HB⟩ := hrel
      clear HK0 HB0
      have hk2 : wr.cell? ⟨w.heap.size, 2, none⟩ = some (.slice A2 m.f2.length c2) := blk_cell HK.out 2
      by_cases hlt : i < m.f2.length
      · obtain ⟨ad, rfl, _, hx1, _, _⟩ := at59 (Kd.C_below HC2.out HB.out) i hlt
        cases hq : (m.f2[i].f1.toList == nm.toList)
        all_goals go_wp2
        all_goals first
          | (have hp : (gPn nm) m.f2[i] i = some () := by exact if_pos hq
             have HE := (fst_hit (gPn nm) m.f2 i hlt hp).symm.trans HI.out
             go_ret
             exact ⟨by rw [← HE]; rfl, HB.out⟩)
          | (have hp : (gPn nm) m.f2[i] i = none := by exact if_neg (by simp [eqS, hq])
             have HE := (fst_miss (gPn nm) m.f2 i hlt hp).symm.trans HI.out
             go_roundw
             case rel => exact ⟨i + 1, by go_num, by omega, ⟨HE⟩, HK, HB⟩
             case measure => simp [intOf]; omega)
      · have HE := (fst_end (gPn nm) m.f2 i (by omega)).symm.trans HI.out
        cases HE
        have HB1 := HB
        have HK1 := HK
        clear HB HK
        go_wp2
        go_loopw [7] (fun v wr => ∃ i : Nat, v = .int .i64 (i : Int) ∧ i ≤ its.length ∧ Aside0 (fst (gNm nm) (its.drop i) i = z2) ∧ Aside0 (wr.heap[w.heap.size]? = some (.cells #[.string m.f0, .slice A1 m.f1.length c1, .slice A2 m.f2.length c2, .slice (some ad0) m.f3.length c3] 34 (0, 0))) ∧ Aside0 (Below w.heap.size w wr)) (fun v _ => its.length - (intOf v).toNat)
        case atStart => exact ⟨0, rfl, Nat.zero_le _, ⟨HZ2.out⟩, ⟨HK1.out⟩, ⟨HB1.out⟩⟩
        case round =>
          obtain ⟨i, rfl, hi, HI, HK, HB⟩ := hrel
          clear hk2 HK1 HB1
          have hk3 : wr.cell? ⟨w.heap.size, 3, none⟩ = some (.slice (some ad0) m.f3.length c3) := blk_cell HK.out 3
          by_cases hlt : i < its.length
          · have hlt3 : i < m.f3.length := by omega
            have hlt4 : (i : Int) < (m.f3.length : Int) := by omega
            have hlt5 : (i : Int) < (at_ : Int) := by omega
            have hget : its[i] = m.f3[i] := by simp [← HITS.out]
            obtain ⟨ad, e3, hx0, hx1⟩ := at49a (Kd.C_below HC3.out HB.out) i hlt3
            obtain rfl := Option.some.inj e3
            have KN := Aside0.mk (fun w' => named_any m.f3[i].f0 w')
            cases hf : namedS m.f3[i].f0 <;> cases hq : (m.f3[i].f1.toList == nm.toList)
            all_goals rw [hf] at KN
            all_goals go_wp2_with (go_at_call 23; refine (KN.out _).mono ?_; rintro e w1 ⟨rfl, rfl⟩)
            all_goals first
              | (have hp : (gNm nm) m.f3[i] i = some () := by exact if_pos ⟨hf, hq⟩
                 have HE := (fst_hit (gNm nm) its i hlt (hget ▸ hp)).symm.trans HI.out
                 go_ret
                 exact ⟨by rw [← HE]; rfl, HB.out⟩)
              | (have hp : (gNm nm) m.f3[i] i = none := by exact if_neg (fun h9 => by have h8 := h9.1; have h7 := h9.2; simp [hf, eqS, hq] at h8 h7)
                 have HE := (fst_miss (gNm nm) its i hlt (hget ▸ hp)).symm.trans HI.out
                 go_roundw
                 case rel => exact ⟨i + 1, by go_num, by omega, ⟨HE⟩, HK, HB⟩
                 case measure => simp [intOf]; omega)
          · have HE := (fst_end (gNm nm) its i (by omega)).symm.trans HI.out
            have hge : (at_ : Int) ≤ (i : Int) := by omega
            go_wp2
            go_ret
            exact ⟨by rw [← HE]; rfl, HB.out⟩
end Go.Proofs.Ytnfhlhjbmcofoaa.S
