/- Scope: walks and plain laws of this seat's functions, merged out of smaller texts of this session (ScF, ScG). -/
import Derived.Test.YtnfhlhjbmcofoaaM02
namespace Go.Proofs.Ytnfhlhjbmcofoaa.S
open Go.RowKit Go.Proofs.YtnfhlhjbmcofoaaW.PrintWords Go.Proofs.YtnfhlhjbmcofoaaW.PrintLast
set_option linter.unusedVariables false
set_option linter.unusedSimpArgs false
theorem at64a {w : World} {A : Option Addr} {l : List S64} (h : Kd.C k64 w A l.length l) (i : Nat) (hi : i < l.length) : ∃ ad, A = some ad ∧ w.cell? (ad.add (i * 12)) = some (.string l[i].f0) := by
  obtain ⟨ad, _, _, e, h0, _⟩ := at64 h i hi
  exact ⟨ad, e, h0⟩
def gDup (nm : ByteArray) (b : S64) (i : Nat) : Option Unit := if eqS b.f0 nm = true then some () else none
/-- A bind whose port is none of In, or one that a bind ahead has. -/
def gBind (m : S34) (bs : List S64) (b : S64) (i : Nat) : Option Unit := if portS m b.f0 = false then some () else fst (gDup b.f0) (bs.take i) 0
/-- What is wrong with an instance, but for its numbers. -/
def instS (l : List S34) (at_ : Int) (x : S49) : Int :=
  if findS l x.f4 < 0 then 51 else if findS l x.f4 ≥ at_ then 54 else
  if x.f5.length ≠ (l.getD (findS l x.f4).toNat z34).f1.length then 1 else
  if x.f6.length ≠ ((l.getD (findS l x.f4).toNat z34).f2.filter (·.f0)).length then 53 else
  if (fst (gBind (l.getD (findS l x.f4).toNat z34) x.f6) x.f6 0).isSome = true then 53 else 0
theorem filter_step {α : Type} (p : α → Bool) (l : List α) (i : Nat) (h : i < l.length) : ((l.take (i + 1)).filter p).length = ((l.take i).filter p).length + if p l[i] = true then 1 else 0 := by
  rw [List.take_succ_eq_append_getElem h, List.filter_append, List.length_append]
  by_cases c : p l[i] = true <;> simp [List.filter_cons, c]
set_option maxHeartbeats 16000000 in
set_option maxRecDepth 100000 in
theorem inst_any (A0 : Option Addr) (c0 : Nat) (l : List S34) (at_ : Int) (x : S49) (cs : List Value) (w : World) (h0 : Kd.C k34 w A0 l.length l) (h : k49.K w x cs) :
    Calls Try.prog 60 #[.agg #[.slice A0 l.length c0], .int .i64 at_, .agg cs.toArray] w fun e w' => e = .returned (.int .i64 (instS l at_ x)) ∧ Below w.heap.size w w' := by
  have HC := Aside0.mk h0
  obtain ⟨A7, c7, A8, c8, A19, c19, A30, c30, A41, c41, rfl, hl7, hC7, hl8, hC8, hl19, hC19, hl30, hC30, hl41, hC41⟩ := k49_open h
  have HC8 := Aside0.mk hC8
  have hm7 : x.f5.length ≤ 9223372036854775807 := hC7.2.1
  have hm8 : x.f6.length ≤ 9223372036854775807 := hC8.2.1
  have K1 := Aside0.mk (fun w' (hb : Below w.heap.size w w') => find_any A0 c0 l x.f4 w' (Kd.C_below h0 hb))
  have hfr := find_range l x.f4
  unfold instS
  obtain ⟨n, hn⟩ : ∃ n, findS l x.f4 = n := ⟨_, rfl⟩
  rw [hn] at K1 hfr ⊢
  clear hn h0 h hl7 hC7 hl8 hC8 hl19 hC19 hl30 hC30 hl41 hC41
  by_cases hn0 : n < 0
  · rw [if_pos hn0]
    go_enter Try.func60, Try.ntmps60
    go_wp2_with fail
    refine (K1.out _ (below_alloc (below_alloc (Below.refl _ _) _) _)).mono ?_
    rintro e w1 ⟨rfl, hb⟩
    go_wp2
    go_ret
    exact ⟨rfl, below_step (below_alloc (below_alloc (Below.refl _ _) _) _) hb⟩
  rw [if_neg hn0]
  by_cases hna : n ≥ at_
  · rw [if_pos hna]
    go_enter Try.func60, Try.ntmps60
    go_wp2_with fail
    refine (K1.out _ (below_alloc (below_alloc (Below.refl _ _) _) _)).mono ?_
    rintro e w1 ⟨rfl, hb⟩
    go_wp2
    go_ret
    exact ⟨rfl, below_step (below_alloc (below_alloc (Below.refl _ _) _) _) hb⟩
  rw [if_neg hna]
  obtain ⟨n, rfl⟩ : ∃ b : Nat, n = (b : Int) := ⟨n.toNat, by omega⟩
  have hnl : n < l.length := by omega
  have hnl2 : (n : Int) < (l.length : Int) := by omega
  have hnn : (0 : Int) ≤ (n : Int) := by omega
  rw [Int.toNat_natCast, show l.getD n z34 = l[n] by simp [List.getD_eq_getElem?_getD, hnl]]
  obtain ⟨m, hm⟩ : ∃ m, l[n] = m := ⟨_, rfl⟩
  have HMN := Aside0.mk hm
  rw [hm]
  clear hm
  obtain ⟨r, hr⟩ : ∃ r, (if x.f5.length ≠ m.f1.length then (1 : Int) else if x.f6.length ≠ (m.f2.filter (·.f0)).length then 53 else if (fst (gBind m x.f6) x.f6 0).isSome = true then 53 else 0) = r := ⟨_, rfl⟩
  rw [hr]
  have HR0 := Aside0.mk hr
  clear hr
  have hna' : (n : Int) < at_ := by omega
  clear hfr hn0 hna
  go_enter Try.func60, Try.ntmps60
  go_wp2_with fail
  refine (K1.out _ (below_alloc (below_alloc (Below.refl _ _) _) _)).mono ?_
  rintro e w1 ⟨rfl, hb⟩
  have hw0 : w1.cell? ⟨w.heap.size, 0, none⟩ = some (.slice A0 l.length c0) := (hb.cell (p := ⟨w.heap.size, 0, none⟩) (by simp; omega)).trans (by go_simp)
  have HK5 : Aside0 (w1.heap[w.heap.size + 1]? = some (.cells #[.int .i64 x.f0, .string x.f1, .string x.f2.f0, .int .i64 x.f2.f1, .string x.f3.f0, .int .i64 x.f3.f1, .string x.f4, .slice A7 x.f5.length c7, .slice A8 x.f6.length c8, .int .i64 x.f7.f0, .string x.f7.f1.f0, .int .i64 x.f7.f1.f1, .string x.f7.f2.f0, .int .i64 x.f7.f2.f1, .string x.f7.f3.f0, .int .i64 x.f7.f3.f1, .string x.f7.f4.f0, .int .i64 x.f7.f4.f1, .string x.f7.f5, .slice A19 x.f7.f6.length c19, .int .i64 x.f8.f0, .string x.f8.f1.f0, .int .i64 x.f8.f1.f1, .string x.f8.f2.f0, .int .i64 x.f8.f2.f1, .string x.f8.f3.f0, .int .i64 x.f8.f3.f1, .string x.f8.f4.f0, .int .i64 x.f8.f4.f1, .string x.f8.f5, .slice A30 x.f8.f6.length c30, .int .i64 x.f9.f0, .string x.f9.f1.f0, .int .i64 x.f9.f1.f1, .string x.f9.f2.f0, .int .i64 x.f9.f2.f1, .string x.f9.f3.f0, .int .i64 x.f9.f3.f1, .string x.f9.f4.f0, .int .i64 x.f9.f4.f1, .string x.f9.f5, .slice A41 x.f9.f6.length c41] 49 (0, 0))) := ⟨(hb.block _ (by simp)).trans (by rw [← alloc_size w (.cells #[.slice A0 l.length c0] 24)]; exact alloc_new _ _)⟩
  have HB := Aside0.mk (below_step (below_alloc (below_alloc (Below.refl _ _) _) _) hb)
  have hz1 : w.heap.size + 1 < w1.heap.size := blk_lt HK5.out
  have hz0 : w.heap.size < w1.heap.size := by omega
  clear hb K1
  have h57 : w1.cell? ⟨w.heap.size + 1, 7, none⟩ = some (.slice A7 x.f5.length c7) := blk_cell HK5.out 7
  obtain ⟨ad2, M1, d1, M2, d2, M3, d3, rfl, hy1, hy2, hy3, hy4, hl1, hC1, hl2, hC2, hl3, hC3⟩ := at34 (Kd.C_below HC.out HB.out) n hnl
  have HK := Aside0.mk (k34_mk w1 l[n] hl1 hC1 hl2 hC2 hl3 hC3)
  have HC2 := Aside0.mk hC2
  have hm1 : l[n].f1.length ≤ 9223372036854775807 := hC1.2.1
  have hm2 : l[n].f2.length ≤ 9223372036854775807 := hC2.2.1
  clear hl1 hC1 hl2 hC2 hl3 hC3
  have hm := HMN.out
  rw [hm] at hy1 hy2 hy3 hy4 HK HC2 hm1 hm2
  clear hm
  have hr := HR0.out
  clear HR0
  by_cases hla : x.f5.length ≠ m.f1.length
  · have hla' : ((x.f5.length : Int) != (m.f1.length : Int)) = true := by simp; omega
    have HR : Aside0 (r = 1) := ⟨by rw [← hr, if_pos hla]⟩
    clear hr
    go_wp2
    go_ret
    exact ⟨by rw [HR.out]; rfl, by repeat (first | exact HB.out | apply below_alloc | refine below_set ?_ (Nat.le_of_lt hz0))⟩
  have hla' : ((x.f5.length : Int) != (m.f1.length : Int)) = false := by simp; omega
  rw [if_neg hla] at hr
  have HR := Aside0.mk hr
  clear hla hr
  go_wp2
  have HG := Aside0.mk (alloc_new w1 (.cells #[.string m.f0, .slice M1 m.f1.length d1, .slice M2 m.f2.length d2, .slice M3 m.f3.length d3] 34))
  have HK6 : Aside0 ((w1.alloc (.cells #[.string m.f0, .slice M1 m.f1.length d1, .slice M2 m.f2.length d2, .slice M3 m.f3.length d3] 34)).heap[w.heap.size + 1]? = some (.cells #[.int .i64 x.f0, .string x.f1, .string x.f2.f0, .int .i64 x.f2.f1, .string x.f3.f0, .int .i64 x.f3.f1, .string x.f4, .slice A7 x.f5.length c7, .slice A8 x.f6.length c8, .int .i64 x.f7.f0, .string x.f7.f1.f0, .int .i64 x.f7.f1.f1, .string x.f7.f2.f0, .int .i64 x.f7.f2.f1, .string x.f7.f3.f0, .int .i64 x.f7.f3.f1, .string x.f7.f4.f0, .int .i64 x.f7.f4.f1, .string x.f7.f5, .slice A19 x.f7.f6.length c19, .int .i64 x.f8.f0, .string x.f8.f1.f0, .int .i64 x.f8.f1.f1, .string x.f8.f2.f0, .int .i64 x.f8.f2.f1, .string x.f8.f3.f0, .int .i64 x.f8.f3.f1, .string x.f8.f4.f0, .int .i64 x.f8.f4.f1, .string x.f8.f5, .slice A30 x.f8.f6.length c30, .int .i64 x.f9.f0, .string x.f9.f1.f0, .int .i64 x.f9.f1.f1, .string x.f9.f2.f0, .int .i64 x.f9.f2.f1, .string x.f9.f3.f0, .int .i64 x.f9.f3.f1, .string x.f9.f4.f0, .int .i64 x.f9.f4.f1, .string x.f9.f5, .slice A41 x.f9.f6.length c41] 49 (0, 0))) := ⟨(alloc_old w1 _ _ hz1).trans HK5.out⟩
  have HB2 : Aside0 (Below w.heap.size w (w1.alloc (.cells #[.string m.f0, .slice M1 m.f1.length d1, .slice M2 m.f2.length d2, .slice M3 m.f3.length d3] 34))) := ⟨below_alloc HB.out _⟩
  obtain ⟨g, hg⟩ : ∃ g, w1.heap.size = g := ⟨_, rfl⟩
  rw [hg] at HG hz0 hz1
  have HGE := Aside0.mk hz0
  clear HK5 hw0 h57 hy1 hy2 hy3 hy4 hla'
  have HKM := Aside0.mk (fun w' (hb : Below w1.heap.size w1 w') => k34.K_below hb HK.out)
  go_loopw [9, 10] (fun a b wr => ∃ i : Nat, b = .int .i64 (i : Int) ∧ a = .int .i64 (((m.f2.take i).filter (·.f0)).length : Nat) ∧ i ≤ m.f2.length ∧ Aside0 (wr.heap[g]? = some (.cells #[.string m.f0, .slice M1 m.f1.length d1, .slice M2 m.f2.length d2, .slice M3 m.f3.length d3] 34 (0, 0))) ∧ Aside0 (wr.heap[w.heap.size + 1]? = some (.cells #[.int .i64 x.f0, .string x.f1, .string x.f2.f0, .int .i64 x.f2.f1, .string x.f3.f0, .int .i64 x.f3.f1, .string x.f4, .slice A7 x.f5.length c7, .slice A8 x.f6.length c8, .int .i64 x.f7.f0, .string x.f7.f1.f0, .int .i64 x.f7.f1.f1, .string x.f7.f2.f0, .int .i64 x.f7.f2.f1, .string x.f7.f3.f0, .int .i64 x.f7.f3.f1, .string x.f7.f4.f0, .int .i64 x.f7.f4.f1, .string x.f7.f5, .slice A19 x.f7.f6.length c19, .int .i64 x.f8.f0, .string x.f8.f1.f0, .int .i64 x.f8.f1.f1, .string x.f8.f2.f0, .int .i64 x.f8.f2.f1, .string x.f8.f3.f0, .int .i64 x.f8.f3.f1, .string x.f8.f4.f0, .int .i64 x.f8.f4.f1, .string x.f8.f5, .slice A30 x.f8.f6.length c30, .int .i64 x.f9.f0, .string x.f9.f1.f0, .int .i64 x.f9.f1.f1, .string x.f9.f2.f0, .int .i64 x.f9.f2.f1, .string x.f9.f3.f0, .int .i64 x.f9.f3.f1, .string x.f9.f4.f0, .int .i64 x.f9.f4.f1, .string x.f9.f5, .slice A41 x.f9.f6.length c41] 49 (0, 0))) ∧ Aside0 (Below w1.heap.size w1 wr)) (fun _ b _ => m.f2.length - (intOf b).toNat)
  case atStart => exact ⟨0, rfl, rfl, Nat.zero_le _, HG, HK6, ⟨below_alloc (Below.refl _ _) _⟩⟩
  case round =>
    clear HG HK6 HB2
    obtain ⟨i, rfl, rfl, hi, HKG, HK5, HB1⟩ := hrel
    have hkg2 : wr.cell? ⟨g, 2, none⟩ = some (.slice M2 m.f2.length d2) := blk_cell HKG.out 2
    have hk58 : wr.cell? ⟨w.heap.size + 1, 8, none⟩ = some (.slice A8 x.f6.length c8) := blk_cell HK5.out 8
    have hcnt : ((m.f2.take i).filter (·.f0)).length ≤ i := Nat.le_trans (List.length_filter_le _ _) (by rw [List.length_take]; omega)
    by_cases hlt : i < m.f2.length
    · obtain ⟨ad, rfl, hx0, _⟩ := at59 (Kd.C_below HC2.out HB1.out) i hlt
      have hfs := filter_step (·.f0) m.f2 i hlt
      obtain ⟨cnt, hc⟩ : ∃ c, ((m.f2.take i).filter (·.f0)).length = c := ⟨_, rfl⟩
      rw [hc] at hcnt hfs ⊢
      cases hf : m.f2[i].f0
      · rw [hf] at hfs
        have HFS := Aside0.mk hfs
        clear hfs hc
        go_wp2
        go_roundw
        case rel => exact ⟨i + 1, by go_num, by rw [HFS.out]; simp, by omega, HKG, HK5, HB1⟩
        case measure => simp [intOf]; omega
      · rw [hf] at hfs
        have HFS := Aside0.mk hfs
        clear hfs hc
        go_wp2
        go_roundw
        case rel => exact ⟨i + 1, by go_num, by rw [HFS.out]; simp, by omega, HKG, HK5, HB1⟩
        case measure => simp [intOf]; omega
    · obtain rfl : i = m.f2.length := by omega
      rw [List.take_length] at hcnt ⊢
      obtain ⟨cnt, hc⟩ : ∃ c, (m.f2.filter (·.f0)).length = c := ⟨_, rfl⟩
      have hr := HR.out
      rw [hc] at hcnt hr ⊢
      clear hc HR
      by_cases hlb : x.f6.length ≠ cnt
      · have hlb' : ((x.f6.length : Int) != (cnt : Int)) = true := by simp; omega
        have HR : Aside0 (r = 53) := ⟨by rw [← hr, if_pos hlb]⟩
        clear hr
        go_wp2
        go_ret
        exact ⟨by rw [HR.out]; rfl, below_step HB.out HB1.out⟩
      have hlb' : ((x.f6.length : Int) != (cnt : Int)) = false := by simp; omega
      rw [if_neg hlb] at hr
      obtain ⟨z, hz⟩ : ∃ z, fst (gBind m x.f6) x.f6 0 = z := ⟨_, rfl⟩
      rw [hz] at hr
      have HZ := Aside0.mk hz
      have HR := Aside0.mk hr
      have HKG0 := HKG
      have HK50 := HK5
      have HB10 := HB1
      clear hz hr hlb HKG HK5 HB1
      go_wp2
      go_loopw [11] (fun v wr => ∃ i : Nat, v = .int .i64 (i : Int) ∧ i ≤ x.f6.length ∧ Aside0 (fst (gBind m x.f6) (x.f6.drop i) i = z) ∧ Aside0 (wr.heap[g]? = some (.cells #[.string m.f0, .slice M1 m.f1.length d1, .slice M2 m.f2.length d2, .slice M3 m.f3.length d3] 34 (0, 0))) ∧ Aside0 (wr.heap[w.heap.size + 1]? = some (.cells #[.int .i64 x.f0, .string x.f1, .string x.f2.f0, .int .i64 x.f2.f1, .string x.f3.f0, .int .i64 x.f3.f1, .string x.f4, .slice A7 x.f5.length c7, .slice A8 x.f6.length c8, .int .i64 x.f7.f0, .string x.f7.f1.f0, .int .i64 x.f7.f1.f1, .string x.f7.f2.f0, .int .i64 x.f7.f2.f1, .string x.f7.f3.f0, .int .i64 x.f7.f3.f1, .string x.f7.f4.f0, .int .i64 x.f7.f4.f1, .string x.f7.f5, .slice A19 x.f7.f6.length c19, .int .i64 x.f8.f0, .string x.f8.f1.f0, .int .i64 x.f8.f1.f1, .string x.f8.f2.f0, .int .i64 x.f8.f2.f1, .string x.f8.f3.f0, .int .i64 x.f8.f3.f1, .string x.f8.f4.f0, .int .i64 x.f8.f4.f1, .string x.f8.f5, .slice A30 x.f8.f6.length c30, .int .i64 x.f9.f0, .string x.f9.f1.f0, .int .i64 x.f9.f1.f1, .string x.f9.f2.f0, .int .i64 x.f9.f2.f1, .string x.f9.f3.f0, .int .i64 x.f9.f3.f1, .string x.f9.f4.f0, .int .i64 x.f9.f4.f1, .string x.f9.f5, .slice A41 x.f9.f6.length c41] 49 (0, 0))) ∧ Aside0 (Below w1.heap.size w1 wr)) (fun v _ => x.f6.length - (intOf v).toNat)
      case atStart => exact ⟨0, rfl, Nat.zero_le _, ⟨HZ.out⟩, HKG0, HK50, HB10⟩
      case round =>
        clear HKG0 HK50 HB10
        obtain ⟨i, rfl, hi, HI, HKG, HK5, HB1⟩ := hrel
        have hkg0 : wr.cell? ⟨g, 0, none⟩ = some (.string m.f0) := blk_cell HKG.out 0
        have hkg1 : wr.cell? ⟨g, 1, none⟩ = some (.slice M1 m.f1.length d1) := blk_cell HKG.out 1
        have hkg2 : wr.cell? ⟨g, 2, none⟩ = some (.slice M2 m.f2.length d2) := blk_cell HKG.out 2
        have hkg3 : wr.cell? ⟨g, 3, none⟩ = some (.slice M3 m.f3.length d3) := blk_cell HKG.out 3
        have hk58 : wr.cell? ⟨w.heap.size + 1, 8, none⟩ = some (.slice A8 x.f6.length c8) := blk_cell HK5.out 8
        have hgs : g < wr.heap.size := blk_lt HKG.out
        have hgs2 : w.heap.size + 1 < wr.heap.size := blk_lt HK5.out
        by_cases hlt : i < x.f6.length
        · obtain ⟨nm, hnm⟩ : ∃ nm, x.f6[i].f0 = nm := ⟨_, rfl⟩
          have HNM := Aside0.mk hnm
          obtain ⟨ad, rfl, hx0⟩ := at64a (Kd.C_below HC8.out (below_step HB.out HB1.out)) i hlt
          rw [hnm] at hx0
          have hbk := World.block_lt_of_cell? wr _ hx0
          have KP := Aside0.mk (fun w' cs' (h : k34.K w' m cs') => port_any m cs' nm w' h)
          obtain ⟨p, hp⟩ : ∃ p, portS m nm = p := ⟨_, rfl⟩
          rw [hp] at KP
          have HP := Aside0.mk hp
          clear hnm hp
          go_wp2
          go_region_held3 (fun w' => w'.cell? ⟨g, 0, none⟩ = some (.string m.f0) ∧ w'.cell? ⟨g, 1, none⟩ = some (.slice M1 m.f1.length d1) ∧ w'.cell? ⟨g, 2, none⟩ = some (.slice M2 m.f2.length d2) ∧ w'.cell? ⟨g, 3, none⟩ = some (.slice M3 m.f3.length d3) ∧ w'.cell? ⟨w.heap.size + 1, 8, none⟩ = some (.slice (some ad) x.f6.length c8) ∧ w'.cell? (ad.add (i * 12)) = some (.string nm))
            (go_keep)
            (first | (go_at_call 67; refine (KP.out _ _ (HKM.out _ (below_drew HB1.out))).mono ?_; rintro e w3 ⟨rfl, hb⟩; obtain ⟨hc, hf⟩ := bcell (below_step (below_drew (Below.refl wr.heap.size wr)) hb)))
          have HKG2 : Aside0 (w3.heap[g]? = some (.cells #[.string m.f0, .slice M1 m.f1.length d1, .slice M2 m.f2.length d2, .slice M3 m.f3.length d3] 34 (0, 0))) := ⟨(hb.block _ (by simp; omega)).trans HKG.out⟩
          have HK52 : Aside0 (w3.heap[w.heap.size + 1]? = some (.cells #[.int .i64 x.f0, .string x.f1, .string x.f2.f0, .int .i64 x.f2.f1, .string x.f3.f0, .int .i64 x.f3.f1, .string x.f4, .slice A7 x.f5.length c7, .slice (some ad) x.f6.length c8, .int .i64 x.f7.f0, .string x.f7.f1.f0, .int .i64 x.f7.f1.f1, .string x.f7.f2.f0, .int .i64 x.f7.f2.f1, .string x.f7.f3.f0, .int .i64 x.f7.f3.f1, .string x.f7.f4.f0, .int .i64 x.f7.f4.f1, .string x.f7.f5, .slice A19 x.f7.f6.length c19, .int .i64 x.f8.f0, .string x.f8.f1.f0, .int .i64 x.f8.f1.f1, .string x.f8.f2.f0, .int .i64 x.f8.f2.f1, .string x.f8.f3.f0, .int .i64 x.f8.f3.f1, .string x.f8.f4.f0, .int .i64 x.f8.f4.f1, .string x.f8.f5, .slice A30 x.f8.f6.length c30, .int .i64 x.f9.f0, .string x.f9.f1.f0, .int .i64 x.f9.f1.f1, .string x.f9.f2.f0, .int .i64 x.f9.f2.f1, .string x.f9.f3.f0, .int .i64 x.f9.f3.f1, .string x.f9.f4.f0, .int .i64 x.f9.f4.f1, .string x.f9.f5, .slice A41 x.f9.f6.length c41] 49 (0, 0))) := ⟨(hb.block _ (by simp; omega)).trans HK5.out⟩
          have HB12 : Aside0 (Below w1.heap.size w1 w3) := ⟨below_step (below_drew HB1.out) hb⟩
          clear hc hf hb hkg0 hkg1 hkg2 hkg3 hk58 hgs hgs2 hx0 hbk
          cases p
          · have HG1 : gBind m x.f6 x.f6[i] i = some () := by unfold gBind; rw [HNM.out, HP.out]; rfl
            have HE2 := (fst_hit (gBind m x.f6) x.f6 i hlt HG1).symm.trans HI.out
            have HE3 : Aside0 (r = 53) := ⟨by rw [← HR.out, ← HE2]; rfl⟩
            clear HG1 HE2
            go_wp2
            go_ret
            exact ⟨by rw [HE3.out]; rfl, below_step HB.out HB12.out⟩
          · obtain ⟨zi, hzi⟩ : ∃ zi, fst (gDup nm) (x.f6.take i) 0 = zi := ⟨_, rfl⟩
            have HZI := Aside0.mk hzi
            clear hzi
            obtain ⟨wo, rfl⟩ : ∃ wo : World, wo = wr := ⟨_, rfl⟩
            go_wp2
            go_loopw [13] (fun v wr => ∃ j : Nat, v = .int .i64 (j : Int) ∧ j ≤ i ∧ Aside0 (fst (gDup nm) ((x.f6.take i).drop j) j = zi) ∧ Aside0 (wr.heap[g]? = some (.cells #[.string m.f0, .slice M1 m.f1.length d1, .slice M2 m.f2.length d2, .slice M3 m.f3.length d3] 34 (0, 0))) ∧ Aside0 (wr.heap[w.heap.size + 1]? = some (.cells #[.int .i64 x.f0, .string x.f1, .string x.f2.f0, .int .i64 x.f2.f1, .string x.f3.f0, .int .i64 x.f3.f1, .string x.f4, .slice A7 x.f5.length c7, .slice (some ad) x.f6.length c8, .int .i64 x.f7.f0, .string x.f7.f1.f0, .int .i64 x.f7.f1.f1, .string x.f7.f2.f0, .int .i64 x.f7.f2.f1, .string x.f7.f3.f0, .int .i64 x.f7.f3.f1, .string x.f7.f4.f0, .int .i64 x.f7.f4.f1, .string x.f7.f5, .slice A19 x.f7.f6.length c19, .int .i64 x.f8.f0, .string x.f8.f1.f0, .int .i64 x.f8.f1.f1, .string x.f8.f2.f0, .int .i64 x.f8.f2.f1, .string x.f8.f3.f0, .int .i64 x.f8.f3.f1, .string x.f8.f4.f0, .int .i64 x.f8.f4.f1, .string x.f8.f5, .slice A30 x.f8.f6.length c30, .int .i64 x.f9.f0, .string x.f9.f1.f0, .int .i64 x.f9.f1.f1, .string x.f9.f2.f0, .int .i64 x.f9.f2.f1, .string x.f9.f3.f0, .int .i64 x.f9.f3.f1, .string x.f9.f4.f0, .int .i64 x.f9.f4.f1, .string x.f9.f5, .slice A41 x.f9.f6.length c41] 49 (0, 0))) ∧ Aside0 (Below w1.heap.size w1 wr)) (fun v _ => i - (intOf v).toNat)
            case atStart => exact ⟨0, rfl, Nat.zero_le _, ⟨HZI.out⟩, HKG2, HK52, HB12⟩
            case round =>
              clear HKG2 HK52 HB12
              obtain ⟨j, rfl, hj, HJ, HKG3, HK53, HB13⟩ := hrel
              have hk58 : wr.cell? ⟨w.heap.size + 1, 8, none⟩ = some (.slice (some ad) x.f6.length c8) := blk_cell HK53.out 8
              by_cases hltj : j < i
              · obtain ⟨ad', e1, hx0⟩ := at64a (Kd.C_below HC8.out (below_step HB.out HB13.out)) i hlt
                have hjl : j < x.f6.length := by omega
                obtain ⟨ad'', e2, hx1⟩ := at64a (Kd.C_below HC8.out (below_step HB.out HB13.out)) j hjl
                obtain rfl := Option.some.inj e1
                obtain rfl := Option.some.inj e2
                rw [HNM.out] at hx0
                have hjt : j < (x.f6.take i).length := by rw [List.length_take]; omega
                have hget : (x.f6.take i)[j] = x.f6[j] := by simp
                have hi0 : (0 : Int) ≤ (i : Int) := by omega
                have hj0 : (0 : Int) ≤ (j : Int) := by omega
                have hi1 : (i : Int) < (x.f6.length : Int) := by omega
                have hj1 : (j : Int) < (x.f6.length : Int) := by omega
                have hji : (j : Int) < (i : Int) := by omega
                cases hq : (x.f6[j].f0.toList == nm.toList)
                · have HE := (fst_miss (gDup nm) (x.f6.take i) j hjt (by rw [hget]; exact if_neg (by simp [eqS, hq]))).symm.trans HJ.out
                  go_wp2
                  go_quiet (fail)
                  go_wp2
                  go_roundw
                  case rel => exact ⟨j + 1, by go_num, by omega, ⟨HE⟩, HKG3, HK53, ⟨pw_below_drewN HB13.out _⟩⟩
                  case measure => simp [intOf]; omega
                · have HE := (fst_hit (gDup nm) (x.f6.take i) j hjt (b := ()) (by rw [hget]; exact if_pos hq)).symm.trans HJ.out
                  have HG1 : gBind m x.f6 x.f6[i] i = some () := by unfold gBind; rw [HNM.out, HP.out, if_neg (by decide), HZI.out, ← HE]
                  have HE2 := (fst_hit (gBind m x.f6) x.f6 i hlt HG1).symm.trans HI.out
                  have HE3 : Aside0 (r = 53) := ⟨by rw [← HR.out, ← HE2]; rfl⟩
                  clear HE HG1 HE2
                  go_wp2
                  go_quiet (fail)
                  go_wp2
                  go_ret
                  exact ⟨by rw [HE3.out]; rfl, pw_below_drewN (below_step HB.out HB13.out) _⟩
              · have HE := (fst_end (gDup nm) (x.f6.take i) j (by rw [List.length_take]; omega)).symm.trans HJ.out
                have HG1 : gBind m x.f6 x.f6[i] i = none := by unfold gBind; rw [HNM.out, HP.out, if_neg (by decide), HZI.out, ← HE]
                have HE2 := (fst_miss (gBind m x.f6) x.f6 i hlt HG1).symm.trans HI.out
                have hji : (i : Int) ≤ (j : Int) := by omega
                clear HE HG1
                go_wp2
                go_roundw
                case rel => exact ⟨i + 1, by go_num, by omega, ⟨HE2⟩, HKG3, HK53, HB13⟩
                case measure => simp [intOf]; omega
        · have HE := (fst_end (gBind m x.f6) x.f6 i (by omega)).symm.trans HI.out
          have HE3 : Aside0 (r = 0) := ⟨by rw [← HR.out, ← HE]; rfl⟩
          clear HE
          go_wp2
          go_ret
          exact ⟨by rw [HE3.out]; rfl, below_step HB.out HB1.out⟩
/-- What is wrong with an item by its kind, but for its numbers and expressions. -/
def kindOfS (l : List S34) (at_ : Int) (m : S34) (x : S49) : Int :=
  if x.f0 = 1 ∨ x.f0 = 2 ∨ x.f0 = 5 ∨ x.f0 = 8 ∨ x.f0 = 9 ∨ x.f0 = 10 then 0 else
  if x.f0 = 3 then amongS (kindS m x.f1).1 5 5 5 else if x.f0 = 4 then amongS (kindS m x.f1).1 3 3 3 else if x.f0 = 6 then amongS (kindS m x.f1).1 6 6 6 else
  if x.f0 = 7 then instS l at_ x else 52
theorem kindOf_n {l : List S34} {at_ : Int} {m : S34} {x : S49} {k : Int} (h : x.f0 = k) : kindOfS l at_ m x = if k = 1 ∨ k = 2 ∨ k = 5 ∨ k = 8 ∨ k = 9 ∨ k = 10 then 0 else
  if k = 3 then amongS (kindS m x.f1).1 5 5 5 else if k = 4 then amongS (kindS m x.f1).1 3 3 3 else if k = 6 then amongS (kindS m x.f1).1 6 6 6 else
  if k = 7 then instS l at_ x else 52 := by subst h; rfl
set_option maxHeartbeats 16000000 in
set_option maxRecDepth 100000 in
theorem kindOf_k1 (A0 : Option Addr) (c0 : Nat) (l : List S34) (n : Nat) (hnl : n < l.length) (x : S49) (cs : List Value) (w : World) (h0 : Kd.C k34 w A0 l.length l) (h : k49.K w x cs) (hk : x.f0 = 1) :
    Calls Try.prog 50 #[.agg #[.slice A0 l.length c0], .int .i64 (n : Int), .agg cs.toArray] w fun e w' => e = .returned (.int .i64 (kindOfS l n l[n] x)) ∧ Below w.heap.size w w' := by
  have HC := Aside0.mk h0
  have HX := Aside0.mk h
  have KI := Aside0.mk (fun w' cs' (hD : Kd.C k34 w' A0 l.length l) (hb : k49.K w' x cs') => inst_any A0 c0 l n x cs' w' hD hb)
  obtain ⟨A7, c7, A8, c8, A19, c19, A30, c30, A41, c41, rfl, _⟩ := k49_open h
  have hnl2 : (n : Int) < (l.length : Int) := by omega
  have hnn : (0 : Int) ≤ (n : Int) := by omega
  obtain ⟨m, hm⟩ : ∃ m, l[n] = m := ⟨_, rfl⟩
  have HMN := Aside0.mk hm
  rw [hm]
  have K5 := Aside0.mk (fun w' cs' (hb : k34.K w' m cs') => among_any m cs' x.f1 5 5 5 w' hb)
  have K3 := Aside0.mk (fun w' cs' (hb : k34.K w' m cs') => among_any m cs' x.f1 3 3 3 w' hb)
  have K6 := Aside0.mk (fun w' cs' (hb : k34.K w' m cs') => among_any m cs' x.f1 6 6 6 w' hb)
  have hb2 : Below w.heap.size w ((w.alloc (.cells #[.slice A0 l.length c0] 24)).alloc (.cells #[.int .i64 x.f0, .string x.f1, .string x.f2.f0, .int .i64 x.f2.f1, .string x.f3.f0, .int .i64 x.f3.f1, .string x.f4, .slice A7 x.f5.length c7, .slice A8 x.f6.length c8, .int .i64 x.f7.f0, .string x.f7.f1.f0, .int .i64 x.f7.f1.f1, .string x.f7.f2.f0, .int .i64 x.f7.f2.f1, .string x.f7.f3.f0, .int .i64 x.f7.f3.f1, .string x.f7.f4.f0, .int .i64 x.f7.f4.f1, .string x.f7.f5, .slice A19 x.f7.f6.length c19, .int .i64 x.f8.f0, .string x.f8.f1.f0, .int .i64 x.f8.f1.f1, .string x.f8.f2.f0, .int .i64 x.f8.f2.f1, .string x.f8.f3.f0, .int .i64 x.f8.f3.f1, .string x.f8.f4.f0, .int .i64 x.f8.f4.f1, .string x.f8.f5, .slice A30 x.f8.f6.length c30, .int .i64 x.f9.f0, .string x.f9.f1.f0, .int .i64 x.f9.f1.f1, .string x.f9.f2.f0, .int .i64 x.f9.f2.f1, .string x.f9.f3.f0, .int .i64 x.f9.f3.f1, .string x.f9.f4.f0, .int .i64 x.f9.f4.f1, .string x.f9.f5, .slice A41 x.f9.f6.length c41] 49)) := below_alloc (below_alloc (Below.refl _ _) _) _
  obtain ⟨ad2, M1, d1, M2, d2, M3, d3, rfl, hy1, hy2, hy3, hy4, hl1, hC1, hl2, hC2, hl3, hC3⟩ := at34 (Kd.C_below HC.out hb2) n hnl
  have HK := Aside0.mk (k34_mk _ l[n] hl1 hC1 hl2 hC2 hl3 hC3)
  rw [hm] at hy1 hy2 hy3 hy4 HK
  have HB := Aside0.mk hb2
  obtain ⟨r, hr⟩ : ∃ r, kindOfS l n m x = r := ⟨_, rfl⟩
  rw [hr]
  obtain ⟨kd, hkd⟩ : ∃ k, x.f0 = k := ⟨_, rfl⟩
  rw [kindOf_n hkd] at hr
  rw [hkd] at HB hy1 hy2 hy3 hy4 HK HX ⊢
  have HKD := Aside0.mk hkd
  clear hb2 hl1 hC1 hl2 hC2 hl3 hC3 h0 h hm hkd
  obtain rfl : kd = 1 := HKD.out.symm.trans hk
  · have HR := Aside0.mk hr
    clear hr
    go_enter Try.func50, Try.ntmps50
    go_wp2
    go_ret
    exact ⟨by rw [← HR.out]; rfl, below_alloc HB.out _⟩
set_option maxHeartbeats 16000000 in
set_option maxRecDepth 100000 in
theorem kindOf_k2 (A0 : Option Addr) (c0 : Nat) (l : List S34) (n : Nat) (hnl : n < l.length) (x : S49) (cs : List Value) (w : World) (h0 : Kd.C k34 w A0 l.length l) (h : k49.K w x cs) (hk : x.f0 = 2) :
    Calls Try.prog 50 #[.agg #[.slice A0 l.length c0], .int .i64 (n : Int), .agg cs.toArray] w fun e w' => e = .returned (.int .i64 (kindOfS l n l[n] x)) ∧ Below w.heap.size w w' := by
  have HC := Aside0.mk h0
  have HX := Aside0.mk h
  have KI := Aside0.mk (fun w' cs' (hD : Kd.C k34 w' A0 l.length l) (hb : k49.K w' x cs') => inst_any A0 c0 l n x cs' w' hD hb)
  obtain ⟨A7, c7, A8, c8, A19, c19, A30, c30, A41, c41, rfl, _⟩ := k49_open h
  have hnl2 : (n : Int) < (l.length : Int) := by omega
  have hnn : (0 : Int) ≤ (n : Int) := by omega
  obtain ⟨m, hm⟩ : ∃ m, l[n] = m := ⟨_, rfl⟩
  have HMN := Aside0.mk hm
  rw [hm]
  have K5 := Aside0.mk (fun w' cs' (hb : k34.K w' m cs') => among_any m cs' x.f1 5 5 5 w' hb)
  have K3 := Aside0.mk (fun w' cs' (hb : k34.K w' m cs') => among_any m cs' x.f1 3 3 3 w' hb)
  have K6 := Aside0.mk (fun w' cs' (hb : k34.K w' m cs') => among_any m cs' x.f1 6 6 6 w' hb)
  have hb2 : Below w.heap.size w ((w.alloc (.cells #[.slice A0 l.length c0] 24)).alloc (.cells #[.int .i64 x.f0, .string x.f1, .string x.f2.f0, .int .i64 x.f2.f1, .string x.f3.f0, .int .i64 x.f3.f1, .string x.f4, .slice A7 x.f5.length c7, .slice A8 x.f6.length c8, .int .i64 x.f7.f0, .string x.f7.f1.f0, .int .i64 x.f7.f1.f1, .string x.f7.f2.f0, .int .i64 x.f7.f2.f1, .string x.f7.f3.f0, .int .i64 x.f7.f3.f1, .string x.f7.f4.f0, .int .i64 x.f7.f4.f1, .string x.f7.f5, .slice A19 x.f7.f6.length c19, .int .i64 x.f8.f0, .string x.f8.f1.f0, .int .i64 x.f8.f1.f1, .string x.f8.f2.f0, .int .i64 x.f8.f2.f1, .string x.f8.f3.f0, .int .i64 x.f8.f3.f1, .string x.f8.f4.f0, .int .i64 x.f8.f4.f1, .string x.f8.f5, .slice A30 x.f8.f6.length c30, .int .i64 x.f9.f0, .string x.f9.f1.f0, .int .i64 x.f9.f1.f1, .string x.f9.f2.f0, .int .i64 x.f9.f2.f1, .string x.f9.f3.f0, .int .i64 x.f9.f3.f1, .string x.f9.f4.f0, .int .i64 x.f9.f4.f1, .string x.f9.f5, .slice A41 x.f9.f6.length c41] 49)) := below_alloc (below_alloc (Below.refl _ _) _) _
  obtain ⟨ad2, M1, d1, M2, d2, M3, d3, rfl, hy1, hy2, hy3, hy4, hl1, hC1, hl2, hC2, hl3, hC3⟩ := at34 (Kd.C_below HC.out hb2) n hnl
  have HK := Aside0.mk (k34_mk _ l[n] hl1 hC1 hl2 hC2 hl3 hC3)
  rw [hm] at hy1 hy2 hy3 hy4 HK
  have HB := Aside0.mk hb2
  obtain ⟨r, hr⟩ : ∃ r, kindOfS l n m x = r := ⟨_, rfl⟩
  rw [hr]
  obtain ⟨kd, hkd⟩ : ∃ k, x.f0 = k := ⟨_, rfl⟩
  rw [kindOf_n hkd] at hr
  rw [hkd] at HB hy1 hy2 hy3 hy4 HK HX ⊢
  have HKD := Aside0.mk hkd
  clear hb2 hl1 hC1 hl2 hC2 hl3 hC3 h0 h hm hkd
  obtain rfl : kd = 2 := HKD.out.symm.trans hk
  · have HR := Aside0.mk hr
    clear hr
    go_enter Try.func50, Try.ntmps50
    go_wp2
    go_ret
    exact ⟨by rw [← HR.out]; rfl, below_alloc HB.out _⟩
set_option maxHeartbeats 16000000 in
set_option maxRecDepth 100000 in
theorem kindOf_k5 (A0 : Option Addr) (c0 : Nat) (l : List S34) (n : Nat) (hnl : n < l.length) (x : S49) (cs : List Value) (w : World) (h0 : Kd.C k34 w A0 l.length l) (h : k49.K w x cs) (hk : x.f0 = 5) :
    Calls Try.prog 50 #[.agg #[.slice A0 l.length c0], .int .i64 (n : Int), .agg cs.toArray] w fun e w' => e = .returned (.int .i64 (kindOfS l n l[n] x)) ∧ Below w.heap.size w w' := by
  have HC := Aside0.mk h0
  have HX := Aside0.mk h
  have KI := Aside0.mk (fun w' cs' (hD : Kd.C k34 w' A0 l.length l) (hb : k49.K w' x cs') => inst_any A0 c0 l n x cs' w' hD hb)
  obtain ⟨A7, c7, A8, c8, A19, c19, A30, c30, A41, c41, rfl, _⟩ := k49_open h
  have hnl2 : (n : Int) < (l.length : Int) := by omega
  have hnn : (0 : Int) ≤ (n : Int) := by omega
  obtain ⟨m, hm⟩ : ∃ m, l[n] = m := ⟨_, rfl⟩
  have HMN := Aside0.mk hm
  rw [hm]
  have K5 := Aside0.mk (fun w' cs' (hb : k34.K w' m cs') => among_any m cs' x.f1 5 5 5 w' hb)
  have K3 := Aside0.mk (fun w' cs' (hb : k34.K w' m cs') => among_any m cs' x.f1 3 3 3 w' hb)
  have K6 := Aside0.mk (fun w' cs' (hb : k34.K w' m cs') => among_any m cs' x.f1 6 6 6 w' hb)
  have hb2 : Below w.heap.size w ((w.alloc (.cells #[.slice A0 l.length c0] 24)).alloc (.cells #[.int .i64 x.f0, .string x.f1, .string x.f2.f0, .int .i64 x.f2.f1, .string x.f3.f0, .int .i64 x.f3.f1, .string x.f4, .slice A7 x.f5.length c7, .slice A8 x.f6.length c8, .int .i64 x.f7.f0, .string x.f7.f1.f0, .int .i64 x.f7.f1.f1, .string x.f7.f2.f0, .int .i64 x.f7.f2.f1, .string x.f7.f3.f0, .int .i64 x.f7.f3.f1, .string x.f7.f4.f0, .int .i64 x.f7.f4.f1, .string x.f7.f5, .slice A19 x.f7.f6.length c19, .int .i64 x.f8.f0, .string x.f8.f1.f0, .int .i64 x.f8.f1.f1, .string x.f8.f2.f0, .int .i64 x.f8.f2.f1, .string x.f8.f3.f0, .int .i64 x.f8.f3.f1, .string x.f8.f4.f0, .int .i64 x.f8.f4.f1, .string x.f8.f5, .slice A30 x.f8.f6.length c30, .int .i64 x.f9.f0, .string x.f9.f1.f0, .int .i64 x.f9.f1.f1, .string x.f9.f2.f0, .int .i64 x.f9.f2.f1, .string x.f9.f3.f0, .int .i64 x.f9.f3.f1, .string x.f9.f4.f0, .int .i64 x.f9.f4.f1, .string x.f9.f5, .slice A41 x.f9.f6.length c41] 49)) := below_alloc (below_alloc (Below.refl _ _) _) _
  obtain ⟨ad2, M1, d1, M2, d2, M3, d3, rfl, hy1, hy2, hy3, hy4, hl1, hC1, hl2, hC2, hl3, hC3⟩ := at34 (Kd.C_below HC.out hb2) n hnl
  have HK := Aside0.mk (k34_mk _ l[n] hl1 hC1 hl2 hC2 hl3 hC3)
  rw [hm] at hy1 hy2 hy3 hy4 HK
  have HB := Aside0.mk hb2
  obtain ⟨r, hr⟩ : ∃ r, kindOfS l n m x = r := ⟨_, rfl⟩
  rw [hr]
  obtain ⟨kd, hkd⟩ : ∃ k, x.f0 = k := ⟨_, rfl⟩
  rw [kindOf_n hkd] at hr
  rw [hkd] at HB hy1 hy2 hy3 hy4 HK HX ⊢
  have HKD := Aside0.mk hkd
  clear hb2 hl1 hC1 hl2 hC2 hl3 hC3 h0 h hm hkd
  obtain rfl : kd = 5 := HKD.out.symm.trans hk
  · have HR := Aside0.mk hr
    clear hr
    go_enter Try.func50, Try.ntmps50
    go_wp2
    go_ret
    exact ⟨by rw [← HR.out]; rfl, below_alloc HB.out _⟩
set_option maxHeartbeats 16000000 in
set_option maxRecDepth 100000 in
theorem kindOf_k8 (A0 : Option Addr) (c0 : Nat) (l : List S34) (n : Nat) (hnl : n < l.length) (x : S49) (cs : List Value) (w : World) (h0 : Kd.C k34 w A0 l.length l) (h : k49.K w x cs) (hk : x.f0 = 8) :
    Calls Try.prog 50 #[.agg #[.slice A0 l.length c0], .int .i64 (n : Int), .agg cs.toArray] w fun e w' => e = .returned (.int .i64 (kindOfS l n l[n] x)) ∧ Below w.heap.size w w' := by
  have HC := Aside0.mk h0
  have HX := Aside0.mk h
  have KI := Aside0.mk (fun w' cs' (hD : Kd.C k34 w' A0 l.length l) (hb : k49.K w' x cs') => inst_any A0 c0 l n x cs' w' hD hb)
  obtain ⟨A7, c7, A8, c8, A19, c19, A30, c30, A41, c41, rfl, _⟩ := k49_open h
  have hnl2 : (n : Int) < (l.length : Int) := by omega
  have hnn : (0 : Int) ≤ (n : Int) := by omega
  obtain ⟨m, hm⟩ : ∃ m, l[n] = m := ⟨_, rfl⟩
  have HMN := Aside0.mk hm
  rw [hm]
  have K5 := Aside0.mk (fun w' cs' (hb : k34.K w' m cs') => among_any m cs' x.f1 5 5 5 w' hb)
  have K3 := Aside0.mk (fun w' cs' (hb : k34.K w' m cs') => among_any m cs' x.f1 3 3 3 w' hb)
  have K6 := Aside0.mk (fun w' cs' (hb : k34.K w' m cs') => among_any m cs' x.f1 6 6 6 w' hb)
  have hb2 : Below w.heap.size w ((w.alloc (.cells #[.slice A0 l.length c0] 24)).alloc (.cells #[.int .i64 x.f0, .string x.f1, .string x.f2.f0, .int .i64 x.f2.f1, .string x.f3.f0, .int .i64 x.f3.f1, .string x.f4, .slice A7 x.f5.length c7, .slice A8 x.f6.length c8, .int .i64 x.f7.f0, .string x.f7.f1.f0, .int .i64 x.f7.f1.f1, .string x.f7.f2.f0, .int .i64 x.f7.f2.f1, .string x.f7.f3.f0, .int .i64 x.f7.f3.f1, .string x.f7.f4.f0, .int .i64 x.f7.f4.f1, .string x.f7.f5, .slice A19 x.f7.f6.length c19, .int .i64 x.f8.f0, .string x.f8.f1.f0, .int .i64 x.f8.f1.f1, .string x.f8.f2.f0, .int .i64 x.f8.f2.f1, .string x.f8.f3.f0, .int .i64 x.f8.f3.f1, .string x.f8.f4.f0, .int .i64 x.f8.f4.f1, .string x.f8.f5, .slice A30 x.f8.f6.length c30, .int .i64 x.f9.f0, .string x.f9.f1.f0, .int .i64 x.f9.f1.f1, .string x.f9.f2.f0, .int .i64 x.f9.f2.f1, .string x.f9.f3.f0, .int .i64 x.f9.f3.f1, .string x.f9.f4.f0, .int .i64 x.f9.f4.f1, .string x.f9.f5, .slice A41 x.f9.f6.length c41] 49)) := below_alloc (below_alloc (Below.refl _ _) _) _
  obtain ⟨ad2, M1, d1, M2, d2, M3, d3, rfl, hy1, hy2, hy3, hy4, hl1, hC1, hl2, hC2, hl3, hC3⟩ := at34 (Kd.C_below HC.out hb2) n hnl
  have HK := Aside0.mk (k34_mk _ l[n] hl1 hC1 hl2 hC2 hl3 hC3)
  rw [hm] at hy1 hy2 hy3 hy4 HK
  have HB := Aside0.mk hb2
  obtain ⟨r, hr⟩ : ∃ r, kindOfS l n m x = r := ⟨_, rfl⟩
  rw [hr]
  obtain ⟨kd, hkd⟩ : ∃ k, x.f0 = k := ⟨_, rfl⟩
  rw [kindOf_n hkd] at hr
  rw [hkd] at HB hy1 hy2 hy3 hy4 HK HX ⊢
  have HKD := Aside0.mk hkd
  clear hb2 hl1 hC1 hl2 hC2 hl3 hC3 h0 h hm hkd
  obtain rfl : kd = 8 := HKD.out.symm.trans hk
  · have HR := Aside0.mk hr
    clear hr
    go_enter Try.func50, Try.ntmps50
    go_wp2
    go_ret
    exact ⟨by rw [← HR.out]; rfl, below_alloc HB.out _⟩
set_option maxHeartbeats 16000000 in
set_option maxRecDepth 100000 in
theorem kindOf_k9 (A0 : Option Addr) (c0 : Nat) (l : List S34) (n : Nat) (hnl : n < l.length) (x : S49) (cs : List Value) (w : World) (h0 : Kd.C k34 w A0 l.length l) (h : k49.K w x cs) (hk : x.f0 = 9) :
    Calls Try.prog 50 #[.agg #[.slice A0 l.length c0], .int .i64 (n : Int), .agg cs.toArray] w fun e w' => e = .returned (.int .i64 (kindOfS l n l[n] x)) ∧ Below w.heap.size w w' := by
  have HC := Aside0.mk h0
  have HX := Aside0.mk h
  have KI := Aside0.mk (fun w' cs' (hD : Kd.C k34 w' A0 l.length l) (hb : k49.K w' x cs') => inst_any A0 c0 l n x cs' w' hD hb)
  obtain ⟨A7, c7, A8, c8, A19, c19, A30, c30, A41, c41, rfl, _⟩ := k49_open h
  have hnl2 : (n : Int) < (l.length : Int) := by omega
  have hnn : (0 : Int) ≤ (n : Int) := by omega
  obtain ⟨m, hm⟩ : ∃ m, l[n] = m := ⟨_, rfl⟩
  have HMN := Aside0.mk hm
  rw [hm]
  have K5 := Aside0.mk (fun w' cs' (hb : k34.K w' m cs') => among_any m cs' x.f1 5 5 5 w' hb)
  have K3 := Aside0.mk (fun w' cs' (hb : k34.K w' m cs') => among_any m cs' x.f1 3 3 3 w' hb)
  have K6 := Aside0.mk (fun w' cs' (hb : k34.K w' m cs') => among_any m cs' x.f1 6 6 6 w' hb)
  have hb2 : Below w.heap.size w ((w.alloc (.cells #[.slice A0 l.length c0] 24)).alloc (.cells #[.int .i64 x.f0, .string x.f1, .string x.f2.f0, .int .i64 x.f2.f1, .string x.f3.f0, .int .i64 x.f3.f1, .string x.f4, .slice A7 x.f5.length c7, .slice A8 x.f6.length c8, .int .i64 x.f7.f0, .string x.f7.f1.f0, .int .i64 x.f7.f1.f1, .string x.f7.f2.f0, .int .i64 x.f7.f2.f1, .string x.f7.f3.f0, .int .i64 x.f7.f3.f1, .string x.f7.f4.f0, .int .i64 x.f7.f4.f1, .string x.f7.f5, .slice A19 x.f7.f6.length c19, .int .i64 x.f8.f0, .string x.f8.f1.f0, .int .i64 x.f8.f1.f1, .string x.f8.f2.f0, .int .i64 x.f8.f2.f1, .string x.f8.f3.f0, .int .i64 x.f8.f3.f1, .string x.f8.f4.f0, .int .i64 x.f8.f4.f1, .string x.f8.f5, .slice A30 x.f8.f6.length c30, .int .i64 x.f9.f0, .string x.f9.f1.f0, .int .i64 x.f9.f1.f1, .string x.f9.f2.f0, .int .i64 x.f9.f2.f1, .string x.f9.f3.f0, .int .i64 x.f9.f3.f1, .string x.f9.f4.f0, .int .i64 x.f9.f4.f1, .string x.f9.f5, .slice A41 x.f9.f6.length c41] 49)) := below_alloc (below_alloc (Below.refl _ _) _) _
  obtain ⟨ad2, M1, d1, M2, d2, M3, d3, rfl, hy1, hy2, hy3, hy4, hl1, hC1, hl2, hC2, hl3, hC3⟩ := at34 (Kd.C_below HC.out hb2) n hnl
  have HK := Aside0.mk (k34_mk _ l[n] hl1 hC1 hl2 hC2 hl3 hC3)
  rw [hm] at hy1 hy2 hy3 hy4 HK
  have HB := Aside0.mk hb2
  obtain ⟨r, hr⟩ : ∃ r, kindOfS l n m x = r := ⟨_, rfl⟩
  rw [hr]
  obtain ⟨kd, hkd⟩ : ∃ k, x.f0 = k := ⟨_, rfl⟩
  rw [kindOf_n hkd] at hr
  rw [hkd] at HB hy1 hy2 hy3 hy4 HK HX ⊢
  have HKD := Aside0.mk hkd
  clear hb2 hl1 hC1 hl2 hC2 hl3 hC3 h0 h hm hkd
  obtain rfl : kd = 9 := HKD.out.symm.trans hk
  · have HR := Aside0.mk hr
    clear hr
    go_enter Try.func50, Try.ntmps50
    go_wp2
    go_ret
    exact ⟨by rw [← HR.out]; rfl, below_alloc HB.out _⟩
set_option maxHeartbeats 16000000 in
set_option maxRecDepth 100000 in
theorem kindOf_k10 (A0 : Option Addr) (c0 : Nat) (l : List S34) (n : Nat) (hnl : n < l.length) (x : S49) (cs : List Value) (w : World) (h0 : Kd.C k34 w A0 l.length l) (h : k49.K w x cs) (hk : x.f0 = 10) :
    Calls Try.prog 50 #[.agg #[.slice A0 l.length c0], .int .i64 (n : Int), .agg cs.toArray] w fun e w' => e = .returned (.int .i64 (kindOfS l n l[n] x)) ∧ Below w.heap.size w w' := by
  have HC := Aside0.mk h0
  have HX := Aside0.mk h
  have KI := Aside0.mk (fun w' cs' (hD : Kd.C k34 w' A0 l.length l) (hb : k49.K w' x cs') => inst_any A0 c0 l n x cs' w' hD hb)
  obtain ⟨A7, c7, A8, c8, A19, c19, A30, c30, A41, c41, rfl, _⟩ := k49_open h
  have hnl2 : (n : Int) < (l.length : Int) := by omega
  have hnn : (0 : Int) ≤ (n : Int) := by omega
  obtain ⟨m, hm⟩ : ∃ m, l[n] = m := ⟨_, rfl⟩
  have HMN := Aside0.mk hm
  rw [hm]
  have K5 := Aside0.mk (fun w' cs' (hb : k34.K w' m cs') => among_any m cs' x.f1 5 5 5 w' hb)
  have K3 := Aside0.mk (fun w' cs' (hb : k34.K w' m cs') => among_any m cs' x.f1 3 3 3 w' hb)
  have K6 := Aside0.mk (fun w' cs' (hb : k34.K w' m cs') => among_any m cs' x.f1 6 6 6 w' hb)
  have hb2 : Below w.heap.size w ((w.alloc (.cells #[.slice A0 l.length c0] 24)).alloc (.cells #[.int .i64 x.f0, .string x.f1, .string x.f2.f0, .int .i64 x.f2.f1, .string x.f3.f0, .int .i64 x.f3.f1, .string x.f4, .slice A7 x.f5.length c7, .slice A8 x.f6.length c8, .int .i64 x.f7.f0, .string x.f7.f1.f0, .int .i64 x.f7.f1.f1, .string x.f7.f2.f0, .int .i64 x.f7.f2.f1, .string x.f7.f3.f0, .int .i64 x.f7.f3.f1, .string x.f7.f4.f0, .int .i64 x.f7.f4.f1, .string x.f7.f5, .slice A19 x.f7.f6.length c19, .int .i64 x.f8.f0, .string x.f8.f1.f0, .int .i64 x.f8.f1.f1, .string x.f8.f2.f0, .int .i64 x.f8.f2.f1, .string x.f8.f3.f0, .int .i64 x.f8.f3.f1, .string x.f8.f4.f0, .int .i64 x.f8.f4.f1, .string x.f8.f5, .slice A30 x.f8.f6.length c30, .int .i64 x.f9.f0, .string x.f9.f1.f0, .int .i64 x.f9.f1.f1, .string x.f9.f2.f0, .int .i64 x.f9.f2.f1, .string x.f9.f3.f0, .int .i64 x.f9.f3.f1, .string x.f9.f4.f0, .int .i64 x.f9.f4.f1, .string x.f9.f5, .slice A41 x.f9.f6.length c41] 49)) := below_alloc (below_alloc (Below.refl _ _) _) _
  obtain ⟨ad2, M1, d1, M2, d2, M3, d3, rfl, hy1, hy2, hy3, hy4, hl1, hC1, hl2, hC2, hl3, hC3⟩ := at34 (Kd.C_below HC.out hb2) n hnl
  have HK := Aside0.mk (k34_mk _ l[n] hl1 hC1 hl2 hC2 hl3 hC3)
  rw [hm] at hy1 hy2 hy3 hy4 HK
  have HB := Aside0.mk hb2
  obtain ⟨r, hr⟩ : ∃ r, kindOfS l n m x = r := ⟨_, rfl⟩
  rw [hr]
  obtain ⟨kd, hkd⟩ : ∃ k, x.f0 = k := ⟨_, rfl⟩
  rw [kindOf_n hkd] at hr
  rw [hkd] at HB hy1 hy2 hy3 hy4 HK HX ⊢
  have HKD := Aside0.mk hkd
  clear hb2 hl1 hC1 hl2 hC2 hl3 hC3 h0 h hm hkd
  obtain rfl : kd = 10 := HKD.out.symm.trans hk
  · have HR := Aside0.mk hr
    clear hr
    go_enter Try.func50, Try.ntmps50
    go_wp2
    go_ret
    exact ⟨by rw [← HR.out]; rfl, below_alloc HB.out _⟩
set_option maxHeartbeats 16000000 in
set_option maxRecDepth 100000 in
theorem kindOf_k3 (A0 : Option Addr) (c0 : Nat) (l : List S34) (n : Nat) (hnl : n < l.length) (x : S49) (cs : List Value) (w : World) (h0 : Kd.C k34 w A0 l.length l) (h : k49.K w x cs) (hk : x.f0 = 3) :
    Calls Try.prog 50 #[.agg #[.slice A0 l.length c0], .int .i64 (n : Int), .agg cs.toArray] w fun e w' => e = .returned (.int .i64 (kindOfS l n l[n] x)) ∧ Below w.heap.size w w' := by
  have HC := Aside0.mk h0
  have HX := Aside0.mk h
  have KI := Aside0.mk (fun w' cs' (hD : Kd.C k34 w' A0 l.length l) (hb : k49.K w' x cs') => inst_any A0 c0 l n x cs' w' hD hb)
  obtain ⟨A7, c7, A8, c8, A19, c19, A30, c30, A41, c41, rfl, _⟩ := k49_open h
  have hnl2 : (n : Int) < (l.length : Int) := by omega
  have hnn : (0 : Int) ≤ (n : Int) := by omega
  obtain ⟨m, hm⟩ : ∃ m, l[n] = m := ⟨_, rfl⟩
  have HMN := Aside0.mk hm
  rw [hm]
  have K5 := Aside0.mk (fun w' cs' (hb : k34.K w' m cs') => among_any m cs' x.f1 5 5 5 w' hb)
  have K3 := Aside0.mk (fun w' cs' (hb : k34.K w' m cs') => among_any m cs' x.f1 3 3 3 w' hb)
  have K6 := Aside0.mk (fun w' cs' (hb : k34.K w' m cs') => among_any m cs' x.f1 6 6 6 w' hb)
  have hb2 : Below w.heap.size w ((w.alloc (.cells #[.slice A0 l.length c0] 24)).alloc (.cells #[.int .i64 x.f0, .string x.f1, .string x.f2.f0, .int .i64 x.f2.f1, .string x.f3.f0, .int .i64 x.f3.f1, .string x.f4, .slice A7 x.f5.length c7, .slice A8 x.f6.length c8, .int .i64 x.f7.f0, .string x.f7.f1.f0, .int .i64 x.f7.f1.f1, .string x.f7.f2.f0, .int .i64 x.f7.f2.f1, .string x.f7.f3.f0, .int .i64 x.f7.f3.f1, .string x.f7.f4.f0, .int .i64 x.f7.f4.f1, .string x.f7.f5, .slice A19 x.f7.f6.length c19, .int .i64 x.f8.f0, .string x.f8.f1.f0, .int .i64 x.f8.f1.f1, .string x.f8.f2.f0, .int .i64 x.f8.f2.f1, .string x.f8.f3.f0, .int .i64 x.f8.f3.f1, .string x.f8.f4.f0, .int .i64 x.f8.f4.f1, .string x.f8.f5, .slice A30 x.f8.f6.length c30, .int .i64 x.f9.f0, .string x.f9.f1.f0, .int .i64 x.f9.f1.f1, .string x.f9.f2.f0, .int .i64 x.f9.f2.f1, .string x.f9.f3.f0, .int .i64 x.f9.f3.f1, .string x.f9.f4.f0, .int .i64 x.f9.f4.f1, .string x.f9.f5, .slice A41 x.f9.f6.length c41] 49)) := below_alloc (below_alloc (Below.refl _ _) _) _
  obtain ⟨ad2, M1, d1, M2, d2, M3, d3, rfl, hy1, hy2, hy3, hy4, hl1, hC1, hl2, hC2, hl3, hC3⟩ := at34 (Kd.C_below HC.out hb2) n hnl
  have HK := Aside0.mk (k34_mk _ l[n] hl1 hC1 hl2 hC2 hl3 hC3)
  rw [hm] at hy1 hy2 hy3 hy4 HK
  have HB := Aside0.mk hb2
  obtain ⟨r, hr⟩ : ∃ r, kindOfS l n m x = r := ⟨_, rfl⟩
  rw [hr]
  obtain ⟨kd, hkd⟩ : ∃ k, x.f0 = k := ⟨_, rfl⟩
  rw [kindOf_n hkd] at hr
  rw [hkd] at HB hy1 hy2 hy3 hy4 HK HX ⊢
  have HKD := Aside0.mk hkd
  clear hb2 hl1 hC1 hl2 hC2 hl3 hC3 h0 h hm hkd
  obtain rfl : kd = 3 := HKD.out.symm.trans hk
  · have HR := Aside0.mk hr
    clear hr
    go_enter Try.func50, Try.ntmps50
    go_wp2_with fail
    refine (K5.out _ _ (k34.K_below (below_alloc (Below.refl _ _) _) HK.out)).mono ?_
    rintro e w1 ⟨rfl, hb⟩
    go_wp2
    go_ret
    exact ⟨by rw [← HR.out]; rfl, below_step (below_alloc HB.out _) hb⟩
set_option maxHeartbeats 16000000 in
set_option maxRecDepth 100000 in
theorem kindOf_k4 (A0 : Option Addr) (c0 : Nat) (l : List S34) (n : Nat) (hnl : n < l.length) (x : S49) (cs : List Value) (w : World) (h0 : Kd.C k34 w A0 l.length l) (h : k49.K w x cs) (hk : x.f0 = 4) :
    Calls Try.prog 50 #[.agg #[.slice A0 l.length c0], .int .i64 (n : Int), .agg cs.toArray] w fun e w' => e = .returned (.int .i64 (kindOfS l n l[n] x)) ∧ Below w.heap.size w w' := by
  have HC := Aside0.mk h0
  have HX := Aside0.mk h
  have KI := Aside0.mk (fun w' cs' (hD : Kd.C k34 w' A0 l.length l) (hb : k49.K w' x cs') => inst_any A0 c0 l n x cs' w' hD hb)
  obtain ⟨A7, c7, A8, c8, A19, c19, A30, c30, A41, c41, rfl, _⟩ := k49_open h
  have hnl2 : (n : Int) < (l.length : Int) := by omega
  have hnn : (0 : Int) ≤ (n : Int) := by omega
  obtain ⟨m, hm⟩ : ∃ m, l[n] = m := ⟨_, rfl⟩
  have HMN := Aside0.mk hm
  rw [hm]
  have K5 := Aside0.mk (fun w' cs' (hb : k34.K w' m cs') => among_any m cs' x.f1 5 5 5 w' hb)
  have K3 := Aside0.mk (fun w' cs' (hb : k34.K w' m cs') => among_any m cs' x.f1 3 3 3 w' hb)
  have K6 := Aside0.mk (fun w' cs' (hb : k34.K w' m cs') => among_any m cs' x.f1 6 6 6 w' hb)
  have hb2 : Below w.heap.size w ((w.alloc (.cells #[.slice A0 l.length c0] 24)).alloc (.cells #[.int .i64 x.f0, .string x.f1, .string x.f2.f0, .int .i64 x.f2.f1, .string x.f3.f0, .int .i64 x.f3.f1, .string x.f4, .slice A7 x.f5.length c7, .slice A8 x.f6.length c8, .int .i64 x.f7.f0, .string x.f7.f1.f0, .int .i64 x.f7.f1.f1, .string x.f7.f2.f0, .int .i64 x.f7.f2.f1, .string x.f7.f3.f0, .int .i64 x.f7.f3.f1, .string x.f7.f4.f0, .int .i64 x.f7.f4.f1, .string x.f7.f5, .slice A19 x.f7.f6.length c19, .int .i64 x.f8.f0, .string x.f8.f1.f0, .int .i64 x.f8.f1.f1, .string x.f8.f2.f0, .int .i64 x.f8.f2.f1, .string x.f8.f3.f0, .int .i64 x.f8.f3.f1, .string x.f8.f4.f0, .int .i64 x.f8.f4.f1, .string x.f8.f5, .slice A30 x.f8.f6.length c30, .int .i64 x.f9.f0, .string x.f9.f1.f0, .int .i64 x.f9.f1.f1, .string x.f9.f2.f0, .int .i64 x.f9.f2.f1, .string x.f9.f3.f0, .int .i64 x.f9.f3.f1, .string x.f9.f4.f0, .int .i64 x.f9.f4.f1, .string x.f9.f5, .slice A41 x.f9.f6.length c41] 49)) := below_alloc (below_alloc (Below.refl _ _) _) _
  obtain ⟨ad2, M1, d1, M2, d2, M3, d3, rfl, hy1, hy2, hy3, hy4, hl1, hC1, hl2, hC2, hl3, hC3⟩ := at34 (Kd.C_below HC.out hb2) n hnl
  have HK := Aside0.mk (k34_mk _ l[n] hl1 hC1 hl2 hC2 hl3 hC3)
  rw [hm] at hy1 hy2 hy3 hy4 HK
  have HB := Aside0.mk hb2
  obtain ⟨r, hr⟩ : ∃ r, kindOfS l n m x = r := ⟨_, rfl⟩
  rw [hr]
  obtain ⟨kd, hkd⟩ : ∃ k, x.f0 = k := ⟨_, rfl⟩
  rw [kindOf_n hkd] at hr
  rw [hkd] at HB hy1 hy2 hy3 hy4 HK HX ⊢
  have HKD := Aside0.mk hkd
  clear hb2 hl1 hC1 hl2 hC2 hl3 hC3 h0 h hm hkd
  obtain rfl : kd = 4 := HKD.out.symm.trans hk
  · have HR := Aside0.mk hr
    clear hr
    go_enter Try.func50, Try.ntmps50
    go_wp2_with fail
    refine (K3.out _ _ (k34.K_below (below_alloc (Below.refl _ _) _) HK.out)).mono ?_
    rintro e w1 ⟨rfl, hb⟩
    go_wp2
    go_ret
    exact ⟨by rw [← HR.out]; rfl, below_step (below_alloc HB.out _) hb⟩
set_option maxHeartbeats 16000000 in
set_option maxRecDepth 100000 in
theorem kindOf_k6 (A0 : Option Addr) (c0 : Nat) (l : List S34) (n : Nat) (hnl : n < l.length) (x : S49) (cs : List Value) (w : World) (h0 : Kd.C k34 w A0 l.length l) (h : k49.K w x cs) (hk : x.f0 = 6) :
    Calls Try.prog 50 #[.agg #[.slice A0 l.length c0], .int .i64 (n : Int), .agg cs.toArray] w fun e w' => e = .returned (.int .i64 (kindOfS l n l[n] x)) ∧ Below w.heap.size w w' := by
  have HC := Aside0.mk h0
  have HX := Aside0.mk h
  have KI := Aside0.mk (fun w' cs' (hD : Kd.C k34 w' A0 l.length l) (hb : k49.K w' x cs') => inst_any A0 c0 l n x cs' w' hD hb)
  obtain ⟨A7, c7, A8, c8, A19, c19, A30, c30, A41, c41, rfl, _⟩ := k49_open h
  have hnl2 : (n : Int) < (l.length : Int) := by omega
  have hnn : (0 : Int) ≤ (n : Int) := by omega
  obtain ⟨m, hm⟩ : ∃ m, l[n] = m := ⟨_, rfl⟩
  have HMN := Aside0.mk hm
  rw [hm]
  have K5 := Aside0.mk (fun w' cs' (hb : k34.K w' m cs') => among_any m cs' x.f1 5 5 5 w' hb)
  have K3 := Aside0.mk (fun w' cs' (hb : k34.K w' m cs') => among_any m cs' x.f1 3 3 3 w' hb)
  have K6 := Aside0.mk (fun w' cs' (hb : k34.K w' m cs') => among_any m cs' x.f1 6 6 6 w' hb)
  have hb2 : Below w.heap.size w ((w.alloc (.cells #[.slice A0 l.length c0] 24)).alloc (.cells #[.int .i64 x.f0, .string x.f1, .string x.f2.f0, .int .i64 x.f2.f1, .string x.f3.f0, .int .i64 x.f3.f1, .string x.f4, .slice A7 x.f5.length c7, .slice A8 x.f6.length c8, .int .i64 x.f7.f0, .string x.f7.f1.f0, .int .i64 x.f7.f1.f1, .string x.f7.f2.f0, .int .i64 x.f7.f2.f1, .string x.f7.f3.f0, .int .i64 x.f7.f3.f1, .string x.f7.f4.f0, .int .i64 x.f7.f4.f1, .string x.f7.f5, .slice A19 x.f7.f6.length c19, .int .i64 x.f8.f0, .string x.f8.f1.f0, .int .i64 x.f8.f1.f1, .string x.f8.f2.f0, .int .i64 x.f8.f2.f1, .string x.f8.f3.f0, .int .i64 x.f8.f3.f1, .string x.f8.f4.f0, .int .i64 x.f8.f4.f1, .string x.f8.f5, .slice A30 x.f8.f6.length c30, .int .i64 x.f9.f0, .string x.f9.f1.f0, .int .i64 x.f9.f1.f1, .string x.f9.f2.f0, .int .i64 x.f9.f2.f1, .string x.f9.f3.f0, .int .i64 x.f9.f3.f1, .string x.f9.f4.f0, .int .i64 x.f9.f4.f1, .string x.f9.f5, .slice A41 x.f9.f6.length c41] 49)) := below_alloc (below_alloc (Below.refl _ _) _) _
  obtain ⟨ad2, M1, d1, M2, d2, M3, d3, rfl, hy1, hy2, hy3, hy4, hl1, hC1, hl2, hC2, hl3, hC3⟩ := at34 (Kd.C_below HC.out hb2) n hnl
  have HK := Aside0.mk (k34_mk _ l[n] hl1 hC1 hl2 hC2 hl3 hC3)
  rw [hm] at hy1 hy2 hy3 hy4 HK
  have HB := Aside0.mk hb2
  obtain ⟨r, hr⟩ : ∃ r, kindOfS l n m x = r := ⟨_, rfl⟩
  rw [hr]
  obtain ⟨kd, hkd⟩ : ∃ k, x.f0 = k := ⟨_, rfl⟩
  rw [kindOf_n hkd] at hr
  rw [hkd] at HB hy1 hy2 hy3 hy4 HK HX ⊢
  have HKD := Aside0.mk hkd
  clear hb2 hl1 hC1 hl2 hC2 hl3 hC3 h0 h hm hkd
  obtain rfl : kd = 6 := HKD.out.symm.trans hk
  · have HR := Aside0.mk hr
    clear hr
    go_enter Try.func50, Try.ntmps50
    go_wp2_with fail
    refine (K6.out _ _ (k34.K_below (below_alloc (Below.refl _ _) _) HK.out)).mono ?_
    rintro e w1 ⟨rfl, hb⟩
    go_wp2
    go_ret
    exact ⟨by rw [← HR.out]; rfl, below_step (below_alloc HB.out _) hb⟩
set_option maxHeartbeats 16000000 in
set_option maxRecDepth 100000 in
theorem kindOf_k7 (A0 : Option Addr) (c0 : Nat) (l : List S34) (n : Nat) (hnl : n < l.length) (x : S49) (cs : List Value) (w : World) (h0 : Kd.C k34 w A0 l.length l) (h : k49.K w x cs) (hk : x.f0 = 7) :
    Calls Try.prog 50 #[.agg #[.slice A0 l.length c0], .int .i64 (n : Int), .agg cs.toArray] w fun e w' => e = .returned (.int .i64 (kindOfS l n l[n] x)) ∧ Below w.heap.size w w' := by
  have HC := Aside0.mk h0
  have HX := Aside0.mk h
  have KI := Aside0.mk (fun w' cs' (hD : Kd.C k34 w' A0 l.length l) (hb : k49.K w' x cs') => inst_any A0 c0 l n x cs' w' hD hb)
  obtain ⟨A7, c7, A8, c8, A19, c19, A30, c30, A41, c41, rfl, _⟩ := k49_open h
  have hnl2 : (n : Int) < (l.length : Int) := by omega
  have hnn : (0 : Int) ≤ (n : Int) := by omega
  obtain ⟨m, hm⟩ : ∃ m, l[n] = m := ⟨_, rfl⟩
  have HMN := Aside0.mk hm
  rw [hm]
  have K5 := Aside0.mk (fun w' cs' (hb : k34.K w' m cs') => among_any m cs' x.f1 5 5 5 w' hb)
  have K3 := Aside0.mk (fun w' cs' (hb : k34.K w' m cs') => among_any m cs' x.f1 3 3 3 w' hb)
  have K6 := Aside0.mk (fun w' cs' (hb : k34.K w' m cs') => among_any m cs' x.f1 6 6 6 w' hb)
  have hb2 : Below w.heap.size w ((w.alloc (.cells #[.slice A0 l.length c0] 24)).alloc (.cells #[.int .i64 x.f0, .string x.f1, .string x.f2.f0, .int .i64 x.f2.f1, .string x.f3.f0, .int .i64 x.f3.f1, .string x.f4, .slice A7 x.f5.length c7, .slice A8 x.f6.length c8, .int .i64 x.f7.f0, .string x.f7.f1.f0, .int .i64 x.f7.f1.f1, .string x.f7.f2.f0, .int .i64 x.f7.f2.f1, .string x.f7.f3.f0, .int .i64 x.f7.f3.f1, .string x.f7.f4.f0, .int .i64 x.f7.f4.f1, .string x.f7.f5, .slice A19 x.f7.f6.length c19, .int .i64 x.f8.f0, .string x.f8.f1.f0, .int .i64 x.f8.f1.f1, .string x.f8.f2.f0, .int .i64 x.f8.f2.f1, .string x.f8.f3.f0, .int .i64 x.f8.f3.f1, .string x.f8.f4.f0, .int .i64 x.f8.f4.f1, .string x.f8.f5, .slice A30 x.f8.f6.length c30, .int .i64 x.f9.f0, .string x.f9.f1.f0, .int .i64 x.f9.f1.f1, .string x.f9.f2.f0, .int .i64 x.f9.f2.f1, .string x.f9.f3.f0, .int .i64 x.f9.f3.f1, .string x.f9.f4.f0, .int .i64 x.f9.f4.f1, .string x.f9.f5, .slice A41 x.f9.f6.length c41] 49)) := below_alloc (below_alloc (Below.refl _ _) _) _
  obtain ⟨ad2, M1, d1, M2, d2, M3, d3, rfl, hy1, hy2, hy3, hy4, hl1, hC1, hl2, hC2, hl3, hC3⟩ := at34 (Kd.C_below HC.out hb2) n hnl
  have HK := Aside0.mk (k34_mk _ l[n] hl1 hC1 hl2 hC2 hl3 hC3)
  rw [hm] at hy1 hy2 hy3 hy4 HK
  have HB := Aside0.mk hb2
  obtain ⟨r, hr⟩ : ∃ r, kindOfS l n m x = r := ⟨_, rfl⟩
  rw [hr]
  obtain ⟨kd, hkd⟩ : ∃ k, x.f0 = k := ⟨_, rfl⟩
  rw [kindOf_n hkd] at hr
  rw [hkd] at HB hy1 hy2 hy3 hy4 HK HX ⊢
  have HKD := Aside0.mk hkd
  clear hb2 hl1 hC1 hl2 hC2 hl3 hC3 h0 h hm hkd
  obtain rfl : kd = 7 := HKD.out.symm.trans hk
  have HR := Aside0.mk hr
  clear hr hk hy1 hy2 hy3 hy4 HK HB
  have HB : Aside0 (Below w.heap.size w w) := ⟨Below.refl _ _⟩
  obtain ⟨ad2', M1, d1, M2, d2, M3, d3, e9, hy1, hy2, hy3, hy4, _⟩ := at34 HC.out n hnl
  obtain rfl := Option.some.inj e9
  rw [HMN.out] at hy1 hy2 hy3 hy4
  have hu49 := Try.underlying49
  go_enter Try.func50, Try.ntmps50
  go_wp2_with (first | ((with_reducible refine gate_dst (N := 3) rfl ?_); refine box_event ?hg (N := 3) ?hd (cs := #[.slice (some ad2) l.length c0]) (t := 24) ?hr ?_; (case hd => rfl); (case hg => rfl); (case hr => first | (go_simp; done) | (go_simp; rfl)); intro g3 hg_ w3 hbox_ hb_; have BK3 := Aside0.mk (hbox_); have GBK3 : Aside0 (w.heap.size ≤ g3) := ⟨by rw [hg_]; exact below_size HB.out⟩; replace HB : Aside0 (Below w.heap.size w w3) := ⟨below_step HB.out hb_⟩; clear hg_ hbox_ hb_) | ((with_reducible refine gate_dst (N := 5) rfl ?_); refine box_event ?hg (N := 5) ?hd (cs := #[.int .i64 7, .string x.f1, .string x.f2.f0, .int .i64 x.f2.f1, .string x.f3.f0, .int .i64 x.f3.f1, .string x.f4, .slice A7 x.f5.length c7, .slice A8 x.f6.length c8, .int .i64 x.f7.f0, .string x.f7.f1.f0, .int .i64 x.f7.f1.f1, .string x.f7.f2.f0, .int .i64 x.f7.f2.f1, .string x.f7.f3.f0, .int .i64 x.f7.f3.f1, .string x.f7.f4.f0, .int .i64 x.f7.f4.f1, .string x.f7.f5, .slice A19 x.f7.f6.length c19, .int .i64 x.f8.f0, .string x.f8.f1.f0, .int .i64 x.f8.f1.f1, .string x.f8.f2.f0, .int .i64 x.f8.f2.f1, .string x.f8.f3.f0, .int .i64 x.f8.f3.f1, .string x.f8.f4.f0, .int .i64 x.f8.f4.f1, .string x.f8.f5, .slice A30 x.f8.f6.length c30, .int .i64 x.f9.f0, .string x.f9.f1.f0, .int .i64 x.f9.f1.f1, .string x.f9.f2.f0, .int .i64 x.f9.f2.f1, .string x.f9.f3.f0, .int .i64 x.f9.f3.f1, .string x.f9.f4.f0, .int .i64 x.f9.f4.f1, .string x.f9.f5, .slice A41 x.f9.f6.length c41]) (t := 49) ?hr ?_; (case hd => rfl); (case hg => rfl); (case hr => first | (go_simp; done) | (go_simp; rfl)); intro g5 hg_ w5 hbox_ hb_; replace BK3 := Aside0.mk (blk_below BK3.out hb_); have BK5 := Aside0.mk (hbox_); have GBK5 : Aside0 (w.heap.size ≤ g5) := ⟨by rw [hg_]; exact below_size HB.out⟩; replace HB : Aside0 (Below w.heap.size w w5) := ⟨below_step HB.out hb_⟩; clear hg_ hbox_ hb_; have hk30 : w5.cell? ⟨g3, 0, none⟩ = some (.slice (some ad2) l.length c0) := blk_cell BK3.out 0; replace hy1 := pw_cell_below HB.out hy1; replace hy2 := pw_cell_below HB.out hy2; replace hy3 := pw_cell_below HB.out hy3; replace hy4 := pw_cell_below HB.out hy4; have hz0 : w5.cell? ⟨g5, 0, none⟩ = some (.int .i64 7) := blk_cell BK5.out 0; have hg5 : g5 < w5.heap.size := blk_lt BK5.out; have hg3 : g3 < w5.heap.size := blk_lt BK3.out) | ((with_reducible refine gate_dst (N := 44) rfl ?_); refine wpList_load_row rfl 49 (.tmp 5) rfl g5 rfl 49 #[.int .i64 7, .string x.f1, .string x.f2.f0, .int .i64 x.f2.f1, .string x.f3.f0, .int .i64 x.f3.f1, .string x.f4, .slice A7 x.f5.length c7, .slice A8 x.f6.length c8, .int .i64 x.f7.f0, .string x.f7.f1.f0, .int .i64 x.f7.f1.f1, .string x.f7.f2.f0, .int .i64 x.f7.f2.f1, .string x.f7.f3.f0, .int .i64 x.f7.f3.f1, .string x.f7.f4.f0, .int .i64 x.f7.f4.f1, .string x.f7.f5, .slice A19 x.f7.f6.length c19, .int .i64 x.f8.f0, .string x.f8.f1.f0, .int .i64 x.f8.f1.f1, .string x.f8.f2.f0, .int .i64 x.f8.f2.f1, .string x.f8.f3.f0, .int .i64 x.f8.f3.f1, .string x.f8.f4.f0, .int .i64 x.f8.f4.f1, .string x.f8.f5, .slice A30 x.f8.f6.length c30, .int .i64 x.f9.f0, .string x.f9.f1.f0, .int .i64 x.f9.f1.f1, .string x.f9.f2.f0, .int .i64 x.f9.f2.f1, .string x.f9.f3.f0, .int .i64 x.f9.f3.f1, .string x.f9.f4.f0, .int .i64 x.f9.f4.f1, .string x.f9.f5, .slice A41 x.f9.f6.length c41] (0, 0) _ ?hg Try.underlying49 rfl ?hi ?_; (case hg => exact (alloc_old _ _ _ hg5).trans BK5.out); (case hi => kernel_rfl)))
  refine (KI.out _ _ (Kd.C_below HC.out (below_alloc HB.out _)) (k49.K_below (below_alloc HB.out _) HX.out)).mono ?_
  rintro e w1 ⟨rfl, hb⟩
  go_wp2
  go_ret
  exact ⟨by rw [← HR.out]; rfl, below_step (below_alloc HB.out _) hb⟩
set_option maxHeartbeats 16000000 in
set_option maxRecDepth 100000 in
theorem kindOf_k0 (A0 : Option Addr) (c0 : Nat) (l : List S34) (n : Nat) (hnl : n < l.length) (x : S49) (cs : List Value) (w : World) (h0 : Kd.C k34 w A0 l.length l) (h : k49.K w x cs) (hk : x.f0 ≠ 1 ∧ x.f0 ≠ 2 ∧ x.f0 ≠ 3 ∧ x.f0 ≠ 4 ∧ x.f0 ≠ 5 ∧ x.f0 ≠ 6 ∧ x.f0 ≠ 7 ∧ x.f0 ≠ 8 ∧ x.f0 ≠ 9 ∧ x.f0 ≠ 10) :
    Calls Try.prog 50 #[.agg #[.slice A0 l.length c0], .int .i64 (n : Int), .agg cs.toArray] w fun e w' => e = .returned (.int .i64 (kindOfS l n l[n] x)) ∧ Below w.heap.size w w' := by
  have HC := Aside0.mk h0
  have HX := Aside0.mk h
  have KI := Aside0.mk (fun w' cs' (hD : Kd.C k34 w' A0 l.length l) (hb : k49.K w' x cs') => inst_any A0 c0 l n x cs' w' hD hb)
  obtain ⟨A7, c7, A8, c8, A19, c19, A30, c30, A41, c41, rfl, _⟩ := k49_open h
  have hnl2 : (n : Int) < (l.length : Int) := by omega
  have hnn : (0 : Int) ≤ (n : Int) := by omega
  obtain ⟨m, hm⟩ : ∃ m, l[n] = m := ⟨_, rfl⟩
  have HMN := Aside0.mk hm
  rw [hm]
  have K5 := Aside0.mk (fun w' cs' (hb : k34.K w' m cs') => among_any m cs' x.f1 5 5 5 w' hb)
  have K3 := Aside0.mk (fun w' cs' (hb : k34.K w' m cs') => among_any m cs' x.f1 3 3 3 w' hb)
  have K6 := Aside0.mk (fun w' cs' (hb : k34.K w' m cs') => among_any m cs' x.f1 6 6 6 w' hb)
  have hb2 : Below w.heap.size w ((w.alloc (.cells #[.slice A0 l.length c0] 24)).alloc (.cells #[.int .i64 x.f0, .string x.f1, .string x.f2.f0, .int .i64 x.f2.f1, .string x.f3.f0, .int .i64 x.f3.f1, .string x.f4, .slice A7 x.f5.length c7, .slice A8 x.f6.length c8, .int .i64 x.f7.f0, .string x.f7.f1.f0, .int .i64 x.f7.f1.f1, .string x.f7.f2.f0, .int .i64 x.f7.f2.f1, .string x.f7.f3.f0, .int .i64 x.f7.f3.f1, .string x.f7.f4.f0, .int .i64 x.f7.f4.f1, .string x.f7.f5, .slice A19 x.f7.f6.length c19, .int .i64 x.f8.f0, .string x.f8.f1.f0, .int .i64 x.f8.f1.f1, .string x.f8.f2.f0, .int .i64 x.f8.f2.f1, .string x.f8.f3.f0, .int .i64 x.f8.f3.f1, .string x.f8.f4.f0, .int .i64 x.f8.f4.f1, .string x.f8.f5, .slice A30 x.f8.f6.length c30, .int .i64 x.f9.f0, .string x.f9.f1.f0, .int .i64 x.f9.f1.f1, .string x.f9.f2.f0, .int .i64 x.f9.f2.f1, .string x.f9.f3.f0, .int .i64 x.f9.f3.f1, .string x.f9.f4.f0, .int .i64 x.f9.f4.f1, .string x.f9.f5, .slice A41 x.f9.f6.length c41] 49)) := below_alloc (below_alloc (Below.refl _ _) _) _
  obtain ⟨ad2, M1, d1, M2, d2, M3, d3, rfl, hy1, hy2, hy3, hy4, hl1, hC1, hl2, hC2, hl3, hC3⟩ := at34 (Kd.C_below HC.out hb2) n hnl
  have HK := Aside0.mk (k34_mk _ l[n] hl1 hC1 hl2 hC2 hl3 hC3)
  rw [hm] at hy1 hy2 hy3 hy4 HK
  have HB := Aside0.mk hb2
  obtain ⟨r, hr⟩ : ∃ r, kindOfS l n m x = r := ⟨_, rfl⟩
  rw [hr]
  obtain ⟨kd, hkd⟩ : ∃ k, x.f0 = k := ⟨_, rfl⟩
  rw [kindOf_n hkd] at hr
  rw [hkd] at HB hy1 hy2 hy3 hy4 HK HX ⊢
  have HKD := Aside0.mk hkd
  clear hb2 hl1 hC1 hl2 hC2 hl3 hC3 h0 h hm hkd
  rw [HKD.out] at hk
  have e1 : (kd == 1) = false := by simp; omega
  have e2 : (kd == 2) = false := by simp; omega
  have e3 : (kd == 3) = false := by simp; omega
  have e4 : (kd == 4) = false := by simp; omega
  have e5 : (kd == 5) = false := by simp; omega
  have e6 : (kd == 6) = false := by simp; omega
  have e7 : (kd == 7) = false := by simp; omega
  have e8 : (kd == 8) = false := by simp; omega
  have e9 : (kd == 9) = false := by simp; omega
  have e10 : (kd == 10) = false := by simp; omega
  have HR : Aside0 (r = 52) := ⟨by rw [← hr, if_neg (by omega), if_neg (by omega), if_neg (by omega), if_neg (by omega), if_neg (by omega)]⟩
  clear hr hk
  go_enter Try.func50, Try.ntmps50
  go_wp2
  go_ret
  exact ⟨by rw [HR.out]; rfl, below_alloc HB.out _⟩
theorem kindOf_any (A0 : Option Addr) (c0 : Nat) (l : List S34) (n : Nat) (hnl : n < l.length) (x : S49) (cs : List Value) (w : World) (h0 : Kd.C k34 w A0 l.length l) (h : k49.K w x cs) :
    Calls Try.prog 50 #[.agg #[.slice A0 l.length c0], .int .i64 (n : Int), .agg cs.toArray] w fun e w' => e = .returned (.int .i64 (kindOfS l n l[n] x)) ∧ Below w.heap.size w w' := by
  by_cases h1 : x.f0 = 1
  · exact kindOf_k1 A0 c0 l n hnl x cs w h0 h h1
  by_cases h2 : x.f0 = 2
  · exact kindOf_k2 A0 c0 l n hnl x cs w h0 h h2
  by_cases h3 : x.f0 = 3
  · exact kindOf_k3 A0 c0 l n hnl x cs w h0 h h3
  by_cases h4 : x.f0 = 4
  · exact kindOf_k4 A0 c0 l n hnl x cs w h0 h h4
  by_cases h5 : x.f0 = 5
  · exact kindOf_k5 A0 c0 l n hnl x cs w h0 h h5
  by_cases h6 : x.f0 = 6
  · exact kindOf_k6 A0 c0 l n hnl x cs w h0 h h6
  by_cases h7 : x.f0 = 7
  · exact kindOf_k7 A0 c0 l n hnl x cs w h0 h h7
  by_cases h8 : x.f0 = 8
  · exact kindOf_k8 A0 c0 l n hnl x cs w h0 h h8
  by_cases h9 : x.f0 = 9
  · exact kindOf_k9 A0 c0 l n hnl x cs w h0 h h9
  by_cases h10 : x.f0 = 10
  · exact kindOf_k10 A0 c0 l n hnl x cs w h0 h h10
  exact kindOf_k0 A0 c0 l n hnl x cs w h0 h ⟨h1, h2, h3, h4, h5, h6, h7, h8, h9, h10⟩
end Go.Proofs.Ytnfhlhjbmcofoaa.S
