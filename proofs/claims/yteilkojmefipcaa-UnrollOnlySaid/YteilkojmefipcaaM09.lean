/- Unroll: walks and plain laws of this seat's functions, merged out of smaller texts of this session (Uu, Uv, Uw, Uy, Uax, Uop). -/
import Derived.Test.YteilkojmefipcaaM08
import Derived.Test.YteilkojmefipcaaM05
import Derived.Test.YteilkojmefipcaaM06
import Derived.Test.YteilkojmefipcaaM07
import Derived.Test.YteilkojmefipcaaUOpens
import Derived.Test.YteilkojmefipcaaM04
namespace Go.Proofs.Yteilkojmefipcaa.U
open Go.RowKit Go.Proofs.YteilkojmefipcaaW.PrintWords Go.Proofs.YteilkojmefipcaaW.PrintLast
set_option linter.unusedVariables false
set_option linter.unusedSimpArgs false
theorem opsN_cases (o : Int) : opsN o = -1 ∨ opsN o = 0 ∨ opsN o = 1 ∨ opsN o = 2 ∨ opsN o = 3 := by
  unfold opsN
  by_cases h1 : o = 1 ∨ o = 21 ∨ o = 22
  · rw [if_pos h1]; omega
  · rw [if_neg h1]
    by_cases h2 : o = 3 ∨ o = 4 ∨ o = 5 ∨ o = 18
    · rw [if_pos h2]; omega
    · rw [if_neg h2]
      by_cases h3 : (6 ≤ o ∧ o ≤ 15) ∨ o = 17
      · rw [if_pos h3]; omega
      · rw [if_neg h3]
        by_cases h4 : o = 16
        · rw [if_pos h4]; omega
        · rw [if_neg h4]; omega
/-- What node told. -/
def NodeOk (ns : List S77) (i : Nat) (x : S77) : Prop := 1 ≤ x.f1 ∧ x.f1 ≤ 16 ∧ 0 ≤ opsN x.f0 ∧ (opsN x.f0 < 1 → x.f2 = 0) ∧ (opsN x.f0 < 2 → x.f3 = 0) ∧ (opsN x.f0 < 3 → x.f4 = 0) ∧ FitsOk x.f0 x.f1 x.f5 x.f6 (wdi ns x.f2 i) (wdi ns x.f3 i) (wdi ns x.f4 i)
set_option maxHeartbeats 64000000 in
set_option maxRecDepth 100000 in
theorem node_any (n : S27) (cs : List Value) (i : Nat) (w : World) (h : k27.K w n cs) (hi : i < n.f0.length) (hW : ∀ (j : Nat) (h : j < n.f0.length), j < i → 1 ≤ n.f0[j].f1 ∧ n.f0[j].f1 ≤ 16) :
    Calls Try.prog 69 #[.agg cs.toArray, .int .i64 (i : Int)] w (RetB (fun b => b = true → NodeOk n.f0 i n.f0[i]) w) := by
  have KF : Aside0 (1 ≤ n.f0[i].f1 → n.f0[i].f1 ≤ 16 → ∀ W, Below w.heap.size w W → Calls Try.prog 91 #[.agg cs.toArray, .int .i64 (i : Int)] W (RetB (fun b => b = true → FitsOk n.f0[i].f0 n.f0[i].f1 n.f0[i].f5 n.f0[i].f6 (wdi n.f0 n.f0[i].f2 i) (wdi n.f0 n.f0[i].f3 i) (wdi n.f0 n.f0[i].f4 i)) W)) := ⟨fun a b W hb => fits_any n cs i W (k27.K_below hb h) hi hW a b⟩
  obtain ⟨A0, c0, A1, c1, A2, c2, A3, c3, A4, c4, rfl, hl0, hC0, hrest⟩ := k27_open h
  obtain ⟨⟨o, m, fa, fb, fc, fn, fl⟩, hx⟩ : ∃ x, n.f0[i] = x := ⟨_, rfl⟩
  obtain ⟨ad, cx, rfl, hKx, hcx⟩ := el_get hC0 i hi
  rw [hx] at hKx KF ⊢
  obtain rfl := k77_open hKx
  have HCX := am hcx
  have q1 : (i : Int) < (n.f0.length : Int) := by omega
  have q0 : (0 : Int) ≤ (i : Int) := by omega
  dsimp only at KF
  have KO : Aside0 (∀ W, Calls Try.prog 90 #[.int .i64 o] W (RetI (fun r => r = opsN o) W)) := ⟨fun W => operands_any o W⟩
  have hk := opsN_cases o
  obtain ⟨k, ho⟩ : ∃ k, opsN o = k := ⟨_, rfl⟩
  rw [ho] at hk KO
  have HO := am ho
  have HKK := am hk
  have HL : Aside0 (Led [] w w) := ⟨Led.nil w⟩
  have hu27 := Try.underlying27
  have hu77 := Try.underlying77
  clear h hW hx ho hk hC0 hrest hKx hcx hl0 hi
  go_enter Try.func69, Try.ntmps69
  go_upto_region 3 with (first
    | ((with_reducible refine zg 2 rfl ?_); refine zx 2 [.slice (some ad) n.f0.length c0, .slice A1 n.f1.length c1, .slice A2 n.f2.length c2, .slice A3 n.f3.length c3, .slice A4 n.f4.length c4] 27 HL ?_; clear HL; intro g2 w1_ HL hb; have hk0 : w1_.cell? ⟨g2, 0, none⟩ = some (.slice (some ad) n.f0.length c0) := blk_cell HL.out.g0 0; clear hb)
    | ((with_reducible refine zg 11 rfl ?_); refine zle 11 77 (.tmp 10) [.int .i64 o, .int .i64 m, .int .i64 fa, .int .i64 fb, .int .i64 fc, .int .i64 fn, .int .i64 fl] (HCX.out _ HL.out.below) hu77 ?_)
    | ((with_reducible refine zg 5 rfl ?_); refine zx 5 [.int .i64 0, .int .i64 0, .int .i64 0, .int .i64 0, .int .i64 0, .int .i64 0, .int .i64 0] 77 HL ?_; clear HL; intro g5 w2_ HL hb; clear hb hk0)
    | ((with_reducible refine zst 77 (.tmp 5) (.tmp 11) rfl ?_); refine zs 0 0 77 (.tmp 5) (.tmp 11) [.int .i64 o, .int .i64 m, .int .i64 fa, .int .i64 fb, .int .i64 fc, .int .i64 fn, .int .i64 fl] HL ?_; intro w3_ HLn hfar; replace HL := HLn; clear HLn hfar; have hk0 : w3_.cell? ⟨g5, 0, none⟩ = some (.int .i64 o) := blk_cell HL.out.g0 0)
    | (go_at_call 90; refine (KO.out _).mono ?_; rintro e w4_ ⟨r, he, hr, hb⟩; rw [hr] at he; subst he; clear hr hk0; replace HL := am (HL.out.step hb); clear hb; have hk1 : w4_.cell? ⟨g5, 1, none⟩ = some (.int .i64 m) := blk_cell HL.out.g0 1; have hk2 : w4_.cell? ⟨g5, 2, none⟩ = some (.int .i64 fa) := blk_cell HL.out.g0 2; have hk3 : w4_.cell? ⟨g5, 3, none⟩ = some (.int .i64 fb) := blk_cell HL.out.g0 3; have hk4 : w4_.cell? ⟨g5, 4, none⟩ = some (.int .i64 fc) := blk_cell HL.out.g0 4))
  cases e0 : decide (m < 1)
  · have g0 : 1 ≤ m := by have := of_decide_eq_false e0; omega
    cases e1 : decide (16 < m)
    · have g1 : m ≤ 16 := by have := of_decide_eq_false e1; omega
      rcases HKK.out with rfl | rfl | rfl | rfl | rfl
      · clear HKK
        go_wp2
        go_ret
        exact ⟨_, rfl, (fun h => by cases h), HL.out.below⟩
      · clear HKK
        cases e4 : (fa != 0)
        · cases e6 : (fb != 0)
          · cases e8 : (fc != 0)
            · go_wp2_with (first
                | ((with_reducible refine zg 54 rfl ?_); refine zl 1 27 (.tmp 2) HL hu27 ?_)
                | (go_at_call 91; refine (KF.out g0 g1 _ HL.out.below).mono ?_; rintro e we ⟨r, rfl, hr, hb⟩; have HR := am hr; clear hr; replace HL := am (HL.out.step hb); clear hb))
              go_ret
              exact ⟨_, rfl, (fun h => ⟨g0, g1, by rw [HO.out]; decide, (fun _ => by simpa using e4), (fun _ => by simpa using e6), (fun _ => by simpa using e8), HR.out h⟩), HL.out.below⟩
            · go_wp2
              go_ret
              exact ⟨_, rfl, (fun h => by cases h), HL.out.below⟩
          · go_wp2
            go_ret
            exact ⟨_, rfl, (fun h => by cases h), HL.out.below⟩
        · go_wp2
          go_ret
          exact ⟨_, rfl, (fun h => by cases h), HL.out.below⟩
      · clear HKK
        cases e6 : (fb != 0)
        · cases e8 : (fc != 0)
          · go_wp2_with (first
              | ((with_reducible refine zg 54 rfl ?_); refine zl 1 27 (.tmp 2) HL hu27 ?_)
              | (go_at_call 91; refine (KF.out g0 g1 _ HL.out.below).mono ?_; rintro e we ⟨r, rfl, hr, hb⟩; have HR := am hr; clear hr; replace HL := am (HL.out.step hb); clear hb))
            go_ret
            exact ⟨_, rfl, (fun h => ⟨g0, g1, by rw [HO.out]; decide, (fun h => by rw [HO.out] at h; omega), (fun _ => by simpa using e6), (fun _ => by simpa using e8), HR.out h⟩), HL.out.below⟩
          · go_wp2
            go_ret
            exact ⟨_, rfl, (fun h => by cases h), HL.out.below⟩
        · go_wp2
          go_ret
          exact ⟨_, rfl, (fun h => by cases h), HL.out.below⟩
      · clear HKK
        cases e8 : (fc != 0)
        · go_wp2_with (first
            | ((with_reducible refine zg 54 rfl ?_); refine zl 1 27 (.tmp 2) HL hu27 ?_)
            | (go_at_call 91; refine (KF.out g0 g1 _ HL.out.below).mono ?_; rintro e we ⟨r, rfl, hr, hb⟩; have HR := am hr; clear hr; replace HL := am (HL.out.step hb); clear hb))
          go_ret
          exact ⟨_, rfl, (fun h => ⟨g0, g1, by rw [HO.out]; decide, (fun h => by rw [HO.out] at h; omega), (fun h => by rw [HO.out] at h; omega), (fun _ => by simpa using e8), HR.out h⟩), HL.out.below⟩
        · go_wp2
          go_ret
          exact ⟨_, rfl, (fun h => by cases h), HL.out.below⟩
      · clear HKK
        go_wp2_with (first
          | ((with_reducible refine zg 54 rfl ?_); refine zl 1 27 (.tmp 2) HL hu27 ?_)
          | (go_at_call 91; refine (KF.out g0 g1 _ HL.out.below).mono ?_; rintro e we ⟨r, rfl, hr, hb⟩; have HR := am hr; clear hr; replace HL := am (HL.out.step hb); clear hb))
        go_ret
        exact ⟨_, rfl, (fun h => ⟨g0, g1, by rw [HO.out]; decide, (fun h => by rw [HO.out] at h; omega), (fun h => by rw [HO.out] at h; omega), (fun h => by rw [HO.out] at h; omega), HR.out h⟩), HL.out.below⟩
    · go_wp2
      go_ret
      exact ⟨_, rfl, (fun h => by cases h), HL.out.below⟩
  · go_wp2
    go_ret
    exact ⟨_, rfl, (fun h => by cases h), HL.out.below⟩
/-- A node that node takes may be. -/
theorem NodeOk.nok {ns : List S77} {i : Nat} (hi : i < ns.length) (h : NodeOk ns i ns[i]) (hW : ∀ (j : Nat) (h : j < ns.length), j < i → 1 ≤ ns[j].f1 ∧ ns[j].f1 ≤ 16) : NOk ns i ns[i] := by
  obtain ⟨h1, h2, h3, ha, hb, hc, hf⟩ := h
  obtain ⟨x, hx⟩ : ∃ x, ns[i] = x := ⟨_, rfl⟩
  have hm : wdt ns i = ns[i].f1.toNat := by unfold wdt; rw [List.getD_eq_getElem?_getD, List.getElem?_eq_getElem hi]; rfl
  rw [hx] at h1 h2 h3 ha hb hc hf hm ⊢
  have key : ∀ a : Int, 0 < wdi ns a i → ∃ A : Nat, a = A ∧ A < i ∧ wdi ns a i = (wdt ns A : Nat) ∧ 1 ≤ wdt ns A ∧ wdt ns A ≤ 16 := by
    intro a hp
    by_cases hr : 0 ≤ a ∧ a < i
    · obtain ⟨A, rfl⟩ := Int.eq_ofNat_of_zero_le hr.1
      have hA : A < i := by omega
      have hw := hW A (by omega) hA
      have e : wdt ns A = ns[A].f1.toNat := by unfold wdt; rw [List.getD_eq_getElem?_getD, List.getElem?_eq_getElem (by omega)]; rfl
      refine ⟨A, rfl, hA, ?_, by omega, by omega⟩
      unfold wdi
      rw [if_pos hr, Int.toNat_natCast, List.getD_eq_getElem?_getD, List.getElem?_eq_getElem (by omega)]
      show ns[A].f1 = _
      omega
    · unfold wdi at hp; rw [if_neg hr] at hp; omega
  have zero : 0 < i → ∀ a : Int, a = 0 → ∃ A : Nat, a = A ∧ A < i ∧ wdi ns a i = (wdt ns A : Nat) ∧ wdt ns A ≤ 16 := by
    intro h0 a ha
    subst ha
    have hw := hW 0 (by omega) h0
    have e : wdt ns 0 = ns[0].f1.toNat := by unfold wdt; rw [List.getD_eq_getElem?_getD, List.getElem?_eq_getElem (by omega)]; rfl
    refine ⟨0, rfl, h0, ?_, by omega⟩
    unfold wdi
    rw [if_pos (by omega), List.getD_eq_getElem?_getD]
    show (ns[(0 : Int).toNat]?.getD z77).f1 = _
    rw [show (0 : Int).toNat = 0 from rfl, List.getElem?_eq_getElem (by omega)]
    show ns[0].f1 = _
    omega
  have fin : ∀ A B C : Nat, x.f2 = A → x.f3 = B → x.f4 = C → A < i → B < i → C < i → wdi ns x.f2 i = (wdt ns A : Nat) → wdi ns x.f3 i = (wdt ns B : Nat) → wdi ns x.f4 i = (wdt ns C : Nat) → wdt ns A ≤ 16 → wdt ns B ≤ 16 → 3 ≤ x.f0 → x.f0 ≤ 18 → NOk ns i x := by
    intro A B C eA eB eC hA hB hC wA wB wC a16 b16 o3 o18
    rw [wA, wB, wC] at hf
    have f3 := hf.o3
    have f45 := hf.o45
    have f6 := hf.o6
    have f12 := hf.o12
    have f16 := hf.o16
    have f17 := hf.o17
    have f18 := hf.o18
    refine ⟨⟨h1, h2⟩, .inr (.inr (.inr ⟨o3, o18, A, B, C, eA, eB, eC, hA, hB, hC, ?_⟩))⟩
    rw [hm]
    constructor <;> intros <;> omega
  have hcase : x.f0 = 1 ∨ x.f0 = 21 ∨ x.f0 = 22 ∨ (x.f0 = 3 ∨ x.f0 = 4 ∨ x.f0 = 5 ∨ x.f0 = 18) ∨ ((6 ≤ x.f0 ∧ x.f0 ≤ 15) ∨ x.f0 = 17) ∨ x.f0 = 16 := by
    unfold opsN at h3
    split at h3
    · omega
    · split at h3
      · omega
      · split at h3
        · omega
        · split at h3 <;> omega
  rcases hcase with o | o | o | o | o | o
  · exact ⟨⟨h1, h2⟩, .inl o⟩
  · exact ⟨⟨h1, h2⟩, .inr (.inl o)⟩
  · exact ⟨⟨h1, h2⟩, .inr (.inr (.inl o))⟩
  · have hk : opsN x.f0 = 1 := by unfold opsN; rw [if_neg (by omega), if_pos o]
    have f3 := hf.o3; have f45 := hf.o45; have f18 := hf.o18
    obtain ⟨A, eA, hA, wA, _, a16⟩ := key x.f2 (by omega)
    obtain ⟨B, eB, hB, wB, b16⟩ := zero (by omega) x.f3 (hb (by omega))
    obtain ⟨C, eC, hC, wC, _⟩ := zero (by omega) x.f4 (hc (by omega))
    exact fin A B C eA eB eC hA hB hC wA wB wC a16 b16 (by omega) (by omega)
  · have hk : opsN x.f0 = 2 := by unfold opsN; rw [if_neg (by omega), if_neg (by omega), if_pos o]
    have f6 := hf.o6; have f12 := hf.o12; have f17 := hf.o17
    obtain ⟨A, eA, hA, wA, _, a16⟩ := key x.f2 (by omega)
    obtain ⟨B, eB, hB, wB, _, b16⟩ := key x.f3 (by omega)
    obtain ⟨C, eC, hC, wC, _⟩ := zero (by omega) x.f4 (hc (by omega))
    exact fin A B C eA eB eC hA hB hC wA wB wC a16 b16 (by omega) (by omega)
  · have f16 := hf.o16 o
    obtain ⟨A, eA, hA, wA, _, a16⟩ := key x.f2 (by omega)
    obtain ⟨B, eB, hB, wB, _, b16⟩ := key x.f3 (by omega)
    obtain ⟨C, eC, hC, wC, _⟩ := key x.f4 (by omega)
    exact fin A B C eA eB eC hA hB hC wA wB wC a16 b16 (by omega) (by omega)
theorem at82 {w : World} {A : Option Addr} {l : List S82} (h : Kd.C k82 w A l.length l) (i : Nat) (hi : i < l.length) : ∃ ad , A = some ad ∧ w.cell? (ad.add (i * 4)) = some (.string l[i].f0) ∧ w.cell? ⟨(ad.add (i * 4)).block, (ad.add (i * 4)).off + 1, none⟩ = some (.int .i64 l[i].f1) ∧ w.cell? ⟨(ad.add (i * 4)).block, (ad.add (i * 4)).off + 2, none⟩ = some (.int .i64 l[i].f2) ∧ w.cell? ⟨(ad.add (i * 4)).block, (ad.add (i * 4)).off + 3, none⟩ = some (.int .i64 l[i].f3) := by
  have e : rd_T82 l (i : Int) = l[i] := by simp [rd_T82, List.getD_eq_getElem?_getD, hi]
  have h2 := at_T82 h (i : Int) (by omega) (by omega)
  rw [e, Int.toNat_natCast] at h2
  exact h2
/-- The nodes of an op, in order, as far as node i. -/
structure PinInv {α : Type} (f : α → Int) (ns : List S77) (xs : List α) (op : Int) (i a : Nat) : Prop where
  sum : sumW ns ((xs.take a).map f) = wideS op (ns.take i)
  pin : ∀ (k : Nat) (h : k < xs.length), k < a → ∃ j : Nat, f xs[k] = j ∧ j < ns.length
theorem PinInv.take {α : Type} {f : α → Int} {ns : List S77} {xs : List α} {op : Int} {i a : Nat} (h : PinInv f ns xs op i a) (hi : i < ns.length) (ha : a < xs.length) (e : f xs[a] = (i : Int)) (ho : ns[i].f0 = op) (hw : 1 ≤ ns[i].f1 ∧ ns[i].f1 ≤ 16) : PinInv f ns xs op (i + 1) (a + 1) := by
  refine ⟨?_, fun k hk hka => ?_⟩
  · rw [sumW_take ns f xs a ha, wideS_take op ns i hi, h.sum, if_pos ho, e, Int.toNat_natCast]
    have : wdt ns i = ns[i].f1.toNat := by unfold wdt; rw [List.getD_eq_getElem?_getD, List.getElem?_eq_getElem hi]; rfl
    omega
  · rcases Nat.lt_or_ge k a with h1 | h1
    · exact h.pin k hk h1
    · have : k = a := by omega
      subst this
      exact ⟨i, e, hi⟩
theorem PinInv.pass {α : Type} {f : α → Int} {ns : List S77} {xs : List α} {op : Int} {i a : Nat} (h : PinInv f ns xs op i a) (hi : i < ns.length) (ho : ns[i].f0 ≠ op) : PinInv f ns xs op (i + 1) a := by
  refine ⟨?_, h.pin⟩
  rw [wideS_take op ns i hi, h.sum, if_neg ho]; omega
/-- What pins told. -/
structure PinsOk (n : S27) : Prop where
  psum : sumW n.f0 (n.f1.map S79.f1) = wideS 21 n.f0
  csum : sumW n.f0 (n.f2.map S82.f1) = wideS 22 n.f0
  pins : ∀ (i : Nat) (h : i < n.f1.length), ∃ j : Nat, n.f1[i].f1 = j ∧ j < n.f0.length
  cells : ∀ (i : Nat) (h : i < n.f2.length), ∃ j : Nat, n.f2[i].f1 = j ∧ j < n.f0.length
set_option maxHeartbeats 32000000 in
set_option maxRecDepth 100000 in
theorem pins_any (n : S27) (cs : List Value) (w : World) (h : k27.K w n cs) (hW : ∀ (j : Nat) (h : j < n.f0.length), 1 ≤ n.f0[j].f1 ∧ n.f0[j].f1 ≤ 16) :
    Calls Try.prog 70 #[.agg cs.toArray] w (RetB (fun b => b = true → PinsOk n) w) := by
  obtain ⟨A0, c0, A1, c1, A2, c2, A3, c3, A4, c4, rfl, _, hC0, _, hC1, _, hC2, _⟩ := k27_open h
  have HC := am hC0
  have HC1 := am hC1
  have HC2 := am hC2
  have hm : n.f0.length ≤ 9223372036854775807 := hC0.2.1
  have hm1 : n.f1.length ≤ 9223372036854775807 := hC1.2.1
  have hm2 : n.f2.length ≤ 9223372036854775807 := hC2.2.1
  have HW := am hW
  have HL : Aside0 (Led [] w w) := ⟨Led.nil w⟩
  clear h hC0 hC1 hC2 hW
  go_enter Try.func70, Try.ntmps70
  go_wp2_with ((with_reducible refine zg 1 rfl ?_); refine zx 1 [.slice A0 n.f0.length c0, .slice A1 n.f1.length c1, .slice A2 n.f2.length c2, .slice A3 n.f3.length c3, .slice A4 n.f4.length c4] 27 HL ?_; clear HL; intro g1 w1_ HL hb; clear hb)
  go_loopw [3, 4, 5] (fun v3 v4 v5 wr => ∃ a b i : Nat, v3 = .int .i64 (a : Int) ∧ v4 = .int .i64 (b : Int) ∧ v5 = .int .i64 (i : Int) ∧ i ≤ n.f0.length ∧ a ≤ n.f1.length ∧ b ≤ n.f2.length ∧ Aside0 (Led [(g1, [.slice A0 n.f0.length c0, .slice A1 n.f1.length c1, .slice A2 n.f2.length c2, .slice A3 n.f3.length c3, .slice A4 n.f4.length c4], 27)] w wr) ∧ Aside0 (PinInv S79.f1 n.f0 n.f1 21 i a) ∧ Aside0 (PinInv S82.f1 n.f0 n.f2 22 i b)) (fun _ _ v _ => n.f0.length - (intOf v).toNat)
  case atStart => exact ⟨0, 0, 0, rfl, rfl, rfl, Nat.zero_le _, Nat.zero_le _, Nat.zero_le _, HL, ⟨⟨by simp [wideS, sumW], fun k _ h => by omega⟩⟩, ⟨⟨by simp [wideS, sumW], fun k _ h => by omega⟩⟩⟩
  case round =>
    clear HL
    obtain ⟨a, b, i, rfl, rfl, rfl, hi, ha, hb, HL, HP, HQ⟩ := hrel
    have hk0 : wr.cell? ⟨g1, 0, none⟩ = some (.slice A0 n.f0.length c0) := blk_cell HL.out.g0 0
    have hk1 : wr.cell? ⟨g1, 1, none⟩ = some (.slice A1 n.f1.length c1) := blk_cell HL.out.g0 1
    have hk2 : wr.cell? ⟨g1, 2, none⟩ = some (.slice A2 n.f2.length c2) := blk_cell HL.out.g0 2
    by_cases hlt : i < n.f0.length
    · obtain ⟨ad, rfl, h0, h1, hr⟩ := at77 (Kd.C_below HC.out HL.out.below) i hlt
      clear h1 hr
      have q0 : (0 : Int) ≤ (i : Int) := by omega
      have q1 : (i : Int) < (n.f0.length : Int) := by omega
      have HWW := am (HW.out i hlt)
      obtain ⟨o, ho⟩ : ∃ o, n.f0[i].f0 = o := ⟨_, rfl⟩
      rw [ho] at h0
      have HOO := am ho
      clear ho
      by_cases o21 : o = 21
      · subst o21
        have HQ2 := am (HQ.out.pass hlt (by rw [HOO.out]; decide))
        by_cases hal : a < n.f1.length
        · have f0 : decide ((n.f1.length : Int) ≤ (a : Int)) = false := decide_eq_false (by omega)
          have p0 : (0 : Int) ≤ (a : Int) := by omega
          have p1 : (a : Int) < (n.f1.length : Int) := by omega
          obtain ⟨pd, rfl, g0_, g1⟩ := at79 (Kd.C_below HC1.out HL.out.below) a hal
          clear g0_
          obtain ⟨p, hp⟩ : ∃ p, n.f1[a].f1 = p := ⟨_, rfl⟩
          rw [hp] at g1
          have HP_ := am hp
          clear hp
          cases e : (p != (i : Int))
          · have ep : p = (i : Int) := by simpa using e
            have HS := am (HP.out.take hlt hal (HP_.out.trans ep) HOO.out HWW.out)
            clear ep
            go_wp2
            go_roundw
            case rel => exact ⟨a + 1, b, i + 1, by go_num, by go_num, by go_num, by omega, by omega, by omega, HL, ⟨HS.out⟩, ⟨HQ2.out⟩⟩
            case measure => simp [intOf]; omega
          · clear HP_
            go_wp2
            go_ret
            exact ⟨_, rfl, (fun h => by cases h), HL.out.below⟩
        · have f0 : decide ((n.f1.length : Int) ≤ (a : Int)) = true := decide_eq_true (by omega)
          go_wp2
          go_ret
          exact ⟨_, rfl, (fun h => by cases h), HL.out.below⟩
      · have e21 : (o == 21) = false := beq_eq_false_iff_ne.mpr o21
        have HP2 := am (HP.out.pass hlt (by rw [HOO.out]; exact o21))
        clear o21
        by_cases o22 : o = 22
        · subst o22
          by_cases hal : b < n.f2.length
          · have f0 : decide ((n.f2.length : Int) ≤ (b : Int)) = false := decide_eq_false (by omega)
            have p0 : (0 : Int) ≤ (b : Int) := by omega
            have p1 : (b : Int) < (n.f2.length : Int) := by omega
            obtain ⟨pd, rfl, g0_, g1, g2_⟩ := at82 (Kd.C_below HC2.out HL.out.below) b hal
            clear g0_ g2_
            obtain ⟨p, hp⟩ : ∃ p, n.f2[b].f1 = p := ⟨_, rfl⟩
            rw [hp] at g1
            have HP_ := am hp
            clear hp
            cases e : (p != (i : Int))
            · have ep : p = (i : Int) := by simpa using e
              have HS := am (HQ.out.take hlt hal (HP_.out.trans ep) HOO.out HWW.out)
              clear ep
              go_wp2
              go_roundw
              case rel => exact ⟨a, b + 1, i + 1, by go_num, by go_num, by go_num, by omega, by omega, by omega, HL, ⟨HP2.out⟩, ⟨HS.out⟩⟩
              case measure => simp [intOf]; omega
            · clear HP_
              go_wp2
              go_ret
              exact ⟨_, rfl, (fun h => by cases h), HL.out.below⟩
          · have f0 : decide ((n.f2.length : Int) ≤ (b : Int)) = true := decide_eq_true (by omega)
            go_wp2
            go_ret
            exact ⟨_, rfl, (fun h => by cases h), HL.out.below⟩
        · have e22 : (o == 22) = false := beq_eq_false_iff_ne.mpr o22
          have HQ2 := am (HQ.out.pass hlt (by rw [HOO.out]; exact o22))
          clear o22
          go_wp2
          go_roundw
          case rel => exact ⟨a, b, i + 1, by go_num, by go_num, by go_num, by omega, by omega, by omega, HL, ⟨HP2.out⟩, ⟨HQ2.out⟩⟩
          case measure => simp [intOf]; omega
    · obtain rfl : i = n.f0.length := by omega
      cases e1 : ((a : Int) == (n.f1.length : Int)) <;> cases e2 : ((b : Int) == (n.f2.length : Int))
      all_goals go_wp2
      all_goals go_ret
      all_goals first
        | exact ⟨_, rfl, (fun h => Bool.noConfusion (show false = true from h)), HL.out.below⟩
        | (refine ⟨_, rfl, (fun _ => ?_), HL.out.below⟩
           have ea : a = n.f1.length := by have := beq_iff_eq.1 e1; omega
           have eb : b = n.f2.length := by have := beq_iff_eq.1 e2; omega
           have h1 := HP.out
           have h2 := HQ.out
           rw [ea] at h1
           rw [eb] at h2
           refine ⟨?_, ?_, fun k hk => h1.pin k hk hk, fun k hk => h2.pin k hk hk⟩
           · have := h1.sum; rw [List.take_length, List.take_length] at this; exact this
           · have := h2.sum; rw [List.take_length, List.take_length] at this; exact this)
/-- A number that hangs on nothing. -/
def Free (_ : Int) : Prop := True
def Cell9 (n : S27) (k : Nat) : Prop := ∀ (i : Nat) (h : i < n.f2.length), i < k → ∃ j q : Nat, n.f2[i].f1 = j ∧ j < n.f0.length ∧ n.f2[i].f2 = q ∧ q < n.f0.length ∧ wdt n.f0 q = wdt n.f0 j
def Prop9 (n : S27) (k : Nat) : Prop := ∀ (i : Nat) (h : i < n.f3.length), i < k → ∃ j : Nat, n.f3[i].f2 = j ∧ j < n.f0.length ∧ wdt n.f0 j = 1
/-- What Right told. -/
structure RightOk (n : S27) : Prop where
  nodes : ∀ (i : Nat) (h : i < n.f0.length), NodeOk n.f0 i n.f0[i]
  pins : PinsOk n
  cells : Cell9 n n.f2.length
  props : Prop9 n n.f3.length
theorem wdt_toNat {ns : List S77} {i : Nat} (h : i < ns.length) : wdt ns i = ns[i].f1.toNat := by unfold wdt; rw [List.getD_eq_getElem?_getD, List.getElem?_eq_getElem h]; rfl
theorem wdi_pos {ns : List S77} {a : Int} (h : 1 ≤ wdi ns a ns.length) : ∃ q : Nat, a = q ∧ q < ns.length ∧ wdt ns q = (wdi ns a ns.length).toNat := by
  by_cases hr : 0 ≤ a ∧ a < ns.length
  · obtain ⟨q, rfl⟩ := Int.eq_ofNat_of_zero_le hr.1
    have hq : q < ns.length := by omega
    refine ⟨q, rfl, hq, ?_⟩
    rw [wdt_toNat hq]
    unfold wdi
    rw [if_pos hr, Int.toNat_natCast, List.getD_eq_getElem?_getD, List.getElem?_eq_getElem hq]; rfl
  · unfold wdi at h; rw [if_neg hr] at h; omega
theorem Cell9.snoc {n : S27} {k : Nat} (h : Cell9 n k) (hk : k < n.f2.length) {j : Nat} {m : Int} (hj : n.f2[k].f1 = j) (hjl : j < n.f0.length) (hm : n.f0[j].f1 = m) (h1 : 1 ≤ m) (hw : wdi n.f0 n.f2[k].f2 n.f0.length = m) : Cell9 n (k + 1) := by
  intro i hi hik
  rcases Nat.lt_or_ge i k with h2 | h2
  · exact h i hi h2
  · have : i = k := by omega
    subst this
    obtain ⟨q, e1, e2, e3⟩ := wdi_pos (ns := n.f0) (a := n.f2[i].f2) (by omega)
    refine ⟨j, q, hj, hjl, e1, e2, ?_⟩
    rw [e3, wdt_toNat hjl, hw, hm]
theorem Prop9.snoc {n : S27} {k : Nat} (h : Prop9 n k) (hk : k < n.f3.length) (hw : wdi n.f0 n.f3[k].f2 n.f0.length = 1) : Prop9 n (k + 1) := by
  intro i hi hik
  rcases Nat.lt_or_ge i k with h2 | h2
  · exact h i hi h2
  · have : i = k := by omega
    subst this
    obtain ⟨q, e1, e2, e3⟩ := wdi_pos (ns := n.f0) (a := n.f3[i].f2) (by omega)
    exact ⟨q, e1, e2, by rw [e3, hw]; rfl⟩
set_option maxHeartbeats 64000000 in
set_option maxRecDepth 100000 in
theorem right_any (n : S27) (cs : List Value) (w : World) (h : k27.K w n cs) :
    Calls Try.prog 41 #[.agg cs.toArray] w (RetB (fun b => b = true → RightOk n) w) := by
  have HK := am h
  obtain ⟨A0, c0, A1, c1, A2, c2, A3, c3, A4, c4, rfl, _, hC0, _, hC1, _, hC2, _, hC3, _, hC4⟩ := k27_open h
  have KN : Aside0 (∀ (i : Nat) (hi : i < n.f0.length), (∀ (j : Nat) (h : j < n.f0.length), j < i → NodeOk n.f0 j n.f0[j]) → ∀ W, Below w.heap.size w W → Calls Try.prog 69 #[.agg #[.slice A0 n.f0.length c0, .slice A1 n.f1.length c1, .slice A2 n.f2.length c2, .slice A3 n.f3.length c3, .slice A4 n.f4.length c4], .int .i64 (i : Int)] W (RetB (fun b => b = true → NodeOk n.f0 i n.f0[i]) W)) := ⟨fun i hi hN W hb => node_any n _ i W (k27.K_below hb HK.out) hi (fun j hj h => ⟨(hN j hj h).1, (hN j hj h).2.1⟩)⟩
  have KP : Aside0 ((∀ (j : Nat) (h : j < n.f0.length), 1 ≤ n.f0[j].f1 ∧ n.f0[j].f1 ≤ 16) → ∀ W, Below w.heap.size w W → Calls Try.prog 70 #[.agg #[.slice A0 n.f0.length c0, .slice A1 n.f1.length c1, .slice A2 n.f2.length c2, .slice A3 n.f3.length c3, .slice A4 n.f4.length c4]] W (RetB (fun b => b = true → PinsOk n) W)) := ⟨fun hN W hb => pins_any n _ W (k27.K_below hb HK.out) hN⟩
  have KT : Aside0 (∀ W (a : Int), Below w.heap.size w W → Calls Try.prog 71 #[.agg #[.slice A0 n.f0.length c0, .slice A1 n.f1.length c1, .slice A2 n.f2.length c2, .slice A3 n.f3.length c3, .slice A4 n.f4.length c4], .int .i64 a] W (RetI (fun r => r = wdi n.f0 a n.f0.length) W)) := ⟨fun W a hb => there_any n _ a W (k27.K_below hb HK.out)⟩
  have HC := am hC0
  have HC1 := am hC1
  have HC2 := am hC2
  have HC3 := am hC3
  have HC4 := am hC4
  have hm : n.f0.length ≤ 9223372036854775807 := hC0.2.1
  have hm1 : n.f1.length ≤ 9223372036854775807 := hC1.2.1
  have hm2 : n.f2.length ≤ 9223372036854775807 := hC2.2.1
  have hm3 : n.f3.length ≤ 9223372036854775807 := hC3.2.1
  have hm4 : n.f4.length ≤ 9223372036854775807 := hC4.2.1
  have HL : Aside0 (Led [] w w) := ⟨Led.nil w⟩
  have hu27 := Try.underlying27
  have hu77 := Try.underlying77
  have hu82 := Try.underlying82
  have hu86 := Try.underlying86
  clear h HK hC0 hC1 hC2 hC3 hC4
  go_enter Try.func41, Try.ntmps41
  go_upto_region 1 with ((with_reducible refine zg 1 rfl ?_); refine zx 1 [.slice A0 n.f0.length c0, .slice A1 n.f1.length c1, .slice A2 n.f2.length c2, .slice A3 n.f3.length c3, .slice A4 n.f4.length c4] 27 HL ?_; clear HL; intro g1 w1_ HL hb; clear hb)
  have hg0 : w1_.cell? ⟨g1, 0, none⟩ = some (.slice A0 n.f0.length c0) := blk_cell (HL.out.get 0 rfl) 0
  have hg1 : w1_.cell? ⟨g1, 1, none⟩ = some (.slice A1 n.f1.length c1) := blk_cell (HL.out.get 0 rfl) 1
  have hg2 : w1_.cell? ⟨g1, 2, none⟩ = some (.slice A2 n.f2.length c2) := blk_cell (HL.out.get 0 rfl) 2
  have hg3 : w1_.cell? ⟨g1, 3, none⟩ = some (.slice A3 n.f3.length c3) := blk_cell (HL.out.get 0 rfl) 3
  have hg4 : w1_.cell? ⟨g1, 4, none⟩ = some (.slice A4 n.f4.length c4) := blk_cell (HL.out.get 0 rfl) 4
  cases e0 : decide ((4000 : Int) < (n.f0.length : Int))
  rotate_left
  · go_wp2
    go_ret
    exact ⟨_, rfl, (fun h => by cases h), HL.out.below⟩
  cases e1 : decide ((64 : Int) < (n.f1.length : Int))
  rotate_left
  · go_wp2
    go_ret
    exact ⟨_, rfl, (fun h => by cases h), HL.out.below⟩
  cases e2 : decide ((256 : Int) < (n.f2.length : Int))
  rotate_left
  · go_wp2
    go_ret
    exact ⟨_, rfl, (fun h => by cases h), HL.out.below⟩
  cases e3 : decide ((16 : Int) < (n.f3.length : Int))
  rotate_left
  · go_wp2
    go_ret
    exact ⟨_, rfl, (fun h => by cases h), HL.out.below⟩
  go_wp2_with (fail)
  clear e0 e1 e2 e3 hg0 hg1 hg2 hg3 hg4
  go_loopw [3] (fun v3 wr => ∃ i : Nat, v3 = .int .i64 (i : Int) ∧ i ≤ n.f0.length ∧ Aside0 (Led [(g1, [.slice A0 n.f0.length c0, .slice A1 n.f1.length c1, .slice A2 n.f2.length c2, .slice A3 n.f3.length c3, .slice A4 n.f4.length c4], 27)] w wr) ∧ Aside0 (∀ (j : Nat) (h : j < n.f0.length), j < i → NodeOk n.f0 j n.f0[j])) (fun v _ => n.f0.length - (intOf v).toNat)
  case atStart => exact ⟨0, rfl, Nat.zero_le _, HL, ⟨fun j _ h => by omega⟩⟩
  case round =>
    clear HL
    obtain ⟨i, rfl, hi, HL, HN⟩ := hrel
    have hk0 : wr.cell? ⟨g1, 0, none⟩ = some (.slice A0 n.f0.length c0) := blk_cell (HL.out.get 0 rfl) 0
    by_cases hlt : i < n.f0.length
    · go_upto_if 43 with (first
        | ((with_reducible refine zg 40 rfl ?_); refine zl 0 27 (.tmp 1) HL hu27 ?_)
        | (go_at_call 69; refine (KN.out i hlt HN.out _ HL.out.below).mono ?_; rintro e we ⟨r, rfl, hr, hb⟩; have HR := am hr; clear hr hk0; replace HL := am (HL.out.step hb); clear hb))
      cases r
      · go_wp2
        go_ret
        exact ⟨_, rfl, (fun h => by cases h), HL.out.below⟩
      · go_wp2
        go_roundw
        case rel => exact ⟨i + 1, by go_num, by omega, HL, ⟨fun j hj h => by
          rcases Nat.lt_or_ge j i with h2 | h2
          · exact HN.out j hj h2
          · have : j = i := by omega
            subst this
            exact HR.out rfl⟩⟩
        case measure => simp [intOf]; omega
    · obtain rfl : i = n.f0.length := by omega
      have HNN : Aside0 (∀ (j : Nat) (h : j < n.f0.length), NodeOk n.f0 j n.f0[j]) := ⟨fun j h => HN.out j h h⟩
      have HW : Aside0 (∀ (j : Nat) (h : j < n.f0.length), 1 ≤ n.f0[j].f1 ∧ n.f0[j].f1 ≤ 16) := ⟨fun j h => ⟨(HNN.out j h).1, (HNN.out j h).2.1⟩⟩
      clear HN KN hi hlt
      go_upto_if 46 with (first
        | ((with_reducible refine zg 44 rfl ?_); refine zl 0 27 (.tmp 1) HL hu27 ?_)
        | (go_at_call 70; refine (KP.out HW.out _ HL.out.below).mono ?_; rintro e we ⟨r, rfl, hr, hb⟩; have HR := am hr; clear hr hk0; replace HL := am (HL.out.step hb); clear hb))
      cases r
      · go_wp2
        go_ret
        exact ⟨_, rfl, (fun h => by cases h), HL.out.below⟩
      · have HPN : Aside0 (PinsOk n) := ⟨HR.out rfl⟩
        clear HR KP
        simp only [Bool.not_true]
        go_wp2_with (fail)
        go_loopw [4, 5] (fun v4 v5 wr => ∃ (s : Int) (i : Nat), v4 = .int .i64 s ∧ v5 = .int .i64 (i : Int) ∧ i ≤ n.f2.length ∧ Aside0 (Led [(g1, [.slice A0 n.f0.length c0, .slice A1 n.f1.length c1, .slice A2 n.f2.length c2, .slice A3 n.f3.length c3, .slice A4 n.f4.length c4], 27)] w wr) ∧ Aside0 (Cell9 n i) ∧ Free s) (fun _ v _ => n.f2.length - (intOf v).toNat)
        case atStart => exact ⟨0, 0, rfl, rfl, Nat.zero_le _, HL, ⟨fun j _ h => by omega⟩, trivial⟩
        case round =>
          clear HL
          obtain ⟨s, i, rfl, rfl, hi, HL, H9, _⟩ := hrel
          have hk2 : wr.cell? ⟨g1, 2, none⟩ = some (.slice A2 n.f2.length c2) := blk_cell (HL.out.get 0 rfl) 2
          by_cases hlt : i < n.f2.length
          · obtain ⟨cd, cx, rfl, hKx, hcx⟩ := el_get HC2.out i hlt
            obtain ⟨j, hj, hjl⟩ := HPN.out.cells i hlt
            obtain ⟨pd, rfl, h0_, h1_, h2_⟩ := at77 HC.out j hjl
            clear h0_ h2_
            have hw := HW.out j hjl
            obtain ⟨m, hmm⟩ : ∃ m, n.f0[j].f1 = m := ⟨_, rfl⟩
            rw [hmm] at h1_ hw
            have H9S : Aside0 (1 ≤ m → wdi n.f0 n.f2[i].f2 n.f0.length = m → Cell9 n (i + 1)) := ⟨fun h1 hw => H9.out.snoc hlt hj hjl hmm h1 hw⟩
            obtain ⟨⟨nm, jj, nx, rs⟩, hx⟩ : ∃ x, n.f2[i] = x := ⟨_, rfl⟩
            rw [hx] at hKx hj H9S
            dsimp only at hj H9S
            subst hj
            obtain rfl := k82_open hKx
            have HCX := am hcx
            have HWC := am (fun W (hb : Below w.heap.size w W) => pw_cell_below hb h1_)
            obtain ⟨g0_, g16⟩ := hw
            obtain ⟨M, hM⟩ := mask_is m (by omega) g16
            have HM := am hM
            obtain ⟨nw, hnw⟩ : ∃ z, wdi n.f0 nx n.f0.length = z := ⟨_, rfl⟩
            rw [hnw] at H9S
            have KX : Aside0 (∀ W, Below w.heap.size w W → Calls Try.prog 71 #[.agg #[.slice (some pd) n.f0.length c0, .slice A1 n.f1.length c1, .slice (some cd) n.f2.length c2, .slice A3 n.f3.length c3, .slice A4 n.f4.length c4], .int .i64 nx] W (fun e w' => e = .returned (.int .i64 nw) ∧ Below W.heap.size W w')) := ⟨fun W hb => RetI.is (hnw ▸ KT.out W nx hb)⟩
            have q0 : (0 : Int) ≤ (i : Int) := by omega
            have q1 : (i : Int) < (n.f2.length : Int) := by omega
            have q2 : (0 : Int) ≤ (j : Int) := by omega
            have q3 : (j : Int) < (n.f0.length : Int) := by omega
            clear hKx hcx h1_ hM hnw hmm hx
            go_upto_region 17 with (first
              | ((with_reducible refine zg 58 rfl ?_); refine zle 58 82 (.tmp 57) [.string nm, .int .i64 (j : Int), .int .i64 nx, .int .i64 rs] (HCX.out _ HL.out.below) hu82 ?_)
              | ((with_reducible refine zg 6 rfl ?_); refine zx 6 [.string ⟨#[]⟩, .int .i64 0, .int .i64 0, .int .i64 0] 82 HL ?_; clear HL; intro g6 w2_ HL hb; clear hb hk2)
              | ((with_reducible refine zst 82 (.tmp 6) (.tmp 58) rfl ?_); refine zs 0 0 82 (.tmp 6) (.tmp 58) [.string nm, .int .i64 (j : Int), .int .i64 nx, .int .i64 rs] HL ?_; intro w3_ HLn hfar; replace HL := HLn; clear HLn hfar; have hk0 : w3_.cell? ⟨g1, 0, none⟩ = some (.slice (some pd) n.f0.length c0) := blk_cell (HL.out.get 1 rfl) 0; have hj1 : w3_.cell? ⟨g6, 1, none⟩ = some (.int .i64 (j : Int)) := blk_cell (HL.out.get 0 rfl) 1; have hwc := HWC.out _ HL.out.below))
            clear hk0 hwc
            have hg0 : w3_.cell? ⟨g1, 0, none⟩ = some (.slice (some pd) n.f0.length c0) := blk_cell (HL.out.get 1 rfl) 0
            have hg1 : w3_.cell? ⟨g1, 1, none⟩ = some (.slice A1 n.f1.length c1) := blk_cell (HL.out.get 1 rfl) 1
            have hg2 : w3_.cell? ⟨g1, 2, none⟩ = some (.slice (some cd) n.f2.length c2) := blk_cell (HL.out.get 1 rfl) 2
            have hg3 : w3_.cell? ⟨g1, 3, none⟩ = some (.slice A3 n.f3.length c3) := blk_cell (HL.out.get 1 rfl) 3
            have hg4 : w3_.cell? ⟨g1, 4, none⟩ = some (.slice A4 n.f4.length c4) := blk_cell (HL.out.get 1 rfl) 4
            have hj2 : w3_.cell? ⟨g6, 2, none⟩ = some (.int .i64 nx) := blk_cell (HL.out.get 0 rfl) 2
            have hj3 : w3_.cell? ⟨g6, 3, none⟩ = some (.int .i64 rs) := blk_cell (HL.out.get 0 rfl) 3
            go_cut [86] (fun v wx => ∃ z : Bool, v = .bool z ∧ Aside0 (z = false → nw = m) ∧ Aside0 (Led [(g6, [.string nm, .int .i64 (j : Int), .int .i64 nx, .int .i64 rs], 82), (g1, [.slice (some pd) n.f0.length c0, .slice A1 n.f1.length c1, .slice (some cd) n.f2.length c2, .slice A3 n.f3.length c3, .slice A4 n.f4.length c4], 27)] w wx))
            case first =>
              cases e1 : (nw != m)
              rotate_left
              · refine start_ (n := 18) (S := (fun W => (W.cell? ⟨g1, 0, none⟩ = some (.slice (some pd) n.f0.length c0) ∧ W.cell? ⟨g1, 1, none⟩ = some (.slice A1 n.f1.length c1) ∧ W.cell? ⟨g1, 2, none⟩ = some (.slice (some cd) n.f2.length c2) ∧ W.cell? ⟨g1, 3, none⟩ = some (.slice A3 n.f3.length c3) ∧ W.cell? ⟨g1, 4, none⟩ = some (.slice A4 n.f4.length c4) ∧ W.cell? ⟨g6, 2, none⟩ = some (.int .i64 nx) ∧ W.cell? ⟨g6, 3, none⟩ = some (.int .i64 rs)) ∧ Aside0 (Below w3_.heap.size w3_ W))) (ds := []) #[false, false, false, false, false, false, false, false, false, false, false, false, false, false, false, false, false, false] (by kernel_rfl) rfl rfl ⟨⟨hg0, hg1, hg2, hg3, hg4, hj2, hj3⟩, ⟨below_drew (Below.refl _ _)⟩⟩ (fun hHeld => ?_)
                refine pu 1 70 ?_
                refine pu 4 73 ?_
                refine tk 0 69 hHeld ?_
                refine tk 2 71 hHeld ?_
                refine cl 3 72 71 (.int .i64 nw) Try.func71 (fun we => Below w3_.drew.heap.size w3_.drew we) hHeld (KX.out _ HL.out.drew.below) (fun we hb => ⟨⟨pw_cell_below hb hHeld.1.1, pw_cell_below hb hHeld.1.2.1, pw_cell_below hb hHeld.1.2.2.1, pw_cell_below hb hHeld.1.2.2.2.1, pw_cell_below hb hHeld.1.2.2.2.2.1, pw_cell_below hb hHeld.1.2.2.2.2.2.1, pw_cell_below hb hHeld.1.2.2.2.2.2.2⟩, ⟨below_step (below_drew (Below.refl _ _)) hb⟩⟩) ?_
                intro we hb hHeld
                refine pu 5 74 ?_
                refine pu 6 75 ?_
                refine pn 7 76 ?_
                refine pn 8 77 ?_
                refine pn 9 78 ?_
                refine pu 10 79 ?_
                refine pu 11 80 ?_
                refine pn 12 81 ?_
                refine pn 13 82 ?_
                refine pn 14 83 ?_
                refine pn 15 84 ?_
                refine pn 16 85 ?_
                refine pu 17 86 ?_
                refine done_ (by kernel_rfl) ?_
                go_wp2_with (fail)
                go_meet
                exact ⟨_, rfl, ⟨fun h => by cases h⟩, ⟨HL.out.drew.step hb⟩⟩
              have HE : Aside0 (nw = m) := ⟨by simpa using e1⟩
              cases e2 : decide (rs < 0)
              · refine start_ (n := 18) (S := (fun W => (W.cell? ⟨g1, 0, none⟩ = some (.slice (some pd) n.f0.length c0) ∧ W.cell? ⟨g1, 1, none⟩ = some (.slice A1 n.f1.length c1) ∧ W.cell? ⟨g1, 2, none⟩ = some (.slice (some cd) n.f2.length c2) ∧ W.cell? ⟨g1, 3, none⟩ = some (.slice A3 n.f3.length c3) ∧ W.cell? ⟨g1, 4, none⟩ = some (.slice A4 n.f4.length c4) ∧ W.cell? ⟨g6, 2, none⟩ = some (.int .i64 nx) ∧ W.cell? ⟨g6, 3, none⟩ = some (.int .i64 rs)) ∧ Aside0 (Below w3_.heap.size w3_ W))) (ds := []) #[false, false, false, false, false, false, false, false, false, false, false, false, false, false, false, false, false, false] (by kernel_rfl) rfl rfl ⟨⟨hg0, hg1, hg2, hg3, hg4, hj2, hj3⟩, ⟨below_drew (Below.refl _ _)⟩⟩ (fun hHeld => ?_)
                refine pu 1 70 ?_
                refine pu 4 73 ?_
                refine tk 0 69 hHeld ?_
                refine tk 2 71 hHeld ?_
                refine cl 3 72 71 (.int .i64 nw) Try.func71 (fun we => Below w3_.drew.heap.size w3_.drew we) hHeld (KX.out _ HL.out.drew.below) (fun we hb => ⟨⟨pw_cell_below hb hHeld.1.1, pw_cell_below hb hHeld.1.2.1, pw_cell_below hb hHeld.1.2.2.1, pw_cell_below hb hHeld.1.2.2.2.1, pw_cell_below hb hHeld.1.2.2.2.2.1, pw_cell_below hb hHeld.1.2.2.2.2.2.1, pw_cell_below hb hHeld.1.2.2.2.2.2.2⟩, ⟨below_step (below_drew (Below.refl _ _)) hb⟩⟩) ?_
                intro we hb hHeld
                refine pu 5 74 ?_
                refine pu 6 75 ?_
                refine pu 7 76 ?_
                refine tk 8 77 hHeld ?_
                refine pu 9 78 ?_
                refine pu 10 79 ?_
                refine pu 11 80 ?_
                refine pu 12 81 ?_
                refine pu 14 83 ?_
                refine tk 13 82 hHeld ?_
                refine cl 15 84 72 (.int .i64 M) Try.func72 (fun w' => w' = we) hHeld (HM.out _) (fun w' e => e ▸ hHeld) ?_
                intro w' e hHeld2
                subst e
                refine pu 16 85 ?_
                refine pu 17 86 ?_
                refine done_ (by kernel_rfl) ?_
                go_wp2_with (fail)
                go_meet
                exact ⟨_, rfl, ⟨fun _ => HE.out⟩, ⟨HL.out.drew.step hb⟩⟩
              · refine start_ (n := 18) (S := (fun W => (W.cell? ⟨g1, 0, none⟩ = some (.slice (some pd) n.f0.length c0) ∧ W.cell? ⟨g1, 1, none⟩ = some (.slice A1 n.f1.length c1) ∧ W.cell? ⟨g1, 2, none⟩ = some (.slice (some cd) n.f2.length c2) ∧ W.cell? ⟨g1, 3, none⟩ = some (.slice A3 n.f3.length c3) ∧ W.cell? ⟨g1, 4, none⟩ = some (.slice A4 n.f4.length c4) ∧ W.cell? ⟨g6, 2, none⟩ = some (.int .i64 nx) ∧ W.cell? ⟨g6, 3, none⟩ = some (.int .i64 rs)) ∧ Aside0 (Below w3_.heap.size w3_ W))) (ds := []) #[false, false, false, false, false, false, false, false, false, false, false, false, false, false, false, false, false, false] (by kernel_rfl) rfl rfl ⟨⟨hg0, hg1, hg2, hg3, hg4, hj2, hj3⟩, ⟨below_drew (Below.refl _ _)⟩⟩ (fun hHeld => ?_)
                refine pu 1 70 ?_
                refine pu 4 73 ?_
                refine tk 0 69 hHeld ?_
                refine tk 2 71 hHeld ?_
                refine cl 3 72 71 (.int .i64 nw) Try.func71 (fun we => Below w3_.drew.heap.size w3_.drew we) hHeld (KX.out _ HL.out.drew.below) (fun we hb => ⟨⟨pw_cell_below hb hHeld.1.1, pw_cell_below hb hHeld.1.2.1, pw_cell_below hb hHeld.1.2.2.1, pw_cell_below hb hHeld.1.2.2.2.1, pw_cell_below hb hHeld.1.2.2.2.2.1, pw_cell_below hb hHeld.1.2.2.2.2.2.1, pw_cell_below hb hHeld.1.2.2.2.2.2.2⟩, ⟨below_step (below_drew (Below.refl _ _)) hb⟩⟩) ?_
                intro we hb hHeld
                refine pu 5 74 ?_
                refine pu 6 75 ?_
                refine pu 7 76 ?_
                refine tk 8 77 hHeld ?_
                refine pu 9 78 ?_
                refine pu 10 79 ?_
                refine pu 11 80 ?_
                refine pn 12 81 ?_
                refine pn 13 82 ?_
                refine pn 14 83 ?_
                refine pn 15 84 ?_
                refine pn 16 85 ?_
                refine pu 17 86 ?_
                refine done_ (by kernel_rfl) ?_
                go_wp2_with (fail)
                go_meet
                exact ⟨_, rfl, ⟨fun _ => HE.out⟩, ⟨HL.out.drew.step hb⟩⟩
            case rest =>
              clear hg0 hg1 hg2 hg3 hg4 hj1 hj2 hj3 HL KX HM
              obtain ⟨z, rfl, HZ, HL⟩ := hcut
              cases z
              · go_wp2
                go_roundw
                case rel => exact ⟨_, i + 1, rfl, by go_num, by omega, ⟨HL.out.drop⟩, ⟨H9S.out g0_ (HZ.out rfl)⟩, trivial⟩
                case measure => simp [intOf]; omega
              · go_wp2
                go_ret
                exact ⟨_, rfl, (fun h => by cases h), HL.out.below⟩
          · obtain rfl : i = n.f2.length := by omega
            go_wp2_with (fail)
            clear hk2 hi hlt
            go_loopw [8] (fun v8 wr => ∃ (i : Nat), v8 = .int .i64 (i : Int) ∧ i ≤ n.f3.length ∧ Aside0 (Led [(g1, [.slice A0 n.f0.length c0, .slice A1 n.f1.length c1, .slice A2 n.f2.length c2, .slice A3 n.f3.length c3, .slice A4 n.f4.length c4], 27)] w wr) ∧ Aside0 (Prop9 n i)) (fun v _ => n.f3.length - (intOf v).toNat)
            case atStart => exact ⟨0, rfl, Nat.zero_le _, HL, ⟨fun j _ h => by omega⟩⟩
            case round =>
              clear HL
              obtain ⟨i, rfl, hi, HL, HQ⟩ := hrel
              have hk3 : wr.cell? ⟨g1, 3, none⟩ = some (.slice A3 n.f3.length c3) := blk_cell (HL.out.get 0 rfl) 3
              by_cases hlt : i < n.f3.length
              · obtain ⟨cd, cx, rfl, hKx, hcx⟩ := el_get HC3.out i hlt
                have HQS : Aside0 (wdi n.f0 n.f3[i].f2 n.f0.length = 1 → Prop9 n (i + 1)) := ⟨fun hw => HQ.out.snoc hlt hw⟩
                obtain ⟨⟨kd, nm, nx⟩, hx⟩ : ∃ x, n.f3[i] = x := ⟨_, rfl⟩
                rw [hx] at hKx HQS
                dsimp only at HQS
                obtain rfl := k86_open hKx
                have HCX := am hcx
                obtain ⟨nw, hnw⟩ : ∃ z, wdi n.f0 nx n.f0.length = z := ⟨_, rfl⟩
                rw [hnw] at HQS
                have KX : Aside0 (∀ W, Below w.heap.size w W → Calls Try.prog 71 #[.agg #[.slice A0 n.f0.length c0, .slice A1 n.f1.length c1, .slice A2 n.f2.length c2, .slice (some cd) n.f3.length c3, .slice A4 n.f4.length c4], .int .i64 nx] W (fun e w' => e = .returned (.int .i64 nw) ∧ Below W.heap.size W w')) := ⟨fun W hb => RetI.is (hnw ▸ KT.out W nx hb)⟩
                have q0 : (0 : Int) ≤ (i : Int) := by omega
                have q1 : (i : Int) < (n.f3.length : Int) := by omega
                clear hKx hcx hnw hx
                go_upto_region 23 with (first
                  | ((with_reducible refine zg 98 rfl ?_); refine zle 98 86 (.tmp 97) [.int .i64 kd, .string nm, .int .i64 nx] (HCX.out _ HL.out.below) hu86 ?_)
                  | ((with_reducible refine zg 9 rfl ?_); refine zx 9 [.int .i64 0, .string ⟨#[]⟩, .int .i64 0] 86 HL ?_; clear HL; intro g9 w2_ HL hb; clear hb hk3)
                  | ((with_reducible refine zst 86 (.tmp 9) (.tmp 98) rfl ?_); refine zs 0 0 86 (.tmp 9) (.tmp 98) [.int .i64 kd, .string nm, .int .i64 nx] HL ?_; intro w3_ HLn hfar; replace HL := HLn; clear HLn hfar; have hj0 : w3_.cell? ⟨g9, 0, none⟩ = some (.int .i64 kd) := blk_cell (HL.out.get 0 rfl) 0; have hj2 : w3_.cell? ⟨g9, 2, none⟩ = some (.int .i64 nx) := blk_cell (HL.out.get 0 rfl) 2))
                have hg0 : w3_.cell? ⟨g1, 0, none⟩ = some (.slice A0 n.f0.length c0) := blk_cell (HL.out.get 1 rfl) 0
                have hg1 : w3_.cell? ⟨g1, 1, none⟩ = some (.slice A1 n.f1.length c1) := blk_cell (HL.out.get 1 rfl) 1
                have hg2 : w3_.cell? ⟨g1, 2, none⟩ = some (.slice A2 n.f2.length c2) := blk_cell (HL.out.get 1 rfl) 2
                have hg3 : w3_.cell? ⟨g1, 3, none⟩ = some (.slice (some cd) n.f3.length c3) := blk_cell (HL.out.get 1 rfl) 3
                have hg4 : w3_.cell? ⟨g1, 4, none⟩ = some (.slice A4 n.f4.length c4) := blk_cell (HL.out.get 1 rfl) 4
                cases e1 : decide (kd < 8)
                · cases e2 : decide ((10 : Int) < kd)
                  · cases e3 : (nw != 1)
                    · have HE : Aside0 (nw = 1) := ⟨by simpa using e3⟩
                      go_wp2_with (first
                        | (go_at_call 71; refine (KX.out _ HL.out.below).mono ?_; rintro e we ⟨rfl, hb⟩; clear hj0 hj2; replace HL := am (HL.out.step hb); clear hb))
                      go_roundw
                      case rel => exact ⟨i + 1, by go_num, by omega, ⟨HL.out.drop⟩, ⟨HQS.out HE.out⟩⟩
                      case measure => simp [intOf]; omega
                    · go_wp2_with (first
                        | (go_at_call 71; refine (KX.out _ HL.out.below).mono ?_; rintro e we ⟨rfl, hb⟩; clear hj0 hj2; replace HL := am (HL.out.step hb); clear hb))
                      go_ret
                      exact ⟨_, rfl, (fun h => by cases h), HL.out.below⟩
                  · go_wp2
                    go_ret
                    exact ⟨_, rfl, (fun h => by cases h), HL.out.below⟩
                · go_wp2
                  go_ret
                  exact ⟨_, rfl, (fun h => by cases h), HL.out.below⟩
              · obtain rfl : i = n.f3.length := by omega
                go_wp2_with (fail)
                clear hk3 hi hlt
                go_loopw [10] (fun v10 wr => ∃ (i : Nat), v10 = .int .i64 (i : Int) ∧ i ≤ n.f4.length ∧ Aside0 (Led [(g1, [.slice A0 n.f0.length c0, .slice A1 n.f1.length c1, .slice A2 n.f2.length c2, .slice A3 n.f3.length c3, .slice A4 n.f4.length c4], 27)] w wr)) (fun v _ => n.f4.length - (intOf v).toNat)
                case atStart => exact ⟨0, rfl, Nat.zero_le _, HL⟩
                case round =>
                  clear HL
                  obtain ⟨i, rfl, hi, HL⟩ := hrel
                  by_cases hlt : i < n.f4.length
                  · obtain ⟨pd, rfl, h0_, h1_⟩ := at79 (Kd.C_below HC4.out HL.out.below) i hlt
                    clear h0_
                    obtain ⟨nx, hx⟩ : ∃ x, n.f4[i].f1 = x := ⟨_, rfl⟩
                    rw [hx] at h1_
                    obtain ⟨nw, hnw⟩ : ∃ z, wdi n.f0 nx n.f0.length = z := ⟨_, rfl⟩
                    have KX : Aside0 (∀ W, Below w.heap.size w W → Calls Try.prog 71 #[.agg #[.slice A0 n.f0.length c0, .slice A1 n.f1.length c1, .slice A2 n.f2.length c2, .slice A3 n.f3.length c3, .slice (some pd) n.f4.length c4], .int .i64 nx] W (fun e w' => e = .returned (.int .i64 nw) ∧ Below W.heap.size W w')) := ⟨fun W hb => RetI.is (hnw ▸ KT.out W nx hb)⟩
                    have q0 : (0 : Int) ≤ (i : Int) := by omega
                    have q1 : (i : Int) < (n.f4.length : Int) := by omega
                    clear hnw hx
                    have hg0 : wr.cell? ⟨g1, 0, none⟩ = some (.slice A0 n.f0.length c0) := blk_cell (HL.out.get 0 rfl) 0
                    have hg1 : wr.cell? ⟨g1, 1, none⟩ = some (.slice A1 n.f1.length c1) := blk_cell (HL.out.get 0 rfl) 1
                    have hg2 : wr.cell? ⟨g1, 2, none⟩ = some (.slice A2 n.f2.length c2) := blk_cell (HL.out.get 0 rfl) 2
                    have hg3 : wr.cell? ⟨g1, 3, none⟩ = some (.slice A3 n.f3.length c3) := blk_cell (HL.out.get 0 rfl) 3
                    have hg4 : wr.cell? ⟨g1, 4, none⟩ = some (.slice (some pd) n.f4.length c4) := blk_cell (HL.out.get 0 rfl) 4
                    go_upto_region 28 with (fail)
                    have KS : Aside0 (∀ W, Below wr.heap.size wr W → (W.cell? ⟨g1, 0, none⟩ = some (.slice A0 n.f0.length c0) ∧ W.cell? ⟨g1, 1, none⟩ = some (.slice A1 n.f1.length c1) ∧ W.cell? ⟨g1, 2, none⟩ = some (.slice A2 n.f2.length c2) ∧ W.cell? ⟨g1, 3, none⟩ = some (.slice A3 n.f3.length c3) ∧ W.cell? ⟨g1, 4, none⟩ = some (.slice (some pd) n.f4.length c4) ∧ W.cell? ⟨(pd.add (i * 2)).block, (pd.add (i * 2)).off + 1, none⟩ = some (.int .i64 nx)) ∧ Aside0 (Below wr.heap.size wr W)) := ⟨fun W hb => ⟨⟨pw_cell_below hb (by assumption), pw_cell_below hb (by assumption), pw_cell_below hb (by assumption), pw_cell_below hb (by assumption), pw_cell_below hb (by assumption), pw_cell_below hb (by assumption)⟩, ⟨hb⟩⟩⟩
                    go_cut [129] (fun v wx => ∃ z : Bool, v = .bool z ∧ Aside0 (Led [(g1, [.slice A0 n.f0.length c0, .slice A1 n.f1.length c1, .slice A2 n.f2.length c2, .slice A3 n.f3.length c3, .slice (some pd) n.f4.length c4], 27)] w wx))
                    case first =>
                      go_region_held3 (fun w' => (w'.cell? ⟨g1, 0, none⟩ = some (.slice A0 n.f0.length c0) ∧ w'.cell? ⟨g1, 1, none⟩ = some (.slice A1 n.f1.length c1) ∧ w'.cell? ⟨g1, 2, none⟩ = some (.slice A2 n.f2.length c2) ∧ w'.cell? ⟨g1, 3, none⟩ = some (.slice A3 n.f3.length c3) ∧ w'.cell? ⟨g1, 4, none⟩ = some (.slice (some pd) n.f4.length c4) ∧ w'.cell? ⟨(pd.add (i * 2)).block, (pd.add (i * 2)).off + 1, none⟩ = some (.int .i64 nx)) ∧ Aside0 (Below wr.heap.size wr w'))
                        ((refine KS.out _ ?_; repeat (first | exact Aside0.out (And.right (by assumption)) | refine below_alloc ?_ _ | refine below_step ?_ (by assumption) | refine below_drew ?_ | exact Below.refl _ _)))
                        (first | (go_at_call 71; refine (KX.out _ (below_step HL.out.below (by repeat (first | (with_reducible exact Below.refl _ _) | refine below_alloc ?_ _ | refine below_drew ?_ | refine below_drewN' ?_ _ | refine below_step ?_ (by assumption))))).mono ?_; rintro e we ⟨rfl, hb⟩))
                      all_goals
                        go_wp2_with (fail)
                        go_meet
                        exact ⟨_, rfl, ⟨HL.out.step (by repeat (first | (with_reducible exact Below.refl _ _) | refine below_alloc ?_ _ | refine below_drew ?_ | refine below_drewN' ?_ _ | refine below_step ?_ (by assumption)))⟩⟩
                    case rest =>
                      clear KS hg0 hg1 hg2 hg3 hg4 h1_ HL KX
                      obtain ⟨z, rfl, HL⟩ := hcut
                      cases z
                      · go_wp2
                        go_roundw
                        case rel => exact ⟨i + 1, by go_num, by omega, HL⟩
                        case measure => simp [intOf]; omega
                      · go_wp2
                        go_ret
                        exact ⟨_, rfl, (fun h => by cases h), HL.out.below⟩
                  · have hk4 : wr.cell? ⟨g1, 4, none⟩ = some (.slice A4 n.f4.length c4) := blk_cell (HL.out.get 0 rfl) 4
                    obtain rfl : i = n.f4.length := by omega
                    go_wp2_with (fail)
                    go_ret
                    exact ⟨_, rfl, (fun _ => ⟨HNN.out, HPN.out, H9.out, HQ.out⟩), HL.out.below⟩
structure Small (n : S27) (a b c d e : Nat) : Prop where
  n0 : n.f0.length ≤ a
  n1 : n.f1.length ≤ b
  n2 : n.f2.length ≤ c
  n3 : n.f3.length ≤ d
  n4 : n.f4.length ≤ e
set_option maxHeartbeats 16000000 in
theorem great09_any (n : S27) (cs : List Value) (w : World) (h : k27.K w n cs) :
    Calls Try.prog 40 #[.agg cs.toArray] w (RetB (fun b => b = false → Small n 300 100 300 40 300) w) := by
  obtain ⟨A0, c0, A1, c1, A2, c2, A3, c3, A4, c4, rfl, _, hC0, _, hC1, _, hC2, _, hC3, _, hC4⟩ := k27_open h
  have HC := am hC0
  have hm : n.f0.length ≤ 9223372036854775807 := hC0.2.1
  have hm1 : n.f1.length ≤ 9223372036854775807 := hC1.2.1
  have hm2 : n.f2.length ≤ 9223372036854775807 := hC2.2.1
  have hm3 : n.f3.length ≤ 9223372036854775807 := hC3.2.1
  have hm4 : n.f4.length ≤ 9223372036854775807 := hC4.2.1
  have HL : Aside0 (Led [] w w) := ⟨Led.nil w⟩
  clear h hC0 hC1 hC2 hC3 hC4 HC
  go_enter Try.func40, Try.ntmps40
  go_upto_region 1 with (((with_reducible refine zg 1 rfl ?_); refine zx 1 [.slice A0 n.f0.length c0, .slice A1 n.f1.length c1, .slice A2 n.f2.length c2, .slice A3 n.f3.length c3, .slice A4 n.f4.length c4] 27 HL ?_; clear HL; intro g1 w1_ HL hb; clear hb; have hg0 : w1_.cell? ⟨g1, 0, none⟩ = some (.slice A0 n.f0.length c0) := blk_cell (HL.out.get 0 rfl) 0; have hg1 : w1_.cell? ⟨g1, 1, none⟩ = some (.slice A1 n.f1.length c1) := blk_cell (HL.out.get 0 rfl) 1; have hg2 : w1_.cell? ⟨g1, 2, none⟩ = some (.slice A2 n.f2.length c2) := blk_cell (HL.out.get 0 rfl) 2; have hg3 : w1_.cell? ⟨g1, 3, none⟩ = some (.slice A3 n.f3.length c3) := blk_cell (HL.out.get 0 rfl) 3; have hg4 : w1_.cell? ⟨g1, 4, none⟩ = some (.slice A4 n.f4.length c4) := blk_cell (HL.out.get 0 rfl) 4))
  cases e0 : decide ((300 : Int) < (n.f0.length : Int))
  rotate_left
  · go_wp2
    go_ret
    exact ⟨_, rfl, (fun h => by cases h), HL.out.below⟩
  cases e1 : decide ((100 : Int) < (n.f1.length : Int))
  rotate_left
  · go_wp2
    go_ret
    exact ⟨_, rfl, (fun h => by cases h), HL.out.below⟩
  cases e2 : decide ((300 : Int) < (n.f2.length : Int))
  rotate_left
  · go_wp2
    go_ret
    exact ⟨_, rfl, (fun h => by cases h), HL.out.below⟩
  cases e3 : decide ((40 : Int) < (n.f3.length : Int))
  rotate_left
  · go_wp2
    go_ret
    exact ⟨_, rfl, (fun h => by cases h), HL.out.below⟩
  cases e4 : decide ((300 : Int) < (n.f4.length : Int))
  rotate_left
  · go_wp2
    go_ret
    exact ⟨_, rfl, (fun h => by cases h), HL.out.below⟩
  have HS : Aside0 (Small n 300 100 300 40 300) := ⟨by have := of_decide_eq_false e0; have := of_decide_eq_false e1; have := of_decide_eq_false e2; have := of_decide_eq_false e3; have := of_decide_eq_false e4; constructor <;> omega⟩
  go_wp2
  go_ret
  exact ⟨_, rfl, (fun _ => HS.out), HL.out.below⟩
set_option maxHeartbeats 16000000 in
theorem weight_any (x : S77) (w : World) : Calls Try.prog 73 #[.agg #[.int .i64 x.f0, .int .i64 x.f1, .int .i64 x.f2, .int .i64 x.f3, .int .i64 x.f4, .int .i64 x.f5, .int .i64 x.f6]] w (RetI (fun _ => True) w) := by
  have HL : Aside0 (Led [] w w) := ⟨Led.nil w⟩
  go_enter Try.func73, Try.ntmps73
  go_upto_region 1 with ((with_reducible refine zg 1 rfl ?_); refine zx 1 [.int .i64 x.f0, .int .i64 x.f1, .int .i64 x.f2, .int .i64 x.f3, .int .i64 x.f4, .int .i64 x.f5, .int .i64 x.f6] 77 HL ?_; clear HL; intro g1 w1_ HL hb; clear hb; have h0 : w1_.cell? ⟨g1, 0, none⟩ = some (.int .i64 x.f0) := blk_cell (HL.out.get 0 rfl) 0; have h1 : w1_.cell? ⟨g1, 1, none⟩ = some (.int .i64 x.f1) := blk_cell (HL.out.get 0 rfl) 1; have h6 : w1_.cell? ⟨g1, 6, none⟩ = some (.int .i64 x.f6) := blk_cell (HL.out.get 0 rfl) 6)
  by_cases k1 : x.f0 = 1
  · have d1 : (x.f0 == 1) = true := beq_iff_eq.mpr k1
    clear k1
    go_wp2
    go_ret
    exact ⟨_, rfl, trivial, HL.out.below⟩
  have d1 : (x.f0 == 1) = false := beq_eq_false_iff_ne.mpr k1
  clear k1
  by_cases k21 : x.f0 = 21
  · have d21 : (x.f0 == 21) = true := beq_iff_eq.mpr k21
    clear k21
    go_wp2
    go_ret
    exact ⟨_, rfl, trivial, HL.out.below⟩
  have d21 : (x.f0 == 21) = false := beq_eq_false_iff_ne.mpr k21
  clear k21
  by_cases k22 : x.f0 = 22
  · have d22 : (x.f0 == 22) = true := beq_iff_eq.mpr k22
    clear k22
    go_wp2
    go_ret
    exact ⟨_, rfl, trivial, HL.out.below⟩
  have d22 : (x.f0 == 22) = false := beq_eq_false_iff_ne.mpr k22
  clear k22
  by_cases k11 : x.f0 = 11
  · have d11 : (x.f0 == 11) = true := beq_iff_eq.mpr k11
    clear k11
    go_wp2
    go_ret
    exact ⟨_, rfl, trivial, HL.out.below⟩
  have d11 : (x.f0 == 11) = false := beq_eq_false_iff_ne.mpr k11
  clear k11
  by_cases k4 : x.f0 = 4
  · have d4 : (x.f0 == 4) = true := beq_iff_eq.mpr k4
    clear k4
    go_wp2
    go_ret
    exact ⟨_, rfl, trivial, HL.out.below⟩
  have d4 : (x.f0 == 4) = false := beq_eq_false_iff_ne.mpr k4
  clear k4
  by_cases k5 : x.f0 = 5
  · have d5 : (x.f0 == 5) = true := beq_iff_eq.mpr k5
    clear k5
    go_wp2
    go_ret
    exact ⟨_, rfl, trivial, HL.out.below⟩
  have d5 : (x.f0 == 5) = false := beq_eq_false_iff_ne.mpr k5
  clear k5
  by_cases k12 : x.f0 = 12
  · have d12 : (x.f0 == 12) = true := beq_iff_eq.mpr k12
    clear k12
    go_wp2
    go_ret
    exact ⟨_, rfl, trivial, HL.out.below⟩
  have d12 : (x.f0 == 12) = false := beq_eq_false_iff_ne.mpr k12
  clear k12
  by_cases k13 : x.f0 = 13
  · have d13 : (x.f0 == 13) = true := beq_iff_eq.mpr k13
    clear k13
    go_wp2
    go_ret
    exact ⟨_, rfl, trivial, HL.out.below⟩
  have d13 : (x.f0 == 13) = false := beq_eq_false_iff_ne.mpr k13
  clear k13
  by_cases k14 : x.f0 = 14
  · have d14 : (x.f0 == 14) = true := beq_iff_eq.mpr k14
    clear k14
    go_wp2
    go_ret
    exact ⟨_, rfl, trivial, HL.out.below⟩
  have d14 : (x.f0 == 14) = false := beq_eq_false_iff_ne.mpr k14
  clear k14
  by_cases k15 : x.f0 = 15
  · have d15 : (x.f0 == 15) = true := beq_iff_eq.mpr k15
    clear k15
    go_wp2
    go_ret
    exact ⟨_, rfl, trivial, HL.out.below⟩
  have d15 : (x.f0 == 15) = false := beq_eq_false_iff_ne.mpr k15
  clear k15
  go_wp2
  go_ret
  exact ⟨_, rfl, trivial, HL.out.below⟩
set_option maxHeartbeats 16000000 in
theorem weights_any (n : S27) (cs : List Value) (w : World) (h : k27.K w n cs) :
    Calls Try.prog 42 #[.agg cs.toArray] w (RetI (fun _ => True) w) := by
  obtain ⟨A0, c0, A1, c1, A2, c2, A3, c3, A4, c4, rfl, _, hC0, _, hC1, _, hC2, _, hC3, _, hC4⟩ := k27_open h
  have HC := am hC0
  have hm : n.f0.length ≤ 9223372036854775807 := hC0.2.1
  have hm1 : n.f1.length ≤ 9223372036854775807 := hC1.2.1
  have hm2 : n.f2.length ≤ 9223372036854775807 := hC2.2.1
  have hm3 : n.f3.length ≤ 9223372036854775807 := hC3.2.1
  have hm4 : n.f4.length ≤ 9223372036854775807 := hC4.2.1
  have HL : Aside0 (Led [] w w) := ⟨Led.nil w⟩
  have hu77 := Try.underlying77
  clear h hC0 hC1 hC2 hC3 hC4
  go_enter Try.func42, Try.ntmps42
  go_wp2_with (((with_reducible refine zg 1 rfl ?_); refine zx 1 [.slice A0 n.f0.length c0, .slice A1 n.f1.length c1, .slice A2 n.f2.length c2, .slice A3 n.f3.length c3, .slice A4 n.f4.length c4] 27 HL ?_; clear HL; intro g1 w1_ HL hb; clear hb; have hg0 : w1_.cell? ⟨g1, 0, none⟩ = some (.slice A0 n.f0.length c0) := blk_cell (HL.out.get 0 rfl) 0; have hg1 : w1_.cell? ⟨g1, 1, none⟩ = some (.slice A1 n.f1.length c1) := blk_cell (HL.out.get 0 rfl) 1; have hg2 : w1_.cell? ⟨g1, 2, none⟩ = some (.slice A2 n.f2.length c2) := blk_cell (HL.out.get 0 rfl) 2; have hg3 : w1_.cell? ⟨g1, 3, none⟩ = some (.slice A3 n.f3.length c3) := blk_cell (HL.out.get 0 rfl) 3; have hg4 : w1_.cell? ⟨g1, 4, none⟩ = some (.slice A4 n.f4.length c4) := blk_cell (HL.out.get 0 rfl) 4))
  clear hg0 hg1 hg2 hg3 hg4
  go_loopw [3, 4] (fun v3 v4 wr => ∃ (s : Int) (i : Nat), v3 = .int .i64 s ∧ v4 = .int .i64 (i : Int) ∧ i ≤ n.f0.length ∧ Aside0 (Led [(g1, [.slice A0 n.f0.length c0, .slice A1 n.f1.length c1, .slice A2 n.f2.length c2, .slice A3 n.f3.length c3, .slice A4 n.f4.length c4], 27)] w wr) ∧ Free s) (fun _ v _ => n.f0.length - (intOf v).toNat)
  case atStart => exact ⟨0, 0, rfl, rfl, Nat.zero_le _, HL, trivial⟩
  case round =>
    clear HL
    obtain ⟨s, i, rfl, rfl, hi, HL, _⟩ := hrel
    have hk0 : wr.cell? ⟨g1, 0, none⟩ = some (.slice A0 n.f0.length c0) := blk_cell (HL.out.get 0 rfl) 0
    by_cases hlt : i < n.f0.length
    · obtain ⟨ad, cx, rfl, hKx, hcx⟩ := el_get HC.out i hlt
      obtain ⟨x, hx⟩ : ∃ x, n.f0[i] = x := ⟨_, rfl⟩
      rw [hx] at hKx
      obtain rfl := k77_open hKx
      have HCX := am hcx
      have q0 : (0 : Int) ≤ (i : Int) := by omega
      have q1 : (i : Int) < (n.f0.length : Int) := by omega
      clear hKx hcx hx
      go_wp2_with (first
        | ((with_reducible refine zg 17 rfl ?_); refine zle 17 77 (.tmp 16) [.int .i64 x.f0, .int .i64 x.f1, .int .i64 x.f2, .int .i64 x.f3, .int .i64 x.f4, .int .i64 x.f5, .int .i64 x.f6] (HCX.out _ HL.out.below) hu77 ?_)
        | (go_at_call 73; refine (weight_any x _).mono ?_; rintro e we ⟨r, rfl, _, hb⟩; clear hk0; replace HL := am (HL.out.step hb); clear hb))
      go_roundw
      case rel => exact ⟨_, i + 1, rfl, by go_num, by omega, HL, trivial⟩
      case measure => simp [intOf]; omega
    · go_wp2
      go_ret
      exact ⟨_, rfl, trivial, HL.out.below⟩
/-- A net that is not too great. -/
theorem great_any (n : S27) (cs : List Value) (w : World) (h : k27.K w n cs) :
    Calls Try.prog 10 #[.agg cs.toArray] w (RetB (fun b => b = false → NetOk n) w) := by
  have KG : Aside0 (∀ W, Below w.heap.size w W → Calls Try.prog 40 #[.agg cs.toArray] W (RetB (fun b => b = false → Small n 300 100 300 40 300) W)) := ⟨fun W hb => great09_any n cs W (k27.K_below hb h)⟩
  have KR : Aside0 (∀ W, Below w.heap.size w W → Calls Try.prog 41 #[.agg cs.toArray] W (RetB (fun b => b = true → RightOk n) W)) := ⟨fun W hb => right_any n cs W (k27.K_below hb h)⟩
  have KW : Aside0 (∀ W, Below w.heap.size w W → Calls Try.prog 42 #[.agg cs.toArray] W (RetI (fun _ => True) W)) := ⟨fun W hb => weights_any n cs W (k27.K_below hb h)⟩
  obtain ⟨A0, c0, A1, c1, A2, c2, A3, c3, A4, c4, rfl, _, hC0, _, hC1, _, hC2, _, hC3, _, hC4⟩ := k27_open h
  have HC := am hC0
  have hm : n.f0.length ≤ 9223372036854775807 := hC0.2.1
  have hm1 : n.f1.length ≤ 9223372036854775807 := hC1.2.1
  have hm2 : n.f2.length ≤ 9223372036854775807 := hC2.2.1
  have hm3 : n.f3.length ≤ 9223372036854775807 := hC3.2.1
  have hm4 : n.f4.length ≤ 9223372036854775807 := hC4.2.1
  have HL : Aside0 (Led [] w w) := ⟨Led.nil w⟩
  have hu27 := Try.underlying27
  clear h hC0 hC1 hC2 hC3 hC4 HC
  have F : Small n 300 100 300 40 300 → RightOk n → n.f0.length ≤ 100 → n.f2.length ≤ 16 → NetOk n := fun a b h1 h2 =>
    ⟨fun i hi => (b.nodes i hi).nok hi (fun j hj _ => ⟨(b.nodes j hj).1, (b.nodes j hj).2.1⟩), h1, a.n1, h2, by have := a.n3; omega, b.pins.pins, fun i hi => b.cells i hi hi, fun i hi => b.props i hi hi, b.pins.psum, b.pins.csum⟩
  have HF := am F
  clear F
  go_enter Try.func10, Try.ntmps10
  cases e3 : decide ((100 : Int) < (n.f0.length : Int)) <;> cases e4 : decide ((16 : Int) < (n.f2.length : Int))
  all_goals go_wp2_with (first
    | ((with_reducible refine zg 1 rfl ?_); refine zx 1 [.slice A0 n.f0.length c0, .slice A1 n.f1.length c1, .slice A2 n.f2.length c2, .slice A3 n.f3.length c3, .slice A4 n.f4.length c4] 27 HL ?_; clear HL; intro g1 w1_ HL hb; clear hb; have hg0 : w1_.cell? ⟨g1, 0, none⟩ = some (.slice A0 n.f0.length c0) := blk_cell (HL.out.get 0 rfl) 0; have hg1 : w1_.cell? ⟨g1, 1, none⟩ = some (.slice A1 n.f1.length c1) := blk_cell (HL.out.get 0 rfl) 1; have hg2 : w1_.cell? ⟨g1, 2, none⟩ = some (.slice A2 n.f2.length c2) := blk_cell (HL.out.get 0 rfl) 2; have hg3 : w1_.cell? ⟨g1, 3, none⟩ = some (.slice A3 n.f3.length c3) := blk_cell (HL.out.get 0 rfl) 3; have hg4 : w1_.cell? ⟨g1, 4, none⟩ = some (.slice A4 n.f4.length c4) := blk_cell (HL.out.get 0 rfl) 4)
    | ((with_reducible refine zg 3 rfl ?_); refine zl 0 27 (.tmp 1) HL hu27 ?_)
    | (go_at_call 40; refine (KG.out _ HL.out.below).mono ?_; rintro e we ⟨r, rfl, hr, hb⟩; have HR1 := am hr; clear hr hg0 hg1 hg2 hg3 hg4; replace HL := am (HL.out.step hb); clear hb; have hg0 : we.cell? ⟨g1, 0, none⟩ = some (.slice A0 n.f0.length c0) := blk_cell (HL.out.get 0 rfl) 0; have hg1 : we.cell? ⟨g1, 1, none⟩ = some (.slice A1 n.f1.length c1) := blk_cell (HL.out.get 0 rfl) 1; have hg2 : we.cell? ⟨g1, 2, none⟩ = some (.slice A2 n.f2.length c2) := blk_cell (HL.out.get 0 rfl) 2; have hg3 : we.cell? ⟨g1, 3, none⟩ = some (.slice A3 n.f3.length c3) := blk_cell (HL.out.get 0 rfl) 3; have hg4 : we.cell? ⟨g1, 4, none⟩ = some (.slice A4 n.f4.length c4) := blk_cell (HL.out.get 0 rfl) 4; cases r)
    | (go_at_call 41; refine (KR.out _ HL.out.below).mono ?_; rintro e we2 ⟨r, rfl, hr, hb⟩; have HR2 := am hr; clear hr hg0 hg1 hg2 hg3 hg4; replace HL := am (HL.out.step hb); clear hb; have hg0 : we2.cell? ⟨g1, 0, none⟩ = some (.slice A0 n.f0.length c0) := blk_cell (HL.out.get 0 rfl) 0; have hg1 : we2.cell? ⟨g1, 1, none⟩ = some (.slice A1 n.f1.length c1) := blk_cell (HL.out.get 0 rfl) 1; have hg2 : we2.cell? ⟨g1, 2, none⟩ = some (.slice A2 n.f2.length c2) := blk_cell (HL.out.get 0 rfl) 2; have hg3 : we2.cell? ⟨g1, 3, none⟩ = some (.slice A3 n.f3.length c3) := blk_cell (HL.out.get 0 rfl) 3; have hg4 : we2.cell? ⟨g1, 4, none⟩ = some (.slice A4 n.f4.length c4) := blk_cell (HL.out.get 0 rfl) 4; cases r)
    | (go_at_call 42; refine (KW.out _ HL.out.below).mono ?_; rintro e we3 ⟨r, rfl, _, hb⟩; clear hg0 hg1 hg2 hg3 hg4; replace HL := am (HL.out.step hb); clear hb))
  all_goals go_ret
  all_goals first
    | exact ⟨_, rfl, (fun h => Bool.noConfusion (show true = false from h)), HL.out.below⟩
    | exact ⟨_, rfl, (fun _ => HF.out (HR1.out (by first | rfl | trivial)) (HR2.out (by first | rfl | trivial)) (by have := of_decide_eq_false e3; omega) (by have := of_decide_eq_false e4; omega)), HL.out.below⟩
theorem rowform {w : World} {e base : Nat} {ok : Nat → Prop} {v : Value} {xs : List Bool} (h : Kd.bool.R e w base ok v xs) (hne : 0 < xs.length) : ∃ g cap, v = .slice (some ⟨g, 0, none⟩) xs.length cap := by
  obtain ⟨inner, h2⟩ := Kd.R_own h
  obtain ⟨g, cap, hv, _, _⟩ := h2.form hne
  exact ⟨g, cap, hv⟩
theorem CircOk.fit {c : S35} (h : CircOk c) : 0 ≤ sizeOf c ∧ sizeOf c ≤ 2000001 ∧ (c.f1.length : Int) ≤ 1000000 ∧ (c.f2.length : Int) ≤ 1000000 := by
  have h1 := h.i0
  have h2 := h.i1
  have h3 := h.ins
  have h4 := h.len
  unfold sizeOf; omega
theorem CircOk.prod {c : S35} (h : CircOk c) {k : Nat} (hk : k ≤ 4) : (k : Int) * (1 + c.f0.f0 + (c.f0.f1.length : Int)) = ((k * U.szN c : Nat) : Int) ∧ k * U.szN c ≤ 8000004 := by
  have h1 := h.szN
  have h2 := h.fit.2.1
  unfold sizeOf at h1 h2
  refine ⟨by rw [h1, Int.natCast_mul], ?_⟩
  have : k * U.szN c ≤ 4 * U.szN c := Nat.mul_le_mul_right _ hk
  omega
theorem add_zero_addr (g v : Nat) : Addr.add ⟨g, 0, none⟩ v = ⟨g, v, none⟩ := by
  unfold Addr.add
  by_cases h : v = 0
  · subst h; rfl
  · simp [h]
theorem boolcell {w : World} {g v : Nat} {b : Bool} (h : w.cell? ⟨g, v, none⟩ = some (.bool b)) (j : Nat) (u : Value) (hu : [Value.bool b][j]? = some u) : w.cell? ⟨g, (v : Int).toNat * Kd.bool.sz + j, none⟩ = some u := by
  cases j with
  | zero =>
    have e : Value.bool b = u := by simpa using hu
    subst e
    rw [show (v : Int).toNat * Kd.bool.sz + 0 = v by show (v : Int).toNat * 1 + 0 = v; omega]; exact h
  | succ j => simp at hu
theorem wrap_small {x : Int} (h0 : -1000000000000 ≤ x) (h1 : x ≤ 1000000000000) : wrap64 x = x := by unfold wrap64; omega
section
variable {P : Program} {ops : Array Oper} {rest : List Oper} {o : Oper} {a : Act} {Q : Exit → Act → World → Prop}
/-- An operation whose value is told. -/
theorem zval {W : World} (N : Tmp) (v : Value) (h : wpList P ops Q rest (a.put o.dst v) W) (hd : o.dst = some N := by rfl) (hgd : o.guard = none := by rfl) (hrun : (execOp a.eval o).run P W = .ok (.value v) W) : wpList P ops Q (o :: rest) a W :=
  Kd.event_run hgd hrun h
end
theorem u8_of {x : Int} (h : (Lit.int .u8 x).wf = true) : 0 ≤ x ∧ x ≤ 255 := by
  unfold Lit.wf at h
  rw [Bool.and_eq_true] at h
  exact ⟨of_decide_eq_true h.1, of_decide_eq_true h.2⟩
theorem u16_of {x : Int} (h : (Lit.int .u16 x).wf = true) : 0 ≤ x ∧ x ≤ 65535 := by
  unfold Lit.wf at h
  rw [Bool.and_eq_true] at h
  exact ⟨of_decide_eq_true h.1, of_decide_eq_true h.2⟩
theorem RetB.tt {f : FuncId} {args : Array Value} {w : World} (h : Calls Try.prog f args w (RetB (fun b => b = true) w)) : Calls Try.prog f args w (fun e w' => e = .returned (.bool true) ∧ Below w.heap.size w w') :=
  h.mono (fun e w' ⟨r, he, hr, hb⟩ => ⟨by rw [he, hr], hb⟩)
end Go.Proofs.Yteilkojmefipcaa.U
