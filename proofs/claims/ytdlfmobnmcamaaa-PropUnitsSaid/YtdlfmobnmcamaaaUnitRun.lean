/- What (*state).run does. Printed by mkrun.py for this claim. -/
import Derived.Test.YtdlfmobnmcamaaaUnitLaw
namespace Go.Proofs.Ytdlfmobnmcamaaa.Q
open Go.RowKit Go.Conc Go.MapKept Go.ChangeMaps Go.Proofs.YtdlfmobnmcamaaaW.PrintWords Go.Proofs.YtdlfmobnmcamaaaW.PrintLast Go.Proofs.YtdlfmobnmcamaaaW.PrintMore
set_option linter.unusedVariables false
set_option linter.unusedSimpArgs false
theorem row_at {w : World} {A : Option Addr} {n : Nat} {xs : List (List Int)} (h : Kd.C (Kd.slice 3 (Kd.int .i64)) w A n xs) (i : Nat) (h1 : i < xs.length) : ∃ ad A0 c0, A = some ad ∧ w.cell? (ad.add i) = some (.slice A0 xs[i].length c0) ∧ xs[i].length ≤ c0 ∧ Kd.C (Kd.int .i64) w A0 xs[i].length xs[i] := by
  have hn := h.1
  obtain ⟨ad, c, e, _, hK, hc0⟩ := Kd.C_get h ([] : List Int) (i : Int) (by omega) (by omega)
  have e2 : xs.getD ((i : Int)).toNat [] = xs[i] := by simp [List.getD_eq_getElem?_getD, h1]
  rw [e2] at hK
  obtain ⟨A0, c0, rfl, hl, hC⟩ := hK
  refine ⟨ad, A0, c0, e, ?_, hl, hC⟩
  have := hc0 0 _ rfl
  simpa [Kd.slice] using this
theorem Inv.room {l : List (List Int)} {known : List Int} {todo : Nat → Prop} {ks : List Int} {p : Nat} (I : Inv l known todo ks p) : ks.length ≤ (known ++ l.flatten).length := List.Nodup.length_le_of_subset I.nodup I.of

/-- Where a literal stands: the numbers of the clauses. -/
def Occ (l : List (List Int)) (y : Int) (zs : List Int) : Prop := (∀ j ∈ zs, ∃ i : Nat, j = (i : Int) ∧ i < l.length) ∧ ∀ (i : Nat) c, l[i]? = some c → y ∈ c → (i : Int) ∈ zs
/-- The map of where literals stand, and the clauses, in each world in which no other blocks have turned. -/
structure Laid (wb : World) (mT ch : Nat) (AL : Option Addr) (mA : Nat) (l : List (List Int)) : Prop where
  row : ∀ w', But2 mT ch wb w' → Kd.C (Kd.slice 3 (Kd.int .i64)) w' AL l.length l
  occ : ∀ y, Lt y → ∃ A c zs, Occ l y zs ∧ ∀ w', But2 mT ch wb w' → (Instr.lookup 60 (.map (some mA)) (.int .i64 y) false).run Try.prog w' = .ok (.slice A zs.length c) w' ∧ Kd.C (Kd.int .i64) w' A zs.length zs
/-- What 'run' leaves. -/
def RunPost (l : List (List Int)) (known : List Int) (wb : World) (S mT ch cap : Nat) (lv av : Value) (ks : List Int) (e : Ending) (w' : World) : Prop :=
  But2 mT ch wb w' ∧ ((e = .returned (.bool false) ∧ Conf l known) ∨ (e = .returned (.bool true) ∧ ∃ ks' p', (∀ x ∈ ks, x ∈ ks') ∧ Inv l known (fun _ => False) ks' p' ∧ ks'.drop p' = [] ∧ Held w' S mT ch cap lv av ks' []))
section
variable {w wb : World} {S mT ch cap mA cL : Nat} {AL : Option Addr} {l : List (List Int)} {known ks : List Int}
def runI (l : List (List Int)) (known : List Int) (wb : World) (S mT ch cap : Nat) (lv av : Value) (ks0 : List Int) (a : Act) (w : World) (p : Nat) : Prop :=
  (∃ u1 u2 u3 u4 u5 u6 u7 u8 u9 u10 u11 u12 u13 u14 u15 u16 u17 u18 u19 u20 u21 u22 u23 u24 u25 u26 u27 u28 u29 u30 u31 u32 u33 u34 u35 u36, a = { tmps := #[.pointer (some ⟨S, 0, none⟩), u1, u2, u3, u4, u5, u6, u7, u8, u9, u10, u11, u12, u13, u14, u15, u16, u17, u18, u19, u20, u21, u22, u23, u24, u25, u26, u27, u28, u29, u30, u31, u32, u33, u34, u35, u36], defers := [] }) ∧ ∃ ks, (∀ x ∈ ks0, x ∈ ks) ∧ But2 mT ch wb w ∧ Inv l known (fun _ => False) ks p ∧ Held w S mT ch cap lv av ks (ks.drop p)
set_option maxHeartbeats 16000000 in
set_option maxRecDepth 100000 in
theorem run_any (p : Nat) (hL : ∀ c ∈ l, ∀ y ∈ c, Lt y) (hX : Laid wb mT ch AL mA l) (hcap : (known ++ l.flatten).length < cap) (hB : But2 mT ch wb w) (I : Inv l known (fun _ => False) ks p) (H : Held w S mT ch cap (.slice AL l.length cL) (.map (some mA)) ks (ks.drop p)) :
    Calls Try.prog 51 #[.pointer (some ⟨S, 0, none⟩)] w (RunPost l known wb S mT ch cap (.slice AL l.length cL) (.map (some mA)) ks) := by
  have HL := Aside0.mk hL
  have HX := Aside0.mk hX
  have HCAP := Aside0.mk hcap
  have HB := Aside0.mk hB
  have HI := Aside0.mk I
  have HH := Aside0.mk H
  clear hL hX hcap hB I H
  refine calls_of_wpN Try.func51 rfl ?_
  simp only [Try.ntmps51, List.size_toArray, List.length_cons, List.length_nil, Nat.reduceAdd, Nat.reduceSub, Array.replicate_succ, Array.replicate_zero, List.push_toArray, List.append_toArray, List.nil_append, List.cons_append]
  refine wpN_seq' fun K1 hK1 => ?_
  go_wp2_with fail
  refine wpN_block ?_
  refine wpN_loop_n (fun n a w => ∃ p, n = (known ++ l.flatten).length - p ∧ runI l known wb S mT ch cap (.slice AL l.length cL) (.map (some mA)) ks a w p) _ ⟨p, rfl, ⟨_, _, _, _, _, _, _, _, _, _, _, _, _, _, _, _, _, _, _, _, _, _, _, _, _, _, _, _, _, _, _, _, _, _, _, _, rfl⟩, ks, fun _ h => h, HB.out, HI.out, HH.out⟩ ?_
  rintro n a w1 ⟨p1, rfl, ⟨u1, u2, u3, u4, u5, u6, u7, u8, u9, u10, u11, u12, u13, u14, u15, u16, u17, u18, u19, u20, u21, u22, u23, u24, u25, u26, u27, u28, u29, u30, u31, u32, u33, u34, u35, u36, rfl⟩, ks1, hk1, hB1, I1, H1⟩
  have HK1 := Aside0.mk hk1
  have HB1 := Aside0.mk hB1
  have HI1 := Aside0.mk I1
  have HH1 := Aside0.mk H1
  obtain ⟨_, _, _, h3⟩ := H1.cells
  obtain ⟨cs, cr, hc⟩ := H1.qu
  have HC := Aside0.mk hc
  clear hk1 hB1 I1 H1 hc
  refine wpN_block ?_
  refine wpN_seq' fun K2 hK2 => ?_
  go_wp2_with fail
  cases hq : ks1.drop p1 with
  | nil =>
    rw [hq] at HC
    refine wpN_seq ?_
    refine wpN_region [] [_, _] _ rfl ?_
    refine ⟨by rfl, _, _, does_none (z := .int .i64 0) ?_ HC.out, ?_⟩
    · simp [execOp, Act.eval, rcase, Result.andThen, Try.zeroValue3]
    · go_wp2_with fail
      refine wpN_block ?_
      refine wpN_cond false rfl ?_
      simp only [Bool.false_eq_true, if_false]
      refine wpN_of_wp ?_
      go_wp2_with fail
      go_ret
      exact ⟨HB1.out, .inr ⟨rfl, ks1, p1, HK1.out, HI1.out, hq, by have := HH1.out; rw [hq] at this; exact this⟩⟩
  | cons x r =>
    rw [hq] at HC
    obtain ⟨hr, I2⟩ := HI1.out.pop hq
    have HI2 := Aside0.mk I2
    obtain ⟨w2, hw2⟩ : ∃ w2, w1.setChan ch cap ((nums .i64 (x :: r)).toArray.extract 1 (nums .i64 (x :: r)).toArray.size) false cs (cr + 1) false = w2 := ⟨_, rfl⟩
    have HH2 : Aside0 (Held w2 S mT ch cap (.slice AL l.length cL) (.map (some mA)) ks1 (ks1.drop (p1 + 1))) := ⟨{
        st := by rw [← hw2, World.setChan, Array.getElem?_setIfInBounds_ne (fun e => HH1.out.st_qu e.symm)]; exact HH1.out.st
        tk := by rw [← hw2, World.setChan, Array.getElem?_setIfInBounds_ne (fun e => HH1.out.tk_qu e.symm)]; exact HH1.out.tk
        qu := ⟨cs, cr + 1, by rw [← hw2, Go.Conc.heap_setChan _ _ _ _ _ _ _ _ (blk_lt HC.out), hr]; simp [nums]; exact List.take_of_length_le (by simp)⟩
        st_tk := HH1.out.st_tk
        st_qu := HH1.out.st_qu
        tk_qu := HH1.out.tk_qu }⟩
    have HB2 : Aside0 (But2 mT ch wb w2) := ⟨HB1.out.trans {
        os := by rw [← hw2]; rfl
        tape := by rw [← hw2]; rfl
        output := by rw [← hw2]; rfl
        size := by rw [← hw2]; simp [World.setChan]
        block := fun k hk h1 h2 => by rw [← hw2, World.setChan, Array.getElem?_setIfInBounds_ne (fun e => h2 e.symm)] }⟩
    have hx : x ∈ ks1 := List.mem_of_mem_drop (i := p1) (by rw [hq]; exact List.mem_cons_self)
    have hlx : Lt (neg x) := neg_Lt (HI1.out.lt x hx)
    have HP : Aside0 (p1 < (known ++ l.flatten).length) := ⟨by
      have := HI1.out.room
      have h2 : p1 < ks1.length := by
        rcases Nat.lt_or_ge p1 ks1.length with h' | h'
        · exact h'
        · rw [List.drop_eq_nil_of_le h'] at hq; cases hq
      omega⟩
    obtain ⟨A5, c5, zs, ho, hx5⟩ := HX.out.occ (neg x) hlx
    have HO := Aside0.mk ho
    have HX5 := Aside0.mk hx5
    clear hx hlx ho hx5 I2 hr
    refine wpN_seq ?_
    refine wpN_region [] [_, _] _ rfl ?_
    refine ⟨by rfl, _, _, does_recv' (v := .int .i64 x) (z := .int .i64 0) rfl ?_ HC.out (by simp [nums]), ?_⟩
    · simp [execOp, Act.eval, rcase, Result.andThen, Try.zeroValue3]
    · rw [hw2]
      clear hw2
      obtain ⟨h6, h7, _, h8⟩ := HH2.out.cells
      go_wp2_with fail
      refine wpN_block ?_
      refine wpN_cond true rfl ?_
      rw [if_pos rfl]
      refine wpN_of_wp ?_
      have hlk : (Instr.lookup 60 (.map (some mA)) (.int .i64 (wrap64 (-x))) false).run Try.prog w2 = .ok (.slice A5 zs.length c5) w2 := (HX5.out w2 HB2.out).1
      go_wp2_with fail
      go_loopw [22] (fun v w' => ∃ j : Nat, v = .int .i64 (j : Int) ∧ j ≤ zs.length ∧ ∃ W : World, W = w' ∧ Aside0 (∃ ks2, (∀ x ∈ ks, x ∈ ks2) ∧ But2 mT ch wb W ∧ Inv l known (fun i => (i : Int) ∈ zs.drop j) ks2 (p1 + 1) ∧ Held W S mT ch cap (.slice AL l.length cL) (.map (some mA)) ks2 (ks2.drop (p1 + 1)))) (fun v _ => zs.length - (intOf v).toNat)
      case atStart =>
        exact ⟨0, rfl, by omega, _, rfl, ⟨ks1, HK1.out, HB2.out, HI2.out.fewer (fun i c hc h => .inl (by obtain ⟨d, hd, hy⟩ := h; rw [List.drop_zero]; exact HO.out.2 i d hd hy)), HH2.out⟩⟩
      case round =>
        obtain ⟨j, rfl, hj, W, rfl, ⟨⟨ks2, hk2, hB3, I3, H3⟩⟩⟩ := hrel
        have HK2 := Aside0.mk hk2
        have HB3 := Aside0.mk hB3
        have HI3 := Aside0.mk I3
        have HH3 := Aside0.mk H3
        obtain ⟨g0, _, _, _⟩ := H3.cells
        have HZ := Aside0.mk (HX5.out W HB3.out).2
        have hzm : zs.length ≤ 9223372036854775807 := HZ.out.2.1
        clear hk2 hB3 I3 H3
        by_cases hlt : j < zs.length
        · obtain ⟨ad, rfl, hz⟩ := Kd.at_int HZ.out (j : Int) (by omega) (by omega)
          rw [Int.toNat_natCast] at hz
          have hmem : YtdlfmobnmcamaaaW.PrintWords.rd zs (j : Int) = zs[j] := rd_at zs j hlt
          obtain ⟨i, hi, hil⟩ := HO.out.1 _ (List.getElem_mem hlt)
          rw [hmem, hi] at hz
          obtain ⟨ad2, A6, c6, rfl, hrow, hl6, hC6⟩ := row_at (HX.out.row W HB3.out) i hil
          obtain ⟨c, hc⟩ : ∃ c, l[i] = c := ⟨_, rfl⟩
          rw [hc] at hrow hl6 hC6
          have hc2 : l[i]? = some c := by rw [List.getElem?_eq_getElem hil, hc]
          have HS := Aside0.mk (look_sub ks2 (ks2.drop (p1 + 1)) c)
          have hroom : (ks2.drop (p1 + 1)).length < cap := by have := HI3.out.room; have := HCAP.out; rw [List.length_drop]; omega
          have hlook := look_any A6 c6 c hC6 HH3.out hroom
          have hinv := HI3.out.look HL.out hc2
          rcases hr3 : lookOf ks2 (ks2.drop (p1 + 1)) c with ⟨b, ks3, q3⟩
          rw [hr3] at hlook hinv HS
          have HD : Aside0 (∀ i' : Nat, (i' : Int) ∈ zs.drop j ∧ i' ≠ i → (i' : Int) ∈ zs.drop (j + 1)) := ⟨by
            rintro i' ⟨h1, h2⟩
            rw [List.drop_eq_getElem_cons hlt, hi] at h1
            rcases List.mem_cons.1 h1 with h | h
            · exact absurd (by omega) h2
            · exact h⟩
          have HLK := Aside0.mk hlook
          have HIN := Aside0.mk hinv
          clear hroom hmem hi hc hl6 hC6 hc2 hlook hinv hr3
          cases b with
          | false =>
            have HCF := Aside0.mk (HIN.out.1 rfl)
            clear HIN
            go_wp2_with fail
            refine HLK.out.mono ?_
            rintro e w4 ⟨rfl, _, hb4⟩
            have HB4 := Aside0.mk (HB3.out.trans hb4)
            clear hb4
            go_wp2_with fail
            go_ret
            exact ⟨HB4.out, .inl ⟨rfl, HCF.out⟩⟩
          | true =>
            have HQ3 : Aside0 (q3 = ks3.drop (p1 + 1)) := ⟨(HIN.out.2 rfl).1⟩
            have HI3' := Aside0.mk (HIN.out.2 rfl).2
            clear HIN
            go_wp2_with fail
            refine HLK.out.mono ?_
            rintro e w4 ⟨rfl, hh4, hb4⟩
            have HB4 := Aside0.mk (HB3.out.trans hb4)
            have HH4 := Aside0.mk hh4
            clear hb4 hh4
            go_wp2_with fail
            go_roundw
            case rel =>
              refine ⟨j + 1, by go_num, by omega, _, rfl, ⟨ks3, fun x hx => HS.out x (HK2.out x hx), HB4.out, HI3'.out.fewer (fun i' d hd h => .inl (HD.out i' h)), ?_⟩⟩
              have := HH4.out
              rw [HQ3.out] at this
              exact this
            case measure => simp [intOf]; omega
        · have HI4 : Aside0 (Inv l known (fun _ => False) ks2 (p1 + 1)) := ⟨HI3.out.fewer (fun i c hc h => by rw [List.drop_eq_nil_of_le (by omega)] at h; cases h)⟩
          go_wp2_with fail
          exact ⟨_, (by have := HP.out; omega), p1 + 1, rfl, ⟨_, _, _, _, _, _, _, _, _, _, _, _, _, _, _, _, _, _, _, _, _, _, _, _, _, _, _, _, _, _, _, _, _, _, _, _, rfl⟩, ks2, HK2.out, HB3.out, HI4.out, HH3.out⟩
end
end Go.Proofs.Ytdlfmobnmcamaaa.Q
