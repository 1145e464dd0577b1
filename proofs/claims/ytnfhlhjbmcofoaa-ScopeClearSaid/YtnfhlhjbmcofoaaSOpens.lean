/- What comes in is of the print's kinds, type by type. Written by lawrow.py, a program of this session. -/
import Derived.Test.YtnfhlhjbmcofoaaBase
import Derived.Test.YtnfhlhjbmcofoaaOpenRec
import Derived.KernelRfl
namespace Go.Proofs.Ytnfhlhjbmcofoaa.S
open Go.RowKit Go.Proofs.YtnfhlhjbmcofoaaW.PrintWords Go.Proofs.YtnfhlhjbmcofoaaW.PrintLast Go.Proofs.Ytnfhlhjbmcofoaa.Open
set_option maxRecDepth 100000
def BL30 (l : List ByteArray) : Prop := l.length * 16 ≤ 140737488351232 ∧ (∀ y ∈ l, y.size ≤ 140737488351232)
theorem opens30 : Opens Try.prog 30 (Kd.slice 9 Kd.string) BL30 :=
  (opens_slice Try.underlying30 (by kernel_rfl) (opens_string Try.underlying9 (by kernel_rfl))).imp (fun l h => ⟨by have h1 := h.1; rw [show Try.prog.bytesOf 9 = 16 by kernel_rfl] at h1; exact h1, h.2⟩)
def B42 (x : S42) : Prop := (x.f0.size ≤ 140737488351232) ∧ ((Lit.int .i64 x.f1).wf = true)
theorem opens42 : Opens Try.prog 42 k42 B42 :=
  (opens_struct (fun x : S42 => (x.f0, x.f1)) (fun p => ⟨p.1, p.2⟩) Try.underlying42 (by kernel_rfl) (opensF_cons (opens_string Try.underlying9 (by kernel_rfl)) rfl (opensF_one (opens_int Try.underlying3 (by kernel_rfl)) rfl)) (fun _ => rfl)).imp (fun x h => h)
def B59 (x : S59) : Prop := (True) ∧ (x.f1.size ≤ 140737488351232) ∧ (B42 x.f2)
theorem opens59 : Opens Try.prog 59 k59 B59 :=
  (opens_struct (fun x : S59 => (x.f0, x.f1, x.f2)) (fun p => ⟨p.1, p.2.1, p.2.2⟩) Try.underlying59 (by kernel_rfl) (opensF_cons (opens_bool Try.underlying4 (by kernel_rfl)) rfl (opensF_cons (opens_string Try.underlying9 (by kernel_rfl)) rfl (opensF_one opens42 rfl))) (fun _ => rfl)).imp (fun x h => h)
def BL31 (l : List (S59)) : Prop := l.length * 48 ≤ 140737488351232 ∧ (∀ y ∈ l, B59 y)
theorem opens31 : Opens Try.prog 31 (Kd.slice 59 k59) BL31 :=
  (opens_slice Try.underlying31 (by kernel_rfl) opens59).imp (fun l h => ⟨by have h1 := h.1; rw [show Try.prog.bytesOf 59 = 48 by kernel_rfl] at h1; exact h1, h.2⟩)
def BL43 (l : List (S42)) : Prop := l.length * 24 ≤ 140737488351232 ∧ (∀ y ∈ l, B42 y)
theorem opens43 : Opens Try.prog 43 (Kd.slice 42 k42) BL43 :=
  (opens_slice Try.underlying43 (by kernel_rfl) opens42).imp (fun l h => ⟨by have h1 := h.1; rw [show Try.prog.bytesOf 42 = 24 by kernel_rfl] at h1; exact h1, h.2⟩)
inductive B47 : S47 → Prop
  | mk (x : S47) (h : ((Lit.int .i64 x.f0).wf = true) ∧ (B42 x.f1) ∧ (B42 x.f2) ∧ (B42 x.f3) ∧ (B42 x.f4) ∧ (x.f5.size ≤ 140737488351232)) (hn6 : x.f6.length * 144 ≤ 140737488351232) (hs6 : ∀ y ∈ x.f6, B47 y) : B47 x
theorem fold47 (w : World) (p : Int × S42 × S42 × S42 × S42 × ByteArray × (List S47)) (cs : List Value) (h : (Kd.pair (Kd.int .i64) (Kd.pair k42 (Kd.pair k42 (Kd.pair k42 (Kd.pair k42 (Kd.pair Kd.string (Kd.slice 47 k47))))))).K w p cs) : k47.K w (⟨p.1, p.2.1, p.2.2.1, p.2.2.2.1, p.2.2.2.2.1, p.2.2.2.2.2.1, p.2.2.2.2.2.2⟩ : S47) cs := by
  obtain ⟨v0, v1, v2, v3, v4, v5, v6⟩ := p
  obtain ⟨_, _, rfl, rfl, ⟨_, _, rfl, s1, ⟨_, _, rfl, s2, ⟨_, _, rfl, s3, ⟨_, _, rfl, s4, ⟨_, _, rfl, rfl, ⟨A6, c6, rfl, l6, g6⟩⟩⟩⟩⟩⟩⟩ := h
  obtain rfl := k42_open s1
  obtain rfl := k42_open s2
  obtain rfl := k42_open s3
  obtain rfl := k42_open s4
  exact k47_mk w ⟨v0, v1, v2, v3, v4, v5, v6⟩ l6 g6
theorem opens47 : Opens Try.prog 47 k47 B47 := by
  refine opens_of_upto fun N => ?_
  induction N with
  | zero => exact opensN_zero (by kernel_rfl)
  | succ N ih =>
    exact opensN_struct (fun p => ⟨p.1, p.2.1, p.2.2.1, p.2.2.2.1, p.2.2.2.2.1, p.2.2.2.2.2.1, p.2.2.2.2.2.2⟩) Try.underlying47 (by kernel_rfl) (by kernel_rfl) (opensFN_cons ((opens_int Try.underlying3 (by kernel_rfl)).upto N) rfl (opensFN_cons (opens42.upto N) rfl (opensFN_cons (opens42.upto N) rfl (opensFN_cons (opens42.upto N) rfl (opensFN_cons (opens42.upto N) rfl (opensFN_cons ((opens_string Try.underlying9 (by kernel_rfl)).upto N) rfl (opensFN_one (opensN_slice Try.underlying45 (by kernel_rfl) ih) rfl))))))) fold47 (fun p h => B47.mk _ ⟨h.1, h.2.1, h.2.2.1, h.2.2.2.1, h.2.2.2.2.1, h.2.2.2.2.2.1⟩ (by have h1 := (h.2.2.2.2.2.2).1; rw [show Try.prog.bytesOf 47 = 144 by kernel_rfl] at h1; exact h1) (h.2.2.2.2.2.2).2)
def B64 (x : S64) : Prop := (x.f0.size ≤ 140737488351232) ∧ (B47 x.f1)
theorem opens64 : Opens Try.prog 64 k64 B64 :=
  (opens_struct (fun x : S64 => (x.f0, x.f1)) (fun p => ⟨p.1, p.2⟩) Try.underlying64 (by kernel_rfl) (opensF_cons (opens_string Try.underlying9 (by kernel_rfl)) rfl (opensF_one opens47 rfl)) (fun _ => rfl)).imp (fun x h => h)
def BL44 (l : List (S64)) : Prop := l.length * 160 ≤ 140737488351232 ∧ (∀ y ∈ l, B64 y)
theorem opens44 : Opens Try.prog 44 (Kd.slice 64 k64) BL44 :=
  (opens_slice Try.underlying44 (by kernel_rfl) opens64).imp (fun l h => ⟨by have h1 := h.1; rw [show Try.prog.bytesOf 64 = 160 by kernel_rfl] at h1; exact h1, h.2⟩)
def B49 (x : S49) : Prop := ((Lit.int .i64 x.f0).wf = true) ∧ (x.f1.size ≤ 140737488351232) ∧ (B42 x.f2) ∧ (B42 x.f3) ∧ (x.f4.size ≤ 140737488351232) ∧ BL43 x.f5 ∧ BL44 x.f6 ∧ (B47 x.f7) ∧ (B47 x.f8) ∧ (B47 x.f9)
theorem opens49 : Opens Try.prog 49 k49 B49 :=
  (opens_struct (fun x : S49 => (x.f0, x.f1, x.f2, x.f3, x.f4, x.f5, x.f6, x.f7, x.f8, x.f9)) (fun p => ⟨p.1, p.2.1, p.2.2.1, p.2.2.2.1, p.2.2.2.2.1, p.2.2.2.2.2.1, p.2.2.2.2.2.2.1, p.2.2.2.2.2.2.2.1, p.2.2.2.2.2.2.2.2.1, p.2.2.2.2.2.2.2.2.2⟩) Try.underlying49 (by kernel_rfl) (opensF_cons (opens_int Try.underlying3 (by kernel_rfl)) rfl (opensF_cons (opens_string Try.underlying9 (by kernel_rfl)) rfl (opensF_cons opens42 rfl (opensF_cons opens42 rfl (opensF_cons (opens_string Try.underlying9 (by kernel_rfl)) rfl (opensF_cons opens43 rfl (opensF_cons opens44 rfl (opensF_cons opens47 rfl (opensF_cons opens47 rfl (opensF_one opens47 rfl)))))))))) (fun _ => rfl)).imp (fun x h => h)
def BL32 (l : List (S49)) : Prop := l.length * 568 ≤ 140737488351232 ∧ (∀ y ∈ l, B49 y)
theorem opens32 : Opens Try.prog 32 (Kd.slice 49 k49) BL32 :=
  (opens_slice Try.underlying32 (by kernel_rfl) opens49).imp (fun l h => ⟨by have h1 := h.1; rw [show Try.prog.bytesOf 49 = 568 by kernel_rfl] at h1; exact h1, h.2⟩)
def B34 (x : S34) : Prop := (x.f0.size ≤ 140737488351232) ∧ BL30 x.f1 ∧ BL31 x.f2 ∧ BL32 x.f3
theorem opens34 : Opens Try.prog 34 k34 B34 :=
  (opens_struct (fun x : S34 => (x.f0, x.f1, x.f2, x.f3)) (fun p => ⟨p.1, p.2.1, p.2.2.1, p.2.2.2⟩) Try.underlying34 (by kernel_rfl) (opensF_cons (opens_string Try.underlying9 (by kernel_rfl)) rfl (opensF_cons opens30 rfl (opensF_cons opens31 rfl (opensF_one opens32 rfl)))) (fun _ => rfl)).imp (fun x h => h)
def BL22 (l : List (S34)) : Prop := l.length * 88 ≤ 140737488351232 ∧ (∀ y ∈ l, B34 y)
theorem opens22 : Opens Try.prog 22 (Kd.slice 34 k34) BL22 :=
  (opens_slice Try.underlying22 (by kernel_rfl) opens34).imp (fun l h => ⟨by have h1 := h.1; rw [show Try.prog.bytesOf 34 = 88 by kernel_rfl] at h1; exact h1, h.2⟩)
def B24 (x : S24) : Prop := BL22 x.f0
theorem opens24 : Opens Try.prog 24 k24 B24 :=
  (opens_struct (fun x : S24 => x.f0) (fun p => ⟨p⟩) Try.underlying24 (by kernel_rfl) (opensF_one opens22 rfl) (fun _ => rfl)).imp (fun x h => h)
def B57 (x : S57) : Prop := ((Lit.int .u8 x.f0).wf = true) ∧ ((Lit.int .u8 x.f1).wf = true)
theorem opens57 : Opens Try.prog 57 k57 B57 :=
  (opens_array (fun x : S57 => (x.f0, x.f1)) (fun p => ⟨p.1, p.2⟩) Try.underlying57 (by kernel_rfl) 1 (by kernel_rfl) (opensF_cons (opens_int Try.underlying5 (by kernel_rfl)) rfl (opensF_one (opens_int Try.underlying5 (by kernel_rfl)) rfl)) (fun _ => rfl)).imp (fun x h => h)
end Go.Proofs.Ytnfhlhjbmcofoaa.S
