/- What comes in is of the print's kinds, type by type. Written by lawrow.py, a program of this session. -/
import Derived.Test.YteilkojmefipcaaBase
import Derived.Test.YteilkojmefipcaaOpenRec
import Derived.KernelRfl
namespace Go.Proofs.Yteilkojmefipcaa.U
open Go.RowKit Go.Proofs.YteilkojmefipcaaW.PrintWords Go.Proofs.YteilkojmefipcaaW.PrintLast Go.Proofs.Yteilkojmefipcaa.Open
set_option maxRecDepth 100000
def B77 (x : S77) : Prop := ((Lit.int .i64 x.f0).wf = true) ∧ ((Lit.int .i64 x.f1).wf = true) ∧ ((Lit.int .i64 x.f2).wf = true) ∧ ((Lit.int .i64 x.f3).wf = true) ∧ ((Lit.int .i64 x.f4).wf = true) ∧ ((Lit.int .i64 x.f5).wf = true) ∧ ((Lit.int .i64 x.f6).wf = true)
theorem opens77 : Opens Try.prog 77 k77 B77 :=
  (opens_struct (fun x : S77 => (x.f0, x.f1, x.f2, x.f3, x.f4, x.f5, x.f6)) (fun p => ⟨p.1, p.2.1, p.2.2.1, p.2.2.2.1, p.2.2.2.2.1, p.2.2.2.2.2.1, p.2.2.2.2.2.2⟩) Try.underlying77 (by kernel_rfl) (opensF_cons (opens_int Try.underlying3 (by kernel_rfl)) rfl (opensF_cons (opens_int Try.underlying3 (by kernel_rfl)) rfl (opensF_cons (opens_int Try.underlying3 (by kernel_rfl)) rfl (opensF_cons (opens_int Try.underlying3 (by kernel_rfl)) rfl (opensF_cons (opens_int Try.underlying3 (by kernel_rfl)) rfl (opensF_cons (opens_int Try.underlying3 (by kernel_rfl)) rfl (opensF_one (opens_int Try.underlying3 (by kernel_rfl)) rfl))))))) (fun _ => rfl)).imp (fun x h => h)
def BL22 (l : List (S77)) : Prop := l.length * 56 ≤ 140737488351232 ∧ (∀ y ∈ l, B77 y)
theorem opens22 : Opens Try.prog 22 (Kd.slice 77 k77) BL22 :=
  (opens_slice Try.underlying22 (by kernel_rfl) opens77).imp (fun l h => ⟨by have h1 := h.1; rw [show Try.prog.bytesOf 77 = 56 by kernel_rfl] at h1; exact h1, h.2⟩)
def B79 (x : S79) : Prop := (x.f0.size ≤ 140737488351232) ∧ ((Lit.int .i64 x.f1).wf = true)
theorem opens79 : Opens Try.prog 79 k79 B79 :=
  (opens_struct (fun x : S79 => (x.f0, x.f1)) (fun p => ⟨p.1, p.2⟩) Try.underlying79 (by kernel_rfl) (opensF_cons (opens_string Try.underlying9 (by kernel_rfl)) rfl (opensF_one (opens_int Try.underlying3 (by kernel_rfl)) rfl)) (fun _ => rfl)).imp (fun x h => h)
def BL23 (l : List (S79)) : Prop := l.length * 24 ≤ 140737488351232 ∧ (∀ y ∈ l, B79 y)
theorem opens23 : Opens Try.prog 23 (Kd.slice 79 k79) BL23 :=
  (opens_slice Try.underlying23 (by kernel_rfl) opens79).imp (fun l h => ⟨by have h1 := h.1; rw [show Try.prog.bytesOf 79 = 24 by kernel_rfl] at h1; exact h1, h.2⟩)
def B82 (x : S82) : Prop := (x.f0.size ≤ 140737488351232) ∧ ((Lit.int .i64 x.f1).wf = true) ∧ ((Lit.int .i64 x.f2).wf = true) ∧ ((Lit.int .i64 x.f3).wf = true)
theorem opens82 : Opens Try.prog 82 k82 B82 :=
  (opens_struct (fun x : S82 => (x.f0, x.f1, x.f2, x.f3)) (fun p => ⟨p.1, p.2.1, p.2.2.1, p.2.2.2⟩) Try.underlying82 (by kernel_rfl) (opensF_cons (opens_string Try.underlying9 (by kernel_rfl)) rfl (opensF_cons (opens_int Try.underlying3 (by kernel_rfl)) rfl (opensF_cons (opens_int Try.underlying3 (by kernel_rfl)) rfl (opensF_one (opens_int Try.underlying3 (by kernel_rfl)) rfl)))) (fun _ => rfl)).imp (fun x h => h)
def BL24 (l : List (S82)) : Prop := l.length * 40 ≤ 140737488351232 ∧ (∀ y ∈ l, B82 y)
theorem opens24 : Opens Try.prog 24 (Kd.slice 82 k82) BL24 :=
  (opens_slice Try.underlying24 (by kernel_rfl) opens82).imp (fun l h => ⟨by have h1 := h.1; rw [show Try.prog.bytesOf 82 = 40 by kernel_rfl] at h1; exact h1, h.2⟩)
def B86 (x : S86) : Prop := ((Lit.int .i64 x.f0).wf = true) ∧ (x.f1.size ≤ 140737488351232) ∧ ((Lit.int .i64 x.f2).wf = true)
theorem opens86 : Opens Try.prog 86 k86 B86 :=
  (opens_struct (fun x : S86 => (x.f0, x.f1, x.f2)) (fun p => ⟨p.1, p.2.1, p.2.2⟩) Try.underlying86 (by kernel_rfl) (opensF_cons (opens_int Try.underlying3 (by kernel_rfl)) rfl (opensF_cons (opens_string Try.underlying9 (by kernel_rfl)) rfl (opensF_one (opens_int Try.underlying3 (by kernel_rfl)) rfl))) (fun _ => rfl)).imp (fun x h => h)
def BL25 (l : List (S86)) : Prop := l.length * 32 ≤ 140737488351232 ∧ (∀ y ∈ l, B86 y)
theorem opens25 : Opens Try.prog 25 (Kd.slice 86 k86) BL25 :=
  (opens_slice Try.underlying25 (by kernel_rfl) opens86).imp (fun l h => ⟨by have h1 := h.1; rw [show Try.prog.bytesOf 86 = 32 by kernel_rfl] at h1; exact h1, h.2⟩)
def B27 (x : S27) : Prop := BL22 x.f0 ∧ BL23 x.f1 ∧ BL24 x.f2 ∧ BL25 x.f3 ∧ BL23 x.f4
theorem opens27 : Opens Try.prog 27 k27 B27 :=
  (opens_struct (fun x : S27 => (x.f0, x.f1, x.f2, x.f3, x.f4)) (fun p => ⟨p.1, p.2.1, p.2.2.1, p.2.2.2.1, p.2.2.2.2⟩) Try.underlying27 (by kernel_rfl) (opensF_cons opens22 rfl (opensF_cons opens23 rfl (opensF_cons opens24 rfl (opensF_cons opens25 rfl (opensF_one opens23 rfl))))) (fun _ => rfl)).imp (fun x h => h)
def B117 (x : S117) : Prop := ((Lit.int .i64 x.f0).wf = true) ∧ ((Lit.int .i64 x.f1).wf = true)
theorem opens117 : Opens Try.prog 117 k117 B117 :=
  (opens_array (fun x : S117 => (x.f0, x.f1)) (fun p => ⟨p.1, p.2⟩) Try.underlying117 (by kernel_rfl) 1 (by kernel_rfl) (opensF_cons (opens_int Try.underlying3 (by kernel_rfl)) rfl (opensF_one (opens_int Try.underlying3 (by kernel_rfl)) rfl)) (fun _ => rfl)).imp (fun x h => h)
def BL28 (l : List (S117)) : Prop := l.length * 16 ≤ 140737488351232 ∧ (∀ y ∈ l, B117 y)
theorem opens28 : Opens Try.prog 28 (Kd.slice 117 k117) BL28 :=
  (opens_slice Try.underlying28 (by kernel_rfl) opens117).imp (fun l h => ⟨by have h1 := h.1; rw [show Try.prog.bytesOf 117 = 16 by kernel_rfl] at h1; exact h1, h.2⟩)
def B30 (x : S30) : Prop := ((Lit.int .i64 x.f0).wf = true) ∧ BL28 x.f1
theorem opens30 : Opens Try.prog 30 k30 B30 :=
  (opens_struct (fun x : S30 => (x.f0, x.f1)) (fun p => ⟨p.1, p.2⟩) Try.underlying30 (by kernel_rfl) (opensF_cons (opens_int Try.underlying3 (by kernel_rfl)) rfl (opensF_one opens28 rfl)) (fun _ => rfl)).imp (fun x h => h)
def B80 (x : S80) : Prop := ((Lit.int .i64 x.f0).wf = true) ∧ ((Lit.int .i64 x.f1).wf = true) ∧ ((Lit.int .i64 x.f2).wf = true)
theorem opens80 : Opens Try.prog 80 k80 B80 :=
  (opens_array (fun x : S80 => (x.f0, x.f1, x.f2)) (fun p => ⟨p.1, p.2.1, p.2.2⟩) Try.underlying80 (by kernel_rfl) 1 (by kernel_rfl) (opensF_cons (opens_int Try.underlying3 (by kernel_rfl)) rfl (opensF_cons (opens_int Try.underlying3 (by kernel_rfl)) rfl (opensF_one (opens_int Try.underlying3 (by kernel_rfl)) rfl))) (fun _ => rfl)).imp (fun x h => h)
def BL31 (l : List (S80)) : Prop := l.length * 24 ≤ 140737488351232 ∧ (∀ y ∈ l, B80 y)
theorem opens31 : Opens Try.prog 31 (Kd.slice 80 k80) BL31 :=
  (opens_slice Try.underlying31 (by kernel_rfl) opens80).imp (fun l h => ⟨by have h1 := h.1; rw [show Try.prog.bytesOf 80 = 24 by kernel_rfl] at h1; exact h1, h.2⟩)
def B84 (x : S84) : Prop := ((Lit.int .i64 x.f0).wf = true) ∧ ((Lit.int .i64 x.f1).wf = true) ∧ (True) ∧ ((Lit.int .i64 x.f3).wf = true) ∧ ((Lit.int .i64 x.f4).wf = true)
theorem opens84 : Opens Try.prog 84 k84 B84 :=
  (opens_struct (fun x : S84 => (x.f0, x.f1, x.f2, x.f3, x.f4)) (fun p => ⟨p.1, p.2.1, p.2.2.1, p.2.2.2.1, p.2.2.2.2⟩) Try.underlying84 (by kernel_rfl) (opensF_cons (opens_int Try.underlying3 (by kernel_rfl)) rfl (opensF_cons (opens_int Try.underlying3 (by kernel_rfl)) rfl (opensF_cons (opens_bool Try.underlying4 (by kernel_rfl)) rfl (opensF_cons (opens_int Try.underlying3 (by kernel_rfl)) rfl (opensF_one (opens_int Try.underlying3 (by kernel_rfl)) rfl))))) (fun _ => rfl)).imp (fun x h => h)
def BL32 (l : List (S84)) : Prop := l.length * 40 ≤ 140737488351232 ∧ (∀ y ∈ l, B84 y)
theorem opens32 : Opens Try.prog 32 (Kd.slice 84 k84) BL32 :=
  (opens_slice Try.underlying32 (by kernel_rfl) opens84).imp (fun l h => ⟨by have h1 := h.1; rw [show Try.prog.bytesOf 84 = 40 by kernel_rfl] at h1; exact h1, h.2⟩)
def B88 (x : S88) : Prop := ((Lit.int .i64 x.f0).wf = true) ∧ ((Lit.int .i64 x.f1).wf = true) ∧ ((Lit.int .i64 x.f2).wf = true)
theorem opens88 : Opens Try.prog 88 k88 B88 :=
  (opens_struct (fun x : S88 => (x.f0, x.f1, x.f2)) (fun p => ⟨p.1, p.2.1, p.2.2⟩) Try.underlying88 (by kernel_rfl) (opensF_cons (opens_int Try.underlying3 (by kernel_rfl)) rfl (opensF_cons (opens_int Try.underlying3 (by kernel_rfl)) rfl (opensF_one (opens_int Try.underlying3 (by kernel_rfl)) rfl))) (fun _ => rfl)).imp (fun x h => h)
def BL33 (l : List (S88)) : Prop := l.length * 24 ≤ 140737488351232 ∧ (∀ y ∈ l, B88 y)
theorem opens33 : Opens Try.prog 33 (Kd.slice 88 k88) BL33 :=
  (opens_slice Try.underlying33 (by kernel_rfl) opens88).imp (fun l h => ⟨by have h1 := h.1; rw [show Try.prog.bytesOf 88 = 24 by kernel_rfl] at h1; exact h1, h.2⟩)
def B35 (x : S35) : Prop := (B30 x.f0) ∧ BL31 x.f1 ∧ BL32 x.f2 ∧ BL33 x.f3
theorem opens35 : Opens Try.prog 35 k35 B35 :=
  (opens_struct (fun x : S35 => (x.f0, x.f1, x.f2, x.f3)) (fun p => ⟨p.1, p.2.1, p.2.2.1, p.2.2.2⟩) Try.underlying35 (by kernel_rfl) (opensF_cons opens30 rfl (opensF_cons opens31 rfl (opensF_cons opens32 rfl (opensF_one opens33 rfl)))) (fun _ => rfl)).imp (fun x h => h)
def BL36 (l : List Bool) : Prop := l.length * 1 ≤ 140737488351232 ∧ (∀ y ∈ l, True)
theorem opens36 : Opens Try.prog 36 (Kd.slice 4 Kd.bool) BL36 :=
  (opens_slice Try.underlying36 (by kernel_rfl) (opens_bool Try.underlying4 (by kernel_rfl))).imp (fun l h => ⟨by have h1 := h.1; rw [show Try.prog.bytesOf 4 = 1 by kernel_rfl] at h1; exact h1, h.2⟩)
def BL52 (l : List (List Bool)) : Prop := l.length * 24 ≤ 140737488351232 ∧ (∀ y ∈ l, BL36 y)
theorem opens52 : Opens Try.prog 52 (Kd.slice 36 (Kd.slice 4 Kd.bool)) BL52 :=
  (opens_slice Try.underlying52 (by kernel_rfl) opens36).imp (fun l h => ⟨by have h1 := h.1; rw [show Try.prog.bytesOf 36 = 24 by kernel_rfl] at h1; exact h1, h.2⟩)
end Go.Proofs.Yteilkojmefipcaa.U
