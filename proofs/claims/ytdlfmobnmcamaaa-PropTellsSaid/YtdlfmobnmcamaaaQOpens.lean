/- What comes in is of the print's kinds, type by type. Written by lawrow.py, a program of this session. -/
import Derived.Test.YtdlfmobnmcamaaaQx0
import Derived.Test.YtdlfmobnmcamaaaOpen
import Derived.KernelRfl
namespace Go.Proofs.Ytdlfmobnmcamaaa.Q
open Go.RowKit Go.Proofs.YtdlfmobnmcamaaaW.PrintWords Go.Proofs.YtdlfmobnmcamaaaW.PrintLast Go.Proofs.Ytdlfmobnmcamaaa.Open
set_option maxRecDepth 100000
def BL23 (l : List Int) : Prop := l.length * 8 ≤ 140737488351232 ∧ (∀ y ∈ l, (Lit.int .i64 y).wf = true)
theorem opens23 : Opens Try.prog 23 (Kd.slice 3 (Kd.int .i64)) BL23 :=
  (opens_slice Try.underlying23 (by kernel_rfl) (opens_int Try.underlying3 (by kernel_rfl))).imp (fun l h => ⟨by have h1 := h.1; rw [show Try.prog.bytesOf 3 = 8 by kernel_rfl] at h1; exact h1, h.2⟩)
def BL22 (l : List (List Int)) : Prop := l.length * 24 ≤ 140737488351232 ∧ (∀ y ∈ l, BL23 y)
theorem opens22 : Opens Try.prog 22 (Kd.slice 23 (Kd.slice 3 (Kd.int .i64))) BL22 :=
  (opens_slice Try.underlying22 (by kernel_rfl) opens23).imp (fun l h => ⟨by have h1 := h.1; rw [show Try.prog.bytesOf 23 = 24 by kernel_rfl] at h1; exact h1, h.2⟩)
def BL35 (l : List Bool) : Prop := l.length * 1 ≤ 140737488351232 ∧ (∀ y ∈ l, True)
theorem opens35 : Opens Try.prog 35 (Kd.slice 4 Kd.bool) BL35 :=
  (opens_slice Try.underlying35 (by kernel_rfl) (opens_bool Try.underlying4 (by kernel_rfl))).imp (fun l h => ⟨by have h1 := h.1; rw [show Try.prog.bytesOf 4 = 1 by kernel_rfl] at h1; exact h1, h.2⟩)
def B37 (x : S37) : Prop := BL22 x.f0 ∧ ((Lit.int .i64 x.f1).wf = true) ∧ BL23 x.f2 ∧ BL35 x.f3 ∧ ((Lit.int .i64 x.f4).wf = true)
theorem opens37 : Opens Try.prog 37 k37 B37 :=
  (opens_struct (fun x : S37 => (x.f0, x.f1, x.f2, x.f3, x.f4)) (fun p => ⟨p.1, p.2.1, p.2.2.1, p.2.2.2.1, p.2.2.2.2⟩) Try.underlying37 (by kernel_rfl) (opensF_cons opens22 rfl (opensF_cons (opens_int Try.underlying3 (by kernel_rfl)) rfl (opensF_cons opens23 rfl (opensF_cons opens35 rfl (opensF_one (opens_int Try.underlying3 (by kernel_rfl)) rfl))))) (fun _ => rfl)).imp (fun x h => h)
def B25 (x : S25) : Prop := BL22 x.f0 ∧ ((Lit.int .i64 x.f1).wf = true) ∧ BL22 x.f2 ∧ BL23 x.f3 ∧ BL23 x.f4
theorem opens25 : Opens Try.prog 25 k25 B25 :=
  (opens_struct (fun x : S25 => (x.f0, x.f1, x.f2, x.f3, x.f4)) (fun p => ⟨p.1, p.2.1, p.2.2.1, p.2.2.2.1, p.2.2.2.2⟩) Try.underlying25 (by kernel_rfl) (opensF_cons opens22 rfl (opensF_cons (opens_int Try.underlying3 (by kernel_rfl)) rfl (opensF_cons opens22 rfl (opensF_cons opens23 rfl (opensF_one opens23 rfl))))) (fun _ => rfl)).imp (fun x h => h)
end Go.Proofs.Ytdlfmobnmcamaaa.Q
