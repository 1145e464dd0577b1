/- What comes in is of the print's kinds, type by type. Written by lawrow.py, a program of this session. -/
import Derived.Test.YtomlnddhfigbjaaDoorQx0
import Derived.Test.YtomlnddhfigbjaaDoorOpen
import Derived.KernelRfl
namespace Go.Proofs.YtomlnddhfigbjaaDoor.Q
open Go.RowKit Go.Proofs.YtomlnddhfigbjaaDoorW.PrintWords Go.Proofs.YtomlnddhfigbjaaDoorW.PrintLast Go.Proofs.YtomlnddhfigbjaaDoor.Open
set_option maxRecDepth 100000
def B23 (x : S23) : Prop := (x.f0.size ≤ 140737488351232) ∧ ((Lit.int .i64 x.f1).wf = true)
theorem opens23 : Opens Tryd.prog 23 k23 B23 :=
  (opens_struct (fun x : S23 => (x.f0, x.f1)) (fun p => ⟨p.1, p.2⟩) Tryd.underlying23 (by kernel_rfl) (opensF_cons (opens_string Tryd.underlying9 (by kernel_rfl)) rfl (opensF_one (opens_int Tryd.underlying3 (by kernel_rfl)) rfl)) (fun _ => rfl)).imp (fun x h => h)
def BL24 (l : List (S23)) : Prop := l.length * 24 ≤ 140737488351232 ∧ (∀ y ∈ l, B23 y)
theorem opens24 : Opens Tryd.prog 24 (Kd.slice 23 k23) BL24 :=
  (opens_slice Tryd.underlying24 (by kernel_rfl) opens23).imp (fun l h => ⟨by have h1 := h.1; rw [show Tryd.prog.bytesOf 23 = 24 by kernel_rfl] at h1; exact h1, h.2⟩)
def B41 (x : S41) : Prop := (x.f0.size ≤ 140737488351232) ∧ ((Lit.int .u16 x.f1).wf = true)
theorem opens41 : Opens Tryd.prog 41 k41 B41 :=
  (opens_struct (fun x : S41 => (x.f0, x.f1)) (fun p => ⟨p.1, p.2⟩) Tryd.underlying41 (by kernel_rfl) (opensF_cons (opens_string Tryd.underlying9 (by kernel_rfl)) rfl (opensF_one (opens_int Tryd.underlying39 (by kernel_rfl)) rfl)) (fun _ => rfl)).imp (fun x h => h)
def BL25 (l : List (S41)) : Prop := l.length * 24 ≤ 140737488351232 ∧ (∀ y ∈ l, B41 y)
theorem opens25 : Opens Tryd.prog 25 (Kd.slice 41 k41) BL25 :=
  (opens_slice Tryd.underlying25 (by kernel_rfl) opens41).imp (fun l h => ⟨by have h1 := h.1; rw [show Tryd.prog.bytesOf 41 = 24 by kernel_rfl] at h1; exact h1, h.2⟩)
end Go.Proofs.YtomlnddhfigbjaaDoor.Q
