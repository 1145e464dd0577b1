/- The one pure statement of the law DimsWidth: over lists and numbers alone. Written by lawrow.py, a program of this session. -/
import Derived.Test.YtomlnddhfigbjaaDoorQx8
import Derived.Test.YtomlnddhfigbjaaDoorQOpens
namespace Go.Proofs.YtomlnddhfigbjaaDoor.Q
open Go.RowKit Go.Proofs.YtomlnddhfigbjaaDoorW.PrintWords Go.Proofs.YtomlnddhfigbjaaDoorW.PrintLast
def DimsWidth.Pure : Prop := ∀ (x0 : S23) (x1 : List (S41)), B23 x0 → BL25 x1 → ∃ k, proofmarklaw04_DimsWidth.f k x0.f0 x0.f1 x1 = some true
end Go.Proofs.YtomlnddhfigbjaaDoor.Q
