/- The one pure statement of the law DimsHangs: over lists and numbers alone. Written by lawrow.py, a program of this session. -/
import Derived.Test.YtomlnddhfigbjaaDoorQx6
import Derived.Test.YtomlnddhfigbjaaDoorQOpens
namespace Go.Proofs.YtomlnddhfigbjaaDoor.Q
open Go.RowKit Go.Proofs.YtomlnddhfigbjaaDoorW.PrintWords Go.Proofs.YtomlnddhfigbjaaDoorW.PrintLast
def DimsHangs.Pure : Prop := ∀ (x0 : S23) (x1 : List (S41)) (x2 : List (S41)), B23 x0 → BL25 x1 → BL25 x2 → ∃ k, proofmarklaw04_DimsHangs.f k x0.f0 x0.f1 x1 x2 = some true
end Go.Proofs.YtomlnddhfigbjaaDoor.Q
