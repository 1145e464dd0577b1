/- The one pure statement of the law DimsMany: over lists and numbers alone. Written by lawrow.py, a program of this session. -/
import Derived.Test.YtomlnddhfigbjaaDoorQx7
import Derived.Test.YtomlnddhfigbjaaDoorQOpens
namespace Go.Proofs.YtomlnddhfigbjaaDoor.Q
open Go.RowKit Go.Proofs.YtomlnddhfigbjaaDoorW.PrintWords Go.Proofs.YtomlnddhfigbjaaDoorW.PrintLast
def DimsMany.Pure : Prop := ∀ (x0 : List (S23)) (x1 : List (S41)), BL24 x0 → BL25 x1 → ∃ k, proofmarklaw04_DimsMany.f k x0 x1 = some true
end Go.Proofs.YtomlnddhfigbjaaDoor.Q
