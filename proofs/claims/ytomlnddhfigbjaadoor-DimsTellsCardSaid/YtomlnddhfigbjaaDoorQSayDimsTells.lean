/- The one pure statement of the law DimsTells: over lists and numbers alone. Written by lawrow.py, a program of this session. -/
import Derived.Test.YtomlnddhfigbjaaDoorQx5
import Derived.Test.YtomlnddhfigbjaaDoorQOpens
namespace Go.Proofs.YtomlnddhfigbjaaDoor.Q
open Go.RowKit Go.Proofs.YtomlnddhfigbjaaDoorW.PrintWords Go.Proofs.YtomlnddhfigbjaaDoorW.PrintLast
def DimsTells.Pure : Prop := ∀ (x0 : S23) (x1 : List (S23)) (x2 : List (S41)), B23 x0 → BL24 x1 → BL25 x2 → ∃ k, proofmarklaw04_DimsTells.f k x0.f0 x0.f1 x1 x2 = some true
end Go.Proofs.YtomlnddhfigbjaaDoor.Q
