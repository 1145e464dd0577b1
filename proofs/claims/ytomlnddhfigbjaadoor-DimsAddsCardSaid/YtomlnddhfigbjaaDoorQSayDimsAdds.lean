/- The one pure statement of the law DimsAdds: over lists and numbers alone. Written by lawrow.py, a program of this session. -/
import Derived.Test.YtomlnddhfigbjaaDoorQx7
import Derived.Test.YtomlnddhfigbjaaDoorQOpens
namespace Go.Proofs.YtomlnddhfigbjaaDoor.Q
open Go.RowKit Go.Proofs.YtomlnddhfigbjaaDoorW.PrintWords Go.Proofs.YtomlnddhfigbjaaDoorW.PrintLast
def DimsAdds.Pure : Prop := ∀ (x0 : ByteArray) (x1 : Int) (x2 : Int) (x3 : List (S41)), x0.size ≤ 140737488351232 → (Lit.int .u16 x1).wf = true → (Lit.int .u16 x2).wf = true → BL25 x3 → ∃ k, proofmarklaw04_DimsAdds.f k x0 x1 x2 x3 = some true
end Go.Proofs.YtomlnddhfigbjaaDoor.Q
