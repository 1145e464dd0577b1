/- The one pure statement of the law DimsPlain: over lists and numbers alone. Written by lawrow.py, a program of this session. -/
import Derived.Test.YtomlnddhfigbjaaDoorQx6
import Derived.Test.YtomlnddhfigbjaaDoorQOpens
namespace Go.Proofs.YtomlnddhfigbjaaDoor.Q
open Go.RowKit Go.Proofs.YtomlnddhfigbjaaDoorW.PrintWords Go.Proofs.YtomlnddhfigbjaaDoorW.PrintLast
def DimsPlain.Pure : Prop := ∀ (x0 : Int) (x1 : List (S41)), (Lit.int .i64 x0).wf = true → BL25 x1 → ∃ k, proofmarklaw04_DimsPlain.f k x0 x1 = some true
end Go.Proofs.YtomlnddhfigbjaaDoor.Q
