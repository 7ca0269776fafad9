/- The pure statement that is left of the law NumSign, and how its arguments open. By wip/tools/rows.py. -/
import Derived.Test.YtefofaamhaiejaaDoorPx6
import Derived.Test.YtefofaamhaiejaaDoorOp
namespace Go.Proofs.YtefofaamhaiejaaDoor.Q
open Go.RowKit Go.Deep Go.ChangeShapes Go.WideShapes Go.Proofs.YtefofaamhaiejaaDoor.P Go.Proofs.YtefofaamhaiejaaDoor.Op Go.Proofs.YtefofaamhaiejaaDoorW.PrintWords Go.Proofs.YtefofaamhaiejaaDoorW.PrintLast Go.Proofs.YtefofaamhaiejaaDoorW.PrintMore
set_option linter.unusedVariables false
/-- THE PURE STATEMENT. -/
def cleatlaw10_NumSign.Pure : Prop := ∀ (a0 : Int) (a1 : Bool) (a2 : Int), (Lit.int .i64 a0).wf = true → (Lit.int .u64 a2).wf = true → ∃ k, cleatlaw10_NumSign.f k a0 a1 a2 = some true
end Go.Proofs.YtefofaamhaiejaaDoor.Q
