/- The pure statement that is left of the law NumBack, and how its arguments open. By wip/tools/rows.py. -/
import Derived.Test.YtefofaamhaiejaaDoorPx5
import Derived.Test.YtefofaamhaiejaaDoorOp
namespace Go.Proofs.YtefofaamhaiejaaDoor.Q
open Go.RowKit Go.Deep Go.ChangeShapes Go.WideShapes Go.Proofs.YtefofaamhaiejaaDoor.P Go.Proofs.YtefofaamhaiejaaDoor.Op Go.Proofs.YtefofaamhaiejaaDoorW.PrintWords Go.Proofs.YtefofaamhaiejaaDoorW.PrintLast Go.Proofs.YtefofaamhaiejaaDoorW.PrintMore
set_option linter.unusedVariables false
/-- THE PURE STATEMENT. -/
def cleatlaw10_NumBack.Pure : Prop := ∀ (a0 : Int), (Lit.int .u64 a0).wf = true → cleatlaw10_NumBack.f a0 = some true
end Go.Proofs.YtefofaamhaiejaaDoor.Q
