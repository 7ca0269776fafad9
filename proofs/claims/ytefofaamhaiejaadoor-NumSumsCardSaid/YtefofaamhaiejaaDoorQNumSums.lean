/- The pure statement that is left of the law NumSums, and how its arguments open. By wip/tools/rows.py. -/
import Derived.Test.YtefofaamhaiejaaDoorPx7
import Derived.Test.YtefofaamhaiejaaDoorOp
namespace Go.Proofs.YtefofaamhaiejaaDoor.Q
open Go.RowKit Go.Deep Go.ChangeShapes Go.WideShapes Go.Proofs.YtefofaamhaiejaaDoor.P Go.Proofs.YtefofaamhaiejaaDoor.Op Go.Proofs.YtefofaamhaiejaaDoorW.PrintWords Go.Proofs.YtefofaamhaiejaaDoorW.PrintLast Go.Proofs.YtefofaamhaiejaaDoorW.PrintMore
set_option linter.unusedVariables false
/-- THE PURE STATEMENT. -/
def cleatlaw10_NumSums.Pure : Prop := ∀ (a0 : Int) (a1 : Int) (a2 : Int), (Lit.int .u64 a0).wf = true → (Lit.int .i64 a1).wf = true → (Lit.int .i64 a2).wf = true → cleatlaw10_NumSums.f a0 a1 a2 = some true
end Go.Proofs.YtefofaamhaiejaaDoor.Q
