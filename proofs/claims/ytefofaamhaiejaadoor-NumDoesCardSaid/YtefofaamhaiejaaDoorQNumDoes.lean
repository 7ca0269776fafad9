/- The pure statement that is left of the law NumDoes, and how its arguments open. By wip/tools/rows.py. -/
import Derived.Test.YtefofaamhaiejaaDoorPx5
import Derived.Test.YtefofaamhaiejaaDoorOp
namespace Go.Proofs.YtefofaamhaiejaaDoor.Q
open Go.RowKit Go.Deep Go.ChangeShapes Go.WideShapes Go.Proofs.YtefofaamhaiejaaDoor.P Go.Proofs.YtefofaamhaiejaaDoor.Op Go.Proofs.YtefofaamhaiejaaDoorW.PrintWords Go.Proofs.YtefofaamhaiejaaDoorW.PrintLast Go.Proofs.YtefofaamhaiejaaDoorW.PrintMore
set_option linter.unusedVariables false
/-- THE PURE STATEMENT. -/
def cleatlaw10_NumDoes.Pure : Prop := ∀ (a0 : ByteArray) (a1 : Int) (a2 : Bool) (a3 : Int), a0.size ≤ 140737488351232 → (Lit.int .u64 a1).wf = true → (Lit.int .i64 a3).wf = true → ∃ k, cleatlaw10_NumDoes.f k a0 a1 a2 a3 = some true
end Go.Proofs.YtefofaamhaiejaaDoor.Q
