/- The pure statement that is left of the law LexComment, and how its arguments open. By wip/tools/rows.py. -/
import Derived.Test.YtghpbbdmljobjaaDoorPx5
import Derived.Test.YtghpbbdmljobjaaDoorOp
namespace Go.Proofs.YtghpbbdmljobjaaDoor.Q
open Go.RowKit Go.Deep Go.ChangeShapes Go.WideShapes Go.Proofs.YtghpbbdmljobjaaDoor.P Go.Proofs.YtghpbbdmljobjaaDoor.Op Go.Proofs.YtghpbbdmljobjaaDoorW.PrintWords Go.Proofs.YtghpbbdmljobjaaDoorW.PrintLast Go.Proofs.YtghpbbdmljobjaaDoorW.PrintMore
set_option linter.unusedVariables false
/-- THE PURE STATEMENT. -/
def cleatlaw09_LexComment.Pure : Prop := ∀ (a0 : ByteArray) (a1 : ByteArray), a0.size ≤ 140737488351232 → a1.size ≤ 140737488351232 → ∃ k, cleatlaw09_LexComment.f k a0 a1 = some true
end Go.Proofs.YtghpbbdmljobjaaDoor.Q
