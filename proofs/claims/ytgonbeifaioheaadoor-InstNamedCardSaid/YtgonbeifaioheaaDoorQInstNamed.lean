/- The pure statement that is left of the law InstNamed, and how its arguments open. By wip/tools/rows.py. -/
import Derived.Test.YtgonbeifaioheaaDoorPx16
import Derived.Test.YtgonbeifaioheaaDoorOp
namespace Go.Proofs.YtgonbeifaioheaaDoor.Q
open Go.RowKit Go.Deep Go.ChangeShapes Go.WideShapes Go.Proofs.YtgonbeifaioheaaDoor.P Go.Proofs.YtgonbeifaioheaaDoor.Op Go.Proofs.YtgonbeifaioheaaDoorW.PrintWords Go.Proofs.YtgonbeifaioheaaDoorW.PrintLast Go.Proofs.YtgonbeifaioheaaDoorW.PrintMore
set_option linter.unusedVariables false
/-- THE PURE STATEMENT. -/
def cleatlaw04_InstNamed.Pure : Prop := ∀ (a0 : Int) (a1 : ByteArray), (Lit.int .i64 a0).wf = true → a1.size ≤ 140737488351232 → ∃ k, cleatlaw04_InstNamed.f k a0 a1 = some true
end Go.Proofs.YtgonbeifaioheaaDoor.Q
