/- The pure statement that is left of the law LocalText, and how its arguments open. By wip/tools/rows.py. -/
import Derived.Test.YtmolcgkahhdkgaaDoorPx13
import Derived.Test.YtmolcgkahhdkgaaDoorOp
namespace Go.Proofs.YtmolcgkahhdkgaaDoor.Q
open Go.RowKit Go.Deep Go.ChangeShapes Go.WideShapes Go.Proofs.YtmolcgkahhdkgaaDoor.P Go.Proofs.YtmolcgkahhdkgaaDoor.Op Go.Proofs.YtmolcgkahhdkgaaDoorW.PrintWords Go.Proofs.YtmolcgkahhdkgaaDoorW.PrintLast Go.Proofs.YtmolcgkahhdkgaaDoorW.PrintMore
set_option linter.unusedVariables false
/-- THE PURE STATEMENT. -/
def cleatlaw14_LocalText.Pure : Prop := ∀ (a0 : Int) (a1 : Bool), (Lit.int .i64 a0).wf = true → ∃ k, cleatlaw14_LocalText.f k a0 a1 = some true
end Go.Proofs.YtmolcgkahhdkgaaDoor.Q
