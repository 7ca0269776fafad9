/- The pure statement that is left of the law InstRenamed, and how its arguments open. By wip/tools/rows.py. -/
import Derived.Test.YtgonbeifaioheaaDoorWn
import Derived.Test.YtgonbeifaioheaaDoorOp
namespace Go.Proofs.YtgonbeifaioheaaDoor.Q
open Go.RowKit Go.Deep Go.ChangeShapes Go.WideShapes Go.Proofs.YtgonbeifaioheaaDoor.P Go.Proofs.YtgonbeifaioheaaDoor.Op Go.Proofs.YtgonbeifaioheaaDoorW.PrintWords Go.Proofs.YtgonbeifaioheaaDoorW.PrintLast Go.Proofs.YtgonbeifaioheaaDoorW.PrintMore
set_option linter.unusedVariables false
end Go.Proofs.YtgonbeifaioheaaDoor.Q
