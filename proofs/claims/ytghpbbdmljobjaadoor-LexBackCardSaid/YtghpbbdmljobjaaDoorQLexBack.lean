/- The pure statement that is left of the law LexBack, and how its arguments open. By wip/tools/rows.py. -/
import Derived.Test.YtghpbbdmljobjaaDoorWlb
import Derived.Test.YtghpbbdmljobjaaDoorOp
namespace Go.Proofs.YtghpbbdmljobjaaDoor.Q
open Go.RowKit Go.Deep Go.ChangeShapes Go.WideShapes Go.Proofs.YtghpbbdmljobjaaDoor.P Go.Proofs.YtghpbbdmljobjaaDoor.Op Go.Proofs.YtghpbbdmljobjaaDoorW.PrintWords Go.Proofs.YtghpbbdmljobjaaDoorW.PrintLast Go.Proofs.YtghpbbdmljobjaaDoorW.PrintMore
set_option linter.unusedVariables false
end Go.Proofs.YtghpbbdmljobjaaDoor.Q
