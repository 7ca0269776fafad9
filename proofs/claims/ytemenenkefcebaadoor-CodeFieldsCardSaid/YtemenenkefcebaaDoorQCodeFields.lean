/- The pure statement that is left of the law CodeFields, and how its arguments open. By wip/tools/rows.py. -/
import Derived.Test.YtemenenkefcebaaDoorWcf
import Derived.Test.YtemenenkefcebaaDoorOp
namespace Go.Proofs.YtemenenkefcebaaDoor.Q
open Go.RowKit Go.Deep Go.ChangeShapes Go.WideShapes Go.Proofs.YtemenenkefcebaaDoor.P Go.Proofs.YtemenenkefcebaaDoor.Op Go.Proofs.YtemenenkefcebaaDoorW.PrintWords Go.Proofs.YtemenenkefcebaaDoorW.PrintLast Go.Proofs.YtemenenkefcebaaDoorW.PrintMore
set_option linter.unusedVariables false
end Go.Proofs.YtemenenkefcebaaDoor.Q
