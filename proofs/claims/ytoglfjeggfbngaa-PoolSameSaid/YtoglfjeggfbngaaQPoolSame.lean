/- The pure statement that is left of the law PoolSame, and how its arguments open. By wip/tools/rows.py. -/
import Derived.Test.YtoglfjeggfbngaaPh
import Derived.Test.YtoglfjeggfbngaaOp
namespace Go.Proofs.Ytoglfjeggfbngaa.Q
open Go.RowKit Go.Deep Go.ChangeShapes Go.WideShapes Go.Proofs.Ytoglfjeggfbngaa.P Go.Proofs.Ytoglfjeggfbngaa.Op Go.Proofs.YtoglfjeggfbngaaW.PrintWords Go.Proofs.YtoglfjeggfbngaaW.PrintLast Go.Proofs.YtoglfjeggfbngaaW.PrintMore
set_option linter.unusedVariables false
end Go.Proofs.Ytoglfjeggfbngaa.Q
