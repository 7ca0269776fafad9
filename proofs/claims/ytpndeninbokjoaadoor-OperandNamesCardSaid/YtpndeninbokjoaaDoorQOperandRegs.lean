/- The pure statement that is left of the law OperandRegs, and how its arguments open. By wip/tools/rows.py. -/
import Derived.Test.YtpndeninbokjoaaDoorPx12
import Derived.Test.YtpndeninbokjoaaDoorOp
namespace Go.Proofs.YtpndeninbokjoaaDoor.Q
open Go.RowKit Go.Deep Go.ChangeShapes Go.WideShapes Go.Proofs.YtpndeninbokjoaaDoor.P Go.Proofs.YtpndeninbokjoaaDoor.Op Go.Proofs.YtpndeninbokjoaaDoorW.PrintWords Go.Proofs.YtpndeninbokjoaaDoorW.PrintLast Go.Proofs.YtpndeninbokjoaaDoorW.PrintMore
set_option linter.unusedVariables false
/-- THE PURE STATEMENT. -/
def cleatlaw11_OperandRegs.Pure : Prop := ∀ (a0 : ByteArray) (a1 : Int) (a2 : Bool), a0.size ≤ 140737488351232 → (Lit.int .i64 a1).wf = true → ∃ k, cleatlaw11_OperandRegs.f k a0 a1 a2 = some true
end Go.Proofs.YtpndeninbokjoaaDoor.Q
