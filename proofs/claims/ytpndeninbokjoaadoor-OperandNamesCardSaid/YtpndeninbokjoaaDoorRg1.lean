/- Registers as texts: the table by evaluation. -/
import Derived.Test.YtpndeninbokjoaaDoorPx12
import Derived.Test.YtpndeninbokjoaaDoorQOperandRegs
namespace Go.Proofs.YtpndeninbokjoaaDoor.Rg
open Go.RowKit Go.Proofs.YtpndeninbokjoaaDoor.P Go.Proofs.YtpndeninbokjoaaDoorW.PrintWords Go.Proofs.YtpndeninbokjoaaDoorW.PrintLast Go.Proofs.YtpndeninbokjoaaDoorW.PrintMore
theorem given_at : cleatlaw11_given.f 10 = some true := by kernel_rfl
theorem given_up (k : Nat) : cleatlaw11_given.f (10 + k) = some true := by
 induction k with
 | zero => exact given_at
 | succ n ih => exact cleatlaw11_given.mono (10 + n) _ ih
set_option maxRecDepth 100000 in
theorem regs_tab : ∀ n : Nat, n < 32 → ∀ x2 : Bool, cleatlaw11_OperandRegs.j0 13 (n : Int) x2 = some true := by decide +kernel
theorem regs_j0 (n : Int) (x2 : Bool) : cleatlaw11_OperandRegs.j0 13 n x2 = some true := by
 by_cases h0 : n < 0
 ·have hg := given_up 2
  simp [cleatlaw11_OperandRegs.j0, operand_RegText.f, operand_RegText.j0, h0, hg]
 ·by_cases h1 : n > 31
  ·have hg := given_up 2
   simp [cleatlaw11_OperandRegs.j0, operand_RegText.f, operand_RegText.j0, h0, h1, hg]
  ·have := regs_tab n.toNat (by omega) x2
   rwa [Int.toNat_of_nonneg (by omega)] at this
end Go.Proofs.YtpndeninbokjoaaDoor.Rg
