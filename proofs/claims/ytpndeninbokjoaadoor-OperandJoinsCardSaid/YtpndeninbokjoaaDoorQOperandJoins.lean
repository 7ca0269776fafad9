/- The pure statement that is left of the law OperandJoins, and how its arguments open. By wip/tools/rows.py. -/
import Derived.Test.YtpndeninbokjoaaDoorPx14
import Derived.Test.YtpndeninbokjoaaDoorOp
namespace Go.Proofs.YtpndeninbokjoaaDoor.Q
open Go.RowKit Go.Deep Go.ChangeShapes Go.WideShapes Go.Proofs.YtpndeninbokjoaaDoor.P Go.Proofs.YtpndeninbokjoaaDoor.Op Go.Proofs.YtpndeninbokjoaaDoorW.PrintWords Go.Proofs.YtpndeninbokjoaaDoorW.PrintLast Go.Proofs.YtpndeninbokjoaaDoorW.PrintMore
set_option linter.unusedVariables false
theorem opens_OperandJoins_S29 : Opens Tryd.prog k29 29 (fun x : S29 => (Lit.int .i64 x.f0).wf = true ∧ x.f1.size ≤ 9223372036854775807 ∧ (Lit.int .u64 x.f2).wf = true) :=
  opens_imp (opens_iso (fun x : S29 => (x.f0, x.f1, x.f2)) (fun y => ⟨y.1, y.2.1, y.2.2⟩) (fun _ => rfl) (opens_struct Tryd.underlying29 (opensF_cons (opens_int Tryd.underlying3) (opensF_cons (opens_string Tryd.underlying9) (opensF_one (opens_int Tryd.underlying27) rfl (by kernel_rfl)) rfl (by kernel_rfl)) rfl (by kernel_rfl)) (by kernel_rfl))) (fun x h => by
    obtain ⟨h0, h1, h2⟩ := h
    exact ⟨h0, h1, h2⟩)
/-- THE PURE STATEMENT. -/
def cleatlaw11_OperandJoins.Pure : Prop := ∀ (l0 : List S29) (l1 : List S29), l0.length * 32 ≤ 140737488351232 → (∀ x ∈ l0, (Lit.int .i64 x.f0).wf = true ∧ x.f1.size ≤ 9223372036854775807 ∧ (Lit.int .u64 x.f2).wf = true) → l1.length * 32 ≤ 140737488351232 → (∀ x ∈ l1, (Lit.int .i64 x.f0).wf = true ∧ x.f1.size ≤ 9223372036854775807 ∧ (Lit.int .u64 x.f2).wf = true) → ∃ k, cleatlaw11_OperandJoins.f k l0 l1 = some true
end Go.Proofs.YtpndeninbokjoaaDoor.Q
