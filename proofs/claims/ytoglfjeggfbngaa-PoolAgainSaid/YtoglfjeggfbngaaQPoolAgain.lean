/- The pure statement that is left of the law PoolAgain, and how its arguments open. By wip/tools/rows.py. -/
import Derived.Test.YtoglfjeggfbngaaPj
import Derived.Test.YtoglfjeggfbngaaOp
namespace Go.Proofs.Ytoglfjeggfbngaa.Q
open Go.RowKit Go.Deep Go.ChangeShapes Go.WideShapes Go.Proofs.Ytoglfjeggfbngaa.P Go.Proofs.Ytoglfjeggfbngaa.Op Go.Proofs.YtoglfjeggfbngaaW.PrintWords Go.Proofs.YtoglfjeggfbngaaW.PrintLast Go.Proofs.YtoglfjeggfbngaaW.PrintMore
set_option linter.unusedVariables false
theorem opens_PoolAgain_S30 : Opens Try.prog k30 30 (fun x : S30 => (Lit.int .i64 x.f0).wf = true ∧ x.f1.size ≤ 9223372036854775807 ∧ (Lit.int .i64 x.f2).wf = true ∧ (Lit.int .u64 x.f4).wf = true) :=
  opens_imp (opens_iso (fun x : S30 => (x.f0, x.f1, x.f2, x.f3, x.f4)) (fun y => ⟨y.1, y.2.1, y.2.2.1, y.2.2.2.1, y.2.2.2.2⟩) (fun _ => rfl) (opens_struct Try.underlying30 (opensF_cons (opens_int Try.underlying3) (opensF_cons (opens_string Try.underlying9) (opensF_cons (opens_int Try.underlying3) (opensF_cons (opens_bool Try.underlying4) (opensF_one (opens_int Try.underlying28) rfl (by kernel_rfl)) rfl (by kernel_rfl)) rfl (by kernel_rfl)) rfl (by kernel_rfl)) rfl (by kernel_rfl)) (by kernel_rfl))) (fun x h => by
    obtain ⟨h0, h1, h2, h3, h4⟩ := h
    exact ⟨h0, h1, h2, h4⟩)
end Go.Proofs.Ytoglfjeggfbngaa.Q
