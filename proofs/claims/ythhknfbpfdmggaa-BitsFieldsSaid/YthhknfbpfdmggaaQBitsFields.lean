/- The pure statement that is left of the law BitsFields, and how its arguments open. By wip/tools/rows.py. -/
import Derived.Test.YthhknfbpfdmggaaPx7
import Derived.Test.YthhknfbpfdmggaaOp
namespace Go.Proofs.Ythhknfbpfdmggaa.Q
open Go.RowKit Go.Deep Go.ChangeShapes Go.WideShapes Go.Proofs.Ythhknfbpfdmggaa.P Go.Proofs.Ythhknfbpfdmggaa.Op Go.Proofs.YthhknfbpfdmggaaW.PrintWords Go.Proofs.YthhknfbpfdmggaaW.PrintLast Go.Proofs.YthhknfbpfdmggaaW.PrintMore
set_option linter.unusedVariables false
theorem opens_BitsFields_S44 : Opens Try.prog k44 44 (fun x : S44 => (Lit.int .i64 x.f0).wf = true ∧ (Lit.int .i64 x.f1).wf = true ∧ (Lit.int .u32 x.f2).wf = true) :=
  opens_imp (opens_iso (fun x : S44 => (x.f0, x.f1, x.f2)) (fun y => ⟨y.1, y.2.1, y.2.2⟩) (fun _ => rfl) (opens_struct Try.underlying44 (opensF_cons (opens_int Try.underlying3) (opensF_cons (opens_int Try.underlying3) (opensF_one (opens_int Try.underlying22) rfl (by kernel_rfl)) rfl (by kernel_rfl)) rfl (by kernel_rfl)) (by kernel_rfl))) (fun x h => by
    obtain ⟨h0, h1, h2⟩ := h
    exact ⟨h0, h1, h2⟩)
/-- THE PURE STATEMENT. -/
def cleatlaw01_BitsFields.Pure : Prop := ∀ (a0 : Int) (a1 : Int) (a2 : Int) (l3 : List S44), (Lit.int .u32 a0).wf = true → (Lit.int .i64 a1).wf = true → (Lit.int .i64 a2).wf = true → l3.length * 24 ≤ 140737488351232 → (∀ x ∈ l3, (Lit.int .i64 x.f0).wf = true ∧ (Lit.int .i64 x.f1).wf = true ∧ (Lit.int .u32 x.f2).wf = true) → ∃ k, cleatlaw01_BitsFields.f k a0 a1 a2 l3 = some true
end Go.Proofs.Ythhknfbpfdmggaa.Q
