/- The pure statement that is left of the law PlaceApart, and how its arguments open. By wip/tools/rows.py. -/
import Derived.Test.YtdckhlihhbobhaaPx8
import Derived.Test.YtdckhlihhbobhaaOp
namespace Go.Proofs.Ytdckhlihhbobhaa.Q
open Go.RowKit Go.Deep Go.ChangeShapes Go.WideShapes Go.Proofs.Ytdckhlihhbobhaa.P Go.Proofs.Ytdckhlihhbobhaa.Op Go.Proofs.YtdckhlihhbobhaaW.PrintWords Go.Proofs.YtdckhlihhbobhaaW.PrintLast Go.Proofs.YtdckhlihhbobhaaW.PrintMore
set_option linter.unusedVariables false
theorem opens_PlaceApart_S34 : Opens Try.prog k34 34 (fun x : S34 => (Lit.int .i64 x.f0).wf = true ∧ (Lit.int .i64 x.f1).wf = true) :=
  opens_imp (opens_iso (fun x : S34 => (x.f0, x.f1)) (fun y => ⟨y.1, y.2⟩) (fun _ => rfl) (opens_struct Try.underlying34 (opensF_cons (opens_int Try.underlying3) (opensF_one (opens_int Try.underlying3) rfl (by kernel_rfl)) rfl (by kernel_rfl)) (by kernel_rfl))) (fun x h => by
    obtain ⟨h0, h1⟩ := h
    exact ⟨h0, h1⟩)
/-- THE PURE STATEMENT. -/
def cleatlaw24_PlaceApart.Pure : Prop := ∀ (l0 : List S34) (a1 : Int), l0.length * 16 ≤ 140737488351232 → (∀ x ∈ l0, (Lit.int .i64 x.f0).wf = true ∧ (Lit.int .i64 x.f1).wf = true) → (Lit.int .u64 a1).wf = true → ∃ k, cleatlaw24_PlaceApart.f k l0 a1 = some true
end Go.Proofs.Ytdckhlihhbobhaa.Q
