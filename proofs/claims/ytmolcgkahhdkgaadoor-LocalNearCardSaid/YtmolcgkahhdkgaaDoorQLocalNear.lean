/- The pure statement that is left of the law LocalNear, and how its arguments open. By wip/tools/rows.py. -/
import Derived.Test.YtmolcgkahhdkgaaDoorPx11
import Derived.Test.YtmolcgkahhdkgaaDoorOp
namespace Go.Proofs.YtmolcgkahhdkgaaDoor.Q
open Go.RowKit Go.Deep Go.ChangeShapes Go.WideShapes Go.Proofs.YtmolcgkahhdkgaaDoor.P Go.Proofs.YtmolcgkahhdkgaaDoor.Op Go.Proofs.YtmolcgkahhdkgaaDoorW.PrintWords Go.Proofs.YtmolcgkahhdkgaaDoorW.PrintLast Go.Proofs.YtmolcgkahhdkgaaDoorW.PrintMore
set_option linter.unusedVariables false
theorem opens_LocalNear_S38 : Opens Tryd.prog k38 38 (fun x : S38 => (Lit.int .i64 x.f0).wf = true ∧ (Lit.int .i64 x.f1).wf = true ∧ (Lit.int .i64 x.f2).wf = true ∧ (Lit.int .i64 x.f3).wf = true) :=
  opens_imp (opens_iso (fun x : S38 => (x.f0, x.f1, x.f2, x.f3)) (fun y => ⟨y.1, y.2.1, y.2.2.1, y.2.2.2⟩) (fun _ => rfl) (opens_struct Tryd.underlying38 (opensF_cons (opens_int Tryd.underlying3) (opensF_cons (opens_int Tryd.underlying3) (opensF_cons (opens_int Tryd.underlying3) (opensF_one (opens_int Tryd.underlying3) rfl (by kernel_rfl)) rfl (by kernel_rfl)) rfl (by kernel_rfl)) rfl (by kernel_rfl)) (by kernel_rfl))) (fun x h => by
    obtain ⟨h0, h1, h2, h3⟩ := h
    exact ⟨h0, h1, h2, h3⟩)
/-- THE PURE STATEMENT. -/
def cleatlaw14_LocalNear.Pure : Prop := ∀ (l0 : List S38) (a1 : Int) (a2 : Bool) (a3 : Int), l0.length * 32 ≤ 140737488351232 → (∀ x ∈ l0, (Lit.int .i64 x.f0).wf = true ∧ (Lit.int .i64 x.f1).wf = true ∧ (Lit.int .i64 x.f2).wf = true ∧ (Lit.int .i64 x.f3).wf = true) → (Lit.int .i64 a1).wf = true → (Lit.int .i64 a3).wf = true → ∃ k, cleatlaw14_LocalNear.f k l0 a1 a2 a3 = some true
end Go.Proofs.YtmolcgkahhdkgaaDoor.Q
