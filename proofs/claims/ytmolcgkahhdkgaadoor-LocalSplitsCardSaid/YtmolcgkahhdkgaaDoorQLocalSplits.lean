/- The pure statement that is left of the law LocalSplits, and how its arguments open. By wip/tools/rows.py. -/
import Derived.Test.YtmolcgkahhdkgaaDoorPx10
import Derived.Test.YtmolcgkahhdkgaaDoorOp
namespace Go.Proofs.YtmolcgkahhdkgaaDoor.Q
open Go.RowKit Go.Deep Go.ChangeShapes Go.WideShapes Go.Proofs.YtmolcgkahhdkgaaDoor.P Go.Proofs.YtmolcgkahhdkgaaDoor.Op Go.Proofs.YtmolcgkahhdkgaaDoorW.PrintWords Go.Proofs.YtmolcgkahhdkgaaDoorW.PrintLast Go.Proofs.YtmolcgkahhdkgaaDoorW.PrintMore
set_option linter.unusedVariables false
theorem opens_LocalSplits_S30 : Opens Tryd.prog k30 30 (fun x : S30 => (Lit.int .i64 x.f0).wf = true ∧ x.f1.size ≤ 9223372036854775807 ∧ (Lit.int .u64 x.f2).wf = true) :=
  opens_imp (opens_iso (fun x : S30 => (x.f0, x.f1, x.f2)) (fun y => ⟨y.1, y.2.1, y.2.2⟩) (fun _ => rfl) (opens_struct Tryd.underlying30 (opensF_cons (opens_int Tryd.underlying3) (opensF_cons (opens_string Tryd.underlying9) (opensF_one (opens_int Tryd.underlying28) rfl (by kernel_rfl)) rfl (by kernel_rfl)) rfl (by kernel_rfl)) (by kernel_rfl))) (fun x h => by
    obtain ⟨h0, h1, h2⟩ := h
    exact ⟨h0, h1, h2⟩)
/-- THE PURE STATEMENT. -/
def cleatlaw14_LocalSplits.Pure : Prop := ∀ (l0 : List S30) (a1 : ByteArray), l0.length * 32 ≤ 140737488351232 → (∀ x ∈ l0, (Lit.int .i64 x.f0).wf = true ∧ x.f1.size ≤ 9223372036854775807 ∧ (Lit.int .u64 x.f2).wf = true) → a1.size ≤ 140737488351232 → ∃ k, cleatlaw14_LocalSplits.f k l0 a1 = some true
end Go.Proofs.YtmolcgkahhdkgaaDoor.Q
