/- The pure statement that is left of the law PlaceDoes, and how its arguments open. By wip/tools/rows.py. -/
import Derived.Test.YtdckhlihhbobhaaPx7
import Derived.Test.YtdckhlihhbobhaaOp
namespace Go.Proofs.Ytdckhlihhbobhaa.Q
open Go.RowKit Go.Deep Go.ChangeShapes Go.WideShapes Go.Proofs.Ytdckhlihhbobhaa.P Go.Proofs.Ytdckhlihhbobhaa.Op Go.Proofs.YtdckhlihhbobhaaW.PrintWords Go.Proofs.YtdckhlihhbobhaaW.PrintLast Go.Proofs.YtdckhlihhbobhaaW.PrintMore
set_option linter.unusedVariables false
theorem opens_PlaceDoes_S34 : Opens Try.prog k34 34 (fun x : S34 => (Lit.int .i64 x.f0).wf = true ∧ (Lit.int .i64 x.f1).wf = true) :=
  opens_imp (opens_iso (fun x : S34 => (x.f0, x.f1)) (fun y => ⟨y.1, y.2⟩) (fun _ => rfl) (opens_struct Try.underlying34 (opensF_cons (opens_int Try.underlying3) (opensF_one (opens_int Try.underlying3) rfl (by kernel_rfl)) rfl (by kernel_rfl)) (by kernel_rfl))) (fun x h => by
    obtain ⟨h0, h1⟩ := h
    exact ⟨h0, h1⟩)
/-- THE PURE STATEMENT. -/
def cleatlaw24_PlaceDoes.Pure : Prop := ∀ (a0_0 : Int) (a0_1 : Int) (a0_2 : Int) (a0_3 : Int) (a1 : Int) (a2 : Int) (l3 : List S34) (a4 : Int), (Lit.int .u64 a0_0).wf = true → (Lit.int .u64 a0_1).wf = true → (Lit.int .u64 a0_2).wf = true → (Lit.int .i64 a0_3).wf = true → (Lit.int .u64 a1).wf = true → (Lit.int .i64 a2).wf = true → l3.length * 16 ≤ 140737488351232 → (∀ x ∈ l3, (Lit.int .i64 x.f0).wf = true ∧ (Lit.int .i64 x.f1).wf = true) → (Lit.int .u64 a4).wf = true → ∃ k, cleatlaw24_PlaceDoes.f k a0_0 a0_1 a0_2 a0_3 a1 a2 l3 a4 = some true
end Go.Proofs.Ytdckhlihhbobhaa.Q
