/- Every number is rotated, and has the lowest bits, as the reference says. No conditions. -/
import Derived.Test.YthhknfbpfdmggaaR1
import Derived.Test.YthhknfbpfdmggaaPx4
import Derived.Test.YthhknfbpfdmggaaPx5
namespace Go.Proofs.Ythhknfbpfdmggaa.Pure
open Go.RowKit Go.Proofs.Ythhknfbpfdmggaa.P Go.Proofs.Ythhknfbpfdmggaa.K Go.Proofs.Ythhknfbpfdmggaa.B Go.Proofs.Ythhknfbpfdmggaa.R1 Go.Proofs.YthhknfbpfdmggaaW.PrintWords Go.Proofs.YthhknfbpfdmggaaW.PrintLast Go.Proofs.YthhknfbpfdmggaaW.PrintMore
theorem told_t : cleatlaw01_told.f 200 = some true := by decide +kernel
theorem BitsTurned : cleatlaw01_BitsTurned.Pure := by
  intro v by_ size n hv _ _ _
  refine ⟨200, ?_⟩
  have hw := wf_u64 hv
  obtain ⟨r, h1, h2⟩ := rot_same 200 (by omega) v by_ size hw
  obtain ⟨x, rfl⟩ := Int.eq_ofNat_of_zero_le hw.1
  unfold cleatlaw01_BitsTurned.f
  rw [h1, h2, told_t, low_f x (by omega), low_ref x (by omega) n 200 (by omega)]
  simp
end Go.Proofs.Ythhknfbpfdmggaa.Pure
