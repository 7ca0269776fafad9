/- Every number of 32 bits, read with its sign, and every int, packed in bits, are what the reference says. No conditions. -/
import Derived.Test.YthhknfbpfdmggaaR1p
import Derived.Test.YthhknfbpfdmggaaPx4
namespace Go.Proofs.Ythhknfbpfdmggaa.Pure
open Go.RowKit Go.Proofs.Ythhknfbpfdmggaa.P Go.Proofs.Ythhknfbpfdmggaa.K Go.Proofs.Ythhknfbpfdmggaa.B Go.Proofs.Ythhknfbpfdmggaa.R1 Go.Proofs.YthhknfbpfdmggaaW.PrintWords Go.Proofs.YthhknfbpfdmggaaW.PrintLast Go.Proofs.YthhknfbpfdmggaaW.PrintMore
theorem told_s : cleatlaw01_told.f 200 = some true := by decide +kernel
theorem BitsSigned : cleatlaw01_BitsSigned.Pure := by
  intro v s n hv hs hn
  refine ⟨200, ?_⟩
  obtain ⟨r, h1, h2⟩ := signed_same 200 (by omega) v n (wf_u32 hv)
  obtain ⟨q, h3, h4⟩ := pack_same 200 (by omega) s n
  unfold cleatlaw01_BitsSigned.f
  rw [h1, h2, h3, h4, told_s]
  simp
end Go.Proofs.Ythhknfbpfdmggaa.Pure
