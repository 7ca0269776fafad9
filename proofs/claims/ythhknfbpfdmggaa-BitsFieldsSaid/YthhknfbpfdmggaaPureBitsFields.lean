/- Any word has just the reference's bits in a field, and any fields make just the reference's word, or are refused as there; they stay. No conditions. -/
import Derived.Test.YthhknfbpfdmggaaR1w
import Derived.Test.YthhknfbpfdmggaaQBitsFields
import Derived.Test.YthhknfbpfdmggaaPx4
import Derived.Test.YthhknfbpfdmggaaPx7
namespace Go.Proofs.Ythhknfbpfdmggaa.Pure
open Go.RowKit Go.Proofs.Ythhknfbpfdmggaa.P Go.Proofs.Ythhknfbpfdmggaa.K Go.Proofs.Ythhknfbpfdmggaa.B Go.Proofs.Ythhknfbpfdmggaa.R1 Go.Proofs.Ythhknfbpfdmggaa.Q Go.Proofs.YthhknfbpfdmggaaW.PrintWords Go.Proofs.YthhknfbpfdmggaaW.PrintLast Go.Proofs.YthhknfbpfdmggaaW.PrintMore
theorem told_f (k : Nat) (hk : 400 ≤ k) : cleatlaw01_told.f k = some true := at_rounds cleatlaw01_told.mono hk (by decide +kernel)
theorem BitsFields : cleatlaw01_BitsFields.Pure := by
  intro w a n l hw ha hn _ hl
  refine ⟨4000, ?_⟩
  have hwf : ∀ x ∈ l, Wf x := fun x hx => ⟨wf_i64 (hl x hx).1, wf_i64 (hl x hx).2.1, wf_u32 (hl x hx).2.2⟩
  unfold cleatlaw01_BitsFields.f
  by_cases h : (l.length : Int) > 40
  · rw [if_pos h]
  · rw [if_neg h]
    obtain ⟨r, e1, e2⟩ := field_same 4000 (by omega) w a n (wf_u32 hw) (wf_i64 ha) (wf_i64 hn)
    have eo : cleatref01_Own.f l = some l := by
      unfold cleatref01_Own.f
      rw [if_pos (by simp; omega)]; rfl
    have es : cleatref01_Same.f 4000 l l = some true := by
      unfold cleatref01_Same.f
      rw [if_pos rfl]
      exact same_refl l l.length 4000 0 (by omega) (by omega) (by omega)
    rw [eo, Option.bind_some, e1, Option.bind_some, e2, Option.bind_some, word_f l (by omega) hwf 4000 (by omega), Option.bind_some, word_ref l (by omega) hwf 4000 (by omega), Option.bind_some, told_f 4000 (by omega), Option.bind_some, if_pos rfl, if_pos rfl, if_pos rfl, if_pos rfl, if_pos rfl, es]
    rfl
end Go.Proofs.Ythhknfbpfdmggaa.Pure
