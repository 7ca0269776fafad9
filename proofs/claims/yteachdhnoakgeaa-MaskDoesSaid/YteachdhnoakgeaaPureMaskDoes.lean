/- Any three numbers tell just the reference's mask, and any number is told by just the reference's three, or they are refused as there; it has the reference's size, and so many ones. No conditions. -/
import Derived.Test.YteachdhnoakgeaaMr
import Derived.Test.YteachdhnoakgeaaPx6
import Derived.Test.YteachdhnoakgeaaPx7
namespace Go.Proofs.Yteachdhnoakgeaa.Pure
open Go.RowKit Go.Proofs.Yteachdhnoakgeaa.P Go.Proofs.Yteachdhnoakgeaa.K Go.Proofs.Yteachdhnoakgeaa.B Go.Proofs.Yteachdhnoakgeaa.M Go.Proofs.YteachdhnoakgeaaW.PrintWords Go.Proofs.YteachdhnoakgeaaW.PrintLast Go.Proofs.YteachdhnoakgeaaW.PrintMore
theorem masked_d (k : Nat) (hk : 300 ≤ k) : cleatlaw02_masked.f k = some true := at_rounds cleatlaw02_masked.mono hk (by decide +kernel)
open Classical in
theorem MaskDoes : cleatlaw02_MaskDoes.Pure := by
  intro n r s v _ _ _ hw
  refine ⟨700, ?_⟩
  have h := wf_u64 hw
  obtain ⟨v, rfl⟩ := Int.eq_ofNat_of_zero_le h.1
  have hv : v < 18446744073709551616 := by omega
  obtain ⟨q, h1, h2⟩ := decode_same n r s 700 (by omega)
  obtain ⟨p, h3, h4, _⟩ := encode_same hv 700 (by omega)
  unfold cleatlaw02_MaskDoes.f
  rw [h1, Option.bind_some, h2, Option.bind_some, h3, Option.bind_some, h4, Option.bind_some, masked_d 700 (by omega), Option.bind_some, if_pos rfl, if_pos rfl, if_pos rfl, if_pos rfl, if_pos rfl, if_pos rfl, if_pos rfl]
  rw [is_f hv 700 (by omega), Option.bind_some, ris_f hv 700 (by omega), Option.bind_some, if_pos (by simp), size_f hv 700 (by omega), Option.bind_some, rsize_f hv 700 (by omega), Option.bind_some, if_pos rfl, ones_f hv 700 (by omega), Option.bind_some, rones_f hv 700 (by omega), Option.bind_some]
  simp
end Go.Proofs.Yteachdhnoakgeaa.Pure
