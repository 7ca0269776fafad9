/- NumDoes, as plain Lean: the document's answer is the program's. -/
import Derived.Test.YtefofaamhaiejaaDoorQNumDoes
import Derived.Test.YtefofaamhaiejaaDoorNm3
import Derived.Test.YtefofaamhaiejaaDoorPx5
namespace Go.Proofs.YtefofaamhaiejaaDoor.Pure
open Go.RowKit Go.Proofs.YtefofaamhaiejaaDoor.P Go.Proofs.YtefofaamhaiejaaDoor.K Go.Proofs.YtefofaamhaiejaaDoor.Nm Go.Proofs.YtefofaamhaiejaaDoor.Q Go.Proofs.YtefofaamhaiejaaDoorW.PrintWords Go.Proofs.YtefofaamhaiejaaDoorW.PrintLast Go.Proofs.YtefofaamhaiejaaDoorW.PrintMore
theorem NumDoes : cleatlaw10_NumDoes.Pure := by
  intro a0 a1 a2 a3 w0 w1 w3
  have h1 := wf_u64 w1
  have h3 := wf_i64 w3
  refine ⟨1000, ?_⟩
  unfold cleatlaw10_NumDoes.f
  by_cases hs : (a0.size : Int) > 300
  · rw [if_pos hs]
  rw [if_neg hs, rvalue a0 (by omega) 1000 (by omega), rsigned a2 h1.1 h1.2 1000 (by omega), rof h3.1 h3.2, rsum h1.1 h1.2 h3.1 h3.2 1000 (by omega), counted_ok]
  obtain ⟨p, hp⟩ : ∃ p, num_Value.f a0 = some p := ⟨_, value_ans a0⟩
  obtain ⟨q, hq⟩ : ∃ q, num_Signed.f a2 a1 = some q := by
    unfold num_Signed.f
    repeat (first | exact ⟨_, rfl⟩ | split)
  obtain ⟨o, ho⟩ : ∃ o, num_Of.f a3 = some o := by
    unfold num_Of.f
    repeat (first | exact ⟨_, rfl⟩ | split)
  obtain ⟨u, hu⟩ : ∃ u, num_Sum.f a1 a3 = some u := ⟨_, sum_f h1.1 h1.2 h3.1 h3.2⟩
  obtain ⟨v, rfl⟩ := Int.eq_ofNat_of_zero_le h1.1
  have hv : v < 18446744073709551616 := by omega
  rw [hp, hq, ho, hu, show num_Text.f ((v : Nat) : Int) = _ from text_f hv, rtext v hv 1000 (by omega), hex_f hv, rhex v hv 1000 (by omega)]
  simp
end Go.Proofs.YtefofaamhaiejaaDoor.Pure
