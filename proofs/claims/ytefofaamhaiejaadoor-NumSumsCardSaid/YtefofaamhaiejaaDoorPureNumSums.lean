/- NumSums, as plain Lean: what is added may be taken away again. -/
import Derived.Test.YtefofaamhaiejaaDoorQNumSums
import Derived.Test.YtefofaamhaiejaaDoorNm1
import Derived.Test.YtefofaamhaiejaaDoorPx7
namespace Go.Proofs.YtefofaamhaiejaaDoor.Pure
open Go.RowKit Go.Proofs.YtefofaamhaiejaaDoor.P Go.Proofs.YtefofaamhaiejaaDoor.K Go.Proofs.YtefofaamhaiejaaDoor.Nm Go.Proofs.YtefofaamhaiejaaDoor.Q Go.Proofs.YtefofaamhaiejaaDoorW.PrintWords Go.Proofs.YtefofaamhaiejaaDoorW.PrintLast Go.Proofs.YtefofaamhaiejaaDoorW.PrintMore
theorem NumSums : cleatlaw10_NumSums.Pure := by
  intro a0 a1 a2 w0 w1 w2
  have h0 := wf_u64 w0
  have h1 := wf_i64 w1
  have h2 := wf_i64 w2
  unfold cleatlaw10_NumSums.f
  rw [sum_f h0.1 h0.2 h1.1 h1.2, sum_f h0.1 h0.2 h2.1 h2.2, counted_ok]
  simp only [Option.bind_some, if_true]
  have e1 : (decide (a1 ≥ 0) == decide (a0 + a1 ≥ a0)) = true := by
    rw [show decide (a0 + a1 ≥ a0) = decide (a1 ≥ 0) from decide_eq_decide.2 (by omega), beq_self_eq_true]
  have e2 : (decide (a1 ≤ a2) == decide (a0 + a1 ≤ a0 + a2)) = true := by
    rw [show decide (a0 + a1 ≤ a0 + a2) = decide (a1 ≤ a2) from decide_eq_decide.2 (by omega), beq_self_eq_true]
  by_cases c1 : 0 ≤ a0 + a1 ∧ a0 + a1 < 18446744073709551616
  · rw [if_pos c1]
    simp only [if_true]
    have hlast : (if (decide (a1 ≥ 0) == decide (a0 + a1 ≥ a0)) = true then if (if 0 ≤ a0 + a2 ∧ a0 + a2 < 18446744073709551616 then (a0 + a2, (0 : Int)) else (0, 4)).2 = 0 then some (decide (a1 ≤ a2) == decide (a0 + a1 ≤ (if 0 ≤ a0 + a2 ∧ a0 + a2 < 18446744073709551616 then (a0 + a2, (0 : Int)) else (0, 4)).1)) else some true else some false) = some true := by
      rw [if_pos e1]
      by_cases c2 : 0 ≤ a0 + a2 ∧ a0 + a2 < 18446744073709551616
      · rw [if_pos c2]
        simp only [if_true]
        rw [e2]
      · rw [if_neg c2]
        rfl
    by_cases hm : a1 = -9223372036854775808
    · rw [if_pos hm]
      exact hlast
    · rw [if_neg hm, w64_in ⟨by omega, by omega⟩, sum_f c1.1 c1.2 (by omega) (by omega), Option.bind_some, if_pos (show 0 ≤ a0 + a1 + -a1 ∧ a0 + a1 + -a1 < 18446744073709551616 by omega), if_pos rfl, if_pos (by omega)]
      exact hlast
  · rw [if_neg c1]
    have hne : a1 ≠ 0 := by omega
    simp [hne]
end Go.Proofs.YtefofaamhaiejaaDoor.Pure
