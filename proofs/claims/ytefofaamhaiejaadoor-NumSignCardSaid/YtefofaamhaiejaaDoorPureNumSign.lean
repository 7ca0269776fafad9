/- NumSign, as plain Lean: Of and Signed turn one another back. -/
import Derived.Test.YtefofaamhaiejaaDoorQNumSign
import Derived.Test.YtefofaamhaiejaaDoorNm1
import Derived.Test.YtefofaamhaiejaaDoorPx6
namespace Go.Proofs.YtefofaamhaiejaaDoor.NumSignP
open Go.RowKit Go.Proofs.YtefofaamhaiejaaDoor.P Go.Proofs.YtefofaamhaiejaaDoor.K Go.Proofs.YtefofaamhaiejaaDoor.Nm Go.Proofs.YtefofaamhaiejaaDoor.Q Go.Proofs.YtefofaamhaiejaaDoorW.PrintWords Go.Proofs.YtefofaamhaiejaaDoorW.PrintLast Go.Proofs.YtefofaamhaiejaaDoorW.PrintMore
theorem j0_run (m : Bool) (v : Int) (h0 : 0 ≤ v) (h1 : v < 18446744073709551616) : cleatlaw10_NumSign.j0 1 m v false = some true := by
  simp only [cleatlaw10_NumSign.j0]
  rw [if_neg (by decide), counted_ok]
  cases m
  · by_cases h : v ≤ 9223372036854775807
    · rw [signed_pos h0 h, Option.bind_some, if_pos rfl, of_pos h h0, Option.bind_some, Option.bind_some, if_pos rfl, if_pos rfl]
      split <;> rfl
    · rw [signed_pos_no (by omega), Option.bind_some, if_neg (by decide), Option.bind_some, if_pos rfl, if_pos rfl, if_pos rfl, decide_eq_true (by omega)]
  · by_cases h : v ≤ 9223372036854775808
    · rw [signed_neg h0 h, Option.bind_some, if_pos rfl]
      by_cases hz : v = 0
      · subst hz
        rw [show (-(0 : Int)) = 0 from rfl, of_pos (by omega) (by omega), Option.bind_some, Option.bind_some, if_pos rfl, if_pos rfl, if_pos rfl]
      · rw [of_neg (by omega) (by omega), Option.bind_some, Option.bind_some, if_pos rfl, if_pos (by omega), if_neg hz]
        rfl
    · rw [signed_neg_no (by omega), Option.bind_some, if_neg (by decide), Option.bind_some, if_pos rfl, if_pos rfl, if_pos rfl, decide_eq_true (by omega)]
end Go.Proofs.YtefofaamhaiejaaDoor.NumSignP
namespace Go.Proofs.YtefofaamhaiejaaDoor.Pure
open Go.RowKit Go.Proofs.YtefofaamhaiejaaDoor.P Go.Proofs.YtefofaamhaiejaaDoor.K Go.Proofs.YtefofaamhaiejaaDoor.Nm Go.Proofs.YtefofaamhaiejaaDoor.Q Go.Proofs.YtefofaamhaiejaaDoorW.PrintWords Go.Proofs.YtefofaamhaiejaaDoorW.PrintLast Go.Proofs.YtefofaamhaiejaaDoorW.PrintMore
theorem NumSign : cleatlaw10_NumSign.Pure := by
  intro a0 a1 a2 w0 w2
  have h0 := wf_i64 w0
  have h2 := wf_u64 w2
  refine ⟨1, ?_⟩
  unfold cleatlaw10_NumSign.f
  by_cases hb : a0 < 0
  · rw [of_neg h0.1 hb, Option.bind_some, signed_neg (by omega) (by omega), Option.bind_some, if_pos rfl, if_pos (by omega), decide_eq_true hb]
    exact NumSignP.j0_run a1 a2 h2.1 h2.2
  · rw [of_pos h0.2 (by omega), Option.bind_some, signed_pos (by omega) (by omega), Option.bind_some, if_pos rfl, if_pos (by omega), decide_eq_false hb]
    exact NumSignP.j0_run a1 a2 h2.1 h2.2
end Go.Proofs.YtefofaamhaiejaaDoor.Pure
