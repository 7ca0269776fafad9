/- Numbers as texts, without Go: what Of, Signed and Sum answer; the document's rows. -/
import Derived.Test.YtefofaamhaiejaaDoorPx1
import Derived.Test.YtefofaamhaiejaaDoorPx3
import Derived.Test.YtefofaamhaiejaaDoorPx4
import Derived.Test.YtefofaamhaiejaaDoorKb
namespace Go.Proofs.YtefofaamhaiejaaDoor.Nm
open Go.RowKit Go.Proofs.YtefofaamhaiejaaDoor.P Go.Proofs.YtefofaamhaiejaaDoor.K Go.Proofs.YtefofaamhaiejaaDoorW.PrintWords Go.Proofs.YtefofaamhaiejaaDoorW.PrintLast Go.Proofs.YtefofaamhaiejaaDoorW.PrintMore
theorem of_neg {n : Int} (h0 : -9223372036854775808 ≤ n) (h : n < 0) : num_Of.f n = some (true, -n) := by
  unfold num_Of.f
  rw [if_pos h, wu64, wu64]
  congr 2
  omega
theorem of_pos {n : Int} (h1 : n ≤ 9223372036854775807) (h : 0 ≤ n) : num_Of.f n = some (false, n) := by
  unfold num_Of.f
  rw [if_neg (by omega), wu64]
  congr 2
  omega
theorem signed_pos {v : Int} (h0 : 0 ≤ v) (h : v ≤ 9223372036854775807) : num_Signed.f false v = some (v, 0) := by
  unfold num_Signed.f
  rw [if_neg (by decide), if_neg (by omega), w64_in ⟨by omega, by omega⟩]
theorem signed_pos_no {v : Int} (h : 9223372036854775807 < v) : num_Signed.f false v = some (0, 4) := by
  unfold num_Signed.f
  rw [if_neg (by decide), if_pos (by omega)]
theorem signed_neg {v : Int} (h0 : 0 ≤ v) (h : v ≤ 9223372036854775808) : num_Signed.f true v = some (-v, 0) := by
  unfold num_Signed.f
  rw [if_pos rfl, if_neg (by omega), wu64]
  congr 2
  unfold wrap64
  omega
theorem signed_neg_no {v : Int} (h : 9223372036854775808 < v) : num_Signed.f true v = some (0, 4) := by
  unfold num_Signed.f
  rw [if_pos rfl, if_pos (by omega)]
theorem sum_f {at_ by_ : Int} (h0 : 0 ≤ at_) (h1 : at_ < 18446744073709551616) (h2 : -9223372036854775808 ≤ by_) (h3 : by_ ≤ 9223372036854775807) :
    num_Sum.f at_ by_ = some (if 0 ≤ at_ + by_ ∧ at_ + by_ < 18446744073709551616 then (at_ + by_, 0) else (0, 4)) := by
  unfold num_Sum.f
  by_cases hb : by_ < 0
  · rw [of_neg h2 hb, Option.bind_some]
    simp only [if_true]
    by_cases hc : 0 ≤ at_ + by_
    · rw [if_neg (show ¬ (-by_ > at_) by omega), if_pos ⟨hc, by omega⟩, wu64]
      congr 2
      omega
    · rw [if_pos (show -by_ > at_ by omega), if_neg (by omega)]
  · rw [of_pos h3 (by omega), Option.bind_some]
    rw [if_neg (show ¬ (false = true) by decide)]
    have hw : IntKind.u64.wrap (at_ + by_) = (at_ + by_) % 18446744073709551616 := wu64 _
    simp only [hw]
    by_cases hc : at_ + by_ < 18446744073709551616
    · rw [if_neg (by omega), if_pos ⟨by omega, hc⟩]
      congr 2
      omega
    · rw [if_pos (by omega), if_neg (by omega)]
theorem counted_ok : cleatlaw10_counted.f = some true := by
  have e1 : num_Value.f ⟨#[48, 120, 70, 102]⟩ = some (255, 0) := by decide +kernel
  have e2 : num_Value.f ⟨#[48, 49, 56]⟩ = some (18, 0) := by decide +kernel
  have e3 : num_Value.f ⟨#[49, 56, 52, 52, 54, 55, 52, 52, 48, 55, 51, 55, 48, 57, 53, 53, 49, 54, 49, 54]⟩ = some (0, 4) := by decide +kernel
  have e4 : num_Value.f ⟨#[48, 120]⟩ = some (0, 3) := by decide +kernel
  have e5 : num_Signed.f true 9223372036854775808 = some (-9223372036854775808, 0) := signed_neg (by omega) (by omega)
  have e6 : num_Of.f (-5) = some (true, 5) := of_neg (by omega) (by omega)
  have e7 : num_Sum.f 7 (-7) = some (0, 0) := by rw [sum_f (by omega) (by omega) (by omega) (by omega)]; rfl
  have e8 : num_Sum.f 7 (-8) = some (0, 4) := by rw [sum_f (by omega) (by omega) (by omega) (by omega)]; rfl
  have e9 : num_Hex.f 255 = some ⟨#[48, 120, 102, 102]⟩ := by decide +kernel
  have e10 : num_Text.f 0 = some ⟨#[48]⟩ := by
    unfold num_Text.f strconv_FormatUint_26.f strconv_FormatUint_28.f
    rw [if_pos ⟨by omega, by omega, Or.inl rfl⟩, if_pos rfl]
    unfold decS
    rw [show (0 : Int).toNat = 0 from rfl, Go.Lib.decDigits_one (by decide)]
    rfl
  unfold cleatlaw10_counted.f
  rw [e1, e2, e3, e4, e5, e6, e7, e8, e9, e10]
  decide +kernel
end Go.Proofs.YtefofaamhaiejaaDoor.Nm
