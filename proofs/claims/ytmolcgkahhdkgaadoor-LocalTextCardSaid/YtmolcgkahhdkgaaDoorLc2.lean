/- A local label's name: its digits are read as they were written. -/
import Derived.Test.YtmolcgkahhdkgaaDoorLx0
import Derived.Lib.ItoaMem
import Derived.Test.YtmolcgkahhdkgaaDoorPx13
namespace Go.Proofs.YtmolcgkahhdkgaaDoor.P
open Go.Lib Go.RowKit Go.Proofs.YtmolcgkahhdkgaaDoorW.PrintWords Go.Proofs.YtmolcgkahhdkgaaDoorW.PrintLast Go.Proofs.YtmolcgkahhdkgaaDoorW.PrintMore
set_option linter.unusedVariables false
/-! ### a number's digits, as a label has them -/
theorem lab_big {u : Nat} (h : ¬ u < 10) : Go.Lib.decDigits u = Go.Lib.decDigits (u / 10) ++ [UInt8.ofNat (48 + u % 10)] := by rw [Go.Lib.decDigits, dif_neg h]
theorem lab_digit : ∀ n : Nat, n < 10 → isDig ((UInt8.ofNat (48 + n)).toNat : Int) = true ∧ (((UInt8.ofNat (48 + n)).toNat : Int) - 48) = n := by decide +kernel
theorem dec_lab : ∀ (n v : Nat), v < n → (Go.Lib.decDigits v).all (fun c => isDig c.toNat) = true ∧ labV (Go.Lib.decDigits v) = (v : Int) ∧ 1 ≤ (Go.Lib.decDigits v).length
 | 0, v, h => absurd h (Nat.not_lt_zero _)
 | n + 1, v, h => by
  by_cases h10 : v < 10
  ·rw [Go.Lib.decDigits_one h10]
   obtain ⟨h1, h2⟩ := lab_digit v h10
   refine ⟨by simpa using h1, ?_, by simp⟩
   show 10 * 0 + _ = _
   rw [h2]; omega
  ·rw [lab_big h10]
   obtain ⟨h1, h2⟩ := lab_digit (v % 10) (by omega)
   obtain ⟨g1, g2, g3⟩ := dec_lab n (v / 10) (by omega)
   refine ⟨by rw [List.all_append, g1]; simpa using h1, ?_, by simp⟩
   rw [labV_snoc, g2, h2]; omega
theorem dec_len : ∀ (n v : Nat), v < 10 ^ (n + 1) → (Go.Lib.decDigits v).length ≤ n + 1
 | 0, v, h => by rw [Go.Lib.decDigits_one (by omega)]; simp
 | n + 1, v, h => by
  by_cases h10 : v < 10
  ·rw [Go.Lib.decDigits_one h10]; simp
  ·rw [lab_big h10, List.length_append, List.length_singleton]
   have := dec_len n (v / 10) (by rw [Nat.div_lt_iff_lt_mul (by decide)]; rw [Nat.pow_succ] at h; omega)
   omega
theorem lab_read (v : Nat) (hv : v ≤ 9999) (c : UInt8) (hc : c = 102 ∨ c = 98) : labB (Go.Lib.decDigits v ++ [c]) = ((v : Int), c == 102, true) := by
 obtain ⟨h1, h2, h3⟩ := dec_lab (v + 1) v (by omega)
 have h4 := dec_len 3 v (by omega)
 unfold labB
 rw [if_neg (by rw [List.length_append, List.length_singleton]; omega), List.getLastD_concat, List.dropLast_concat, if_neg (by rcases hc with rfl | rfl <;> decide), if_pos h1, h2]
end Go.Proofs.YtmolcgkahhdkgaaDoor.P
