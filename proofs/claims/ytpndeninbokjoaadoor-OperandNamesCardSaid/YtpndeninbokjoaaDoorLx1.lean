/- Runes of bytes: plain laws. No program in it. -/
import Derived.Test.YtpndeninbokjoaaDoorLx0
import Derived.Lib.ValidLaws
import Derived.Lib.MapLaws
import Derived.Lib.TrimUEq
namespace Go.Proofs.YtpndeninbokjoaaDoor.P
theorem runesGo_fuel : ∀ (n m : Nat) (l : List UInt8), l.length ≤ n → l.length ≤ m → runesGo n l = runesGo m l
 | 0, m, l, h, _ => by
  obtain rfl : l = [] := List.eq_nil_of_length_eq_zero (by omega)
  cases m <;> rfl
 | n + 1, 0, l, _, h => by
  obtain rfl : l = [] := List.eq_nil_of_length_eq_zero (by omega)
  rfl
 | n + 1, m + 1, l, h1, h2 => by
  unfold runesGo
  split
  ·rfl
  ·have := Go.Lib.decodeL_width l
   rw [runesGo_fuel n m _ (by simp; omega) (by simp; omega)]
theorem runesL_nil : runesL [] = [] := rfl
theorem runesL_step (l : List UInt8) (h : l ≠ []) : runesL l = ((Go.Lib.decodeL l).1 : Int) :: runesL (l.drop (Go.Lib.decodeL l).2) := by
 have hp : 0 < l.length := List.length_pos_iff.2 h
 have := Go.Lib.decodeL_width l
 unfold runesL
 obtain ⟨n, hn⟩ : ∃ n, l.length = n + 1 := ⟨l.length - 1, by omega⟩
 rw [hn]
 conv => lhs; unfold runesGo
 rw [if_neg h, runesGo_fuel n (l.drop (Go.Lib.decodeL l).2).length _ (by simp; omega) (Nat.le_refl _)]
theorem runesL_len : ∀ (n : Nat) (l : List UInt8), l.length ≤ n → (runesL l).length ≤ l.length
 | 0, l, h => by
  obtain rfl : l = [] := List.eq_nil_of_length_eq_zero (by omega)
  exact Nat.le_refl _
 | n + 1, l, h => by
  by_cases h0 : l = []
  ·subst h0; exact Nat.le_refl _
  ·have hp : 0 < l.length := List.length_pos_iff.2 h0
   have := Go.Lib.decodeL_width l
   have h2 := runesL_len n (l.drop (Go.Lib.decodeL l).2) (by simp; omega)
   rw [runesL_step l h0]
   rw [List.length_drop] at h2
   simp only [List.length_cons]
   omega
theorem runesL_bd : ∀ (n : Nat) (l : List UInt8), l.length ≤ n → ∀ x ∈ runesL l, 0 ≤ x ∧ x ≤ 1114111
 | 0, l, h => by
  obtain rfl : l = [] := List.eq_nil_of_length_eq_zero (by omega)
  intro x hx
  cases hx
 | n + 1, l, h => by
  by_cases h0 : l = []
  ·subst h0; intro x hx; cases hx
  ·have hp : 0 < l.length := List.length_pos_iff.2 h0
   have := Go.Lib.decodeL_width l
   intro x hx
   rw [runesL_step l h0, List.mem_cons] at hx
   rcases hx with rfl | hx
   ·have := Go.Lib.decodeL_rune l
    omega
   ·exact runesL_bd n _ (by simp; omega) x hx
end Go.Proofs.YtpndeninbokjoaaDoor.P
