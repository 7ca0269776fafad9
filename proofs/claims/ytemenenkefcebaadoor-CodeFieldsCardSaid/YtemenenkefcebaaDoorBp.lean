/- What the printed Signed and Pack answer, over plain numbers. -/
import Derived.Test.YtemenenkefcebaaDoorBs
import Derived.Test.YtemenenkefcebaaDoorPx5
import Derived.Test.YtemenenkefcebaaDoorPx7
namespace Go.Proofs.YtemenenkefcebaaDoor.B
open Go.RowKit Go.Proofs.YtemenenkefcebaaDoor.P Go.Proofs.YtemenenkefcebaaDoor.K Go.Proofs.YtemenenkefcebaaDoorW.PrintWords Go.Proofs.YtemenenkefcebaaDoorW.PrintLast Go.Proofs.YtemenenkefcebaaDoorW.PrintMore
set_option linter.unusedVariables false
set_option linter.unusedSimpArgs false

/-- A number of n bits, n ≥ 1, with its sign. -/
def sgnN (v n : Nat) : Int := if v < 2 ^ (n - 1) then (v : Int) else (v : Int) - ((2 ^ n : Nat) : Int)
/-- A number's n bits. -/
def packN (s : Int) (n : Nat) : Nat := (s % ((2 ^ n : Nat) : Int)).toNat
theorem pow_half {n : Nat} (h : 1 ≤ n) : 2 ^ n = 2 * 2 ^ (n - 1) := by
 obtain ⟨m, rfl⟩ : ∃ m, n = m + 1 := ⟨n - 1, by omega⟩
 rw [Nat.pow_succ, Nat.add_sub_cancel, Nat.mul_comm]
theorem signed_bad (k : Nat) (hk : 1 ≤ k) (v n : Int) (h : n < 1 ∨ n > 32) : bits_Signed.f k v n = some (0, 1) := by
 obtain ⟨k, rfl⟩ : ∃ m, k = m + 1 := ⟨k - 1, by omega⟩
 unfold bits_Signed.f
 by_cases h1 : n < 1
 ·rw [if_pos h1]; simp [bits_Signed.j0]
 ·rw [if_neg h1, decide_eq_true (by omega)]; simp [bits_Signed.j0]
theorem signed_go (k : Nat) (hk : 1 ≤ k) (v n : Nat) (hv : v < 4294967296) (h1 : 1 ≤ n) (h2 : n ≤ 32) :
  bits_Signed.f k (v : Int) (n : Int) = if v < 2 ^ n then some (sgnN v n, 0) else some (0, 4) := by
 obtain ⟨k, rfl⟩ : ∃ m, k = m + 1 := ⟨k - 1, by omega⟩
 have hp := Nat.two_pow_pos n
 have hp1 := Nat.two_pow_pos (n - 1)
 have hh := pow_half h1
 have hl := pow_le32 h2
 unfold bits_Signed.f
 rw [if_neg (by omega), decide_eq_false (by omega)]
 simp only [bits_Signed.j0]
 rw [if_neg (by simp), if_pos (by omega), shr32 v n h2]
 by_cases h : v < 2 ^ n
 ·rw [if_pos (by rw [Nat.div_eq_of_lt h]; rfl), if_pos h, show wrap64 ((n : Int) - 1) = ((n - 1 : Nat) : Int) by rw [w64_in ⟨by omega, by omega⟩]; omega]
  rw [if_pos (by omega), shr32 v (n - 1) (by omega), w64_in (n := (v : Int)) ⟨by omega, by omega⟩, shli64_one n (by omega)]
  unfold sgnN
  by_cases h3 : v < 2 ^ (n - 1)
  ·rw [if_pos h3, if_neg (by rw [Nat.div_eq_of_lt h3]; simp)]
  ·rw [if_neg h3, if_pos, w64_in ⟨by omega, by omega⟩]
   have : v / 2 ^ (n - 1) = 1 := Nat.div_eq_of_lt_le (by omega) (by omega)
   rw [this]; rfl
 ·rw [if_neg h, if_neg]
  have := Nat.div_pos (show 2 ^ n ≤ v by omega) hp
  omega
theorem pack_bad (k : Nat) (hk : 1 ≤ k) (v n : Int) (h : n < 1 ∨ n > 32) : bits_Pack.f k v n = some (0, 1) := by
 obtain ⟨k, rfl⟩ : ∃ m, k = m + 1 := ⟨k - 1, by omega⟩
 unfold bits_Pack.f
 by_cases h1 : n < 1
 ·rw [if_pos h1]; simp [bits_Pack.j0]
 ·rw [if_neg h1, decide_eq_true (by omega)]; simp [bits_Pack.j0]
theorem packN_lt (s : Int) (n : Nat) : packN s n < 2 ^ n := by
 have hp := Nat.two_pow_pos n
 have := Int.emod_lt_of_pos s (show (0 : Int) < ((2 ^ n : Nat) : Int) by omega)
 have := Int.emod_nonneg s (show ((2 ^ n : Nat) : Int) ≠ 0 by omega)
 unfold packN
 omega
theorem packN_cast (s : Int) (n : Nat) : (packN s n : Int) = s % ((2 ^ n : Nat) : Int) := by
 have hp := Nat.two_pow_pos n
 have := Int.emod_nonneg s (show ((2 ^ n : Nat) : Int) ≠ 0 by omega)
 unfold packN
 omega
theorem packN_mod (s : Int) {n m : Nat} (h : n ≤ m) : packN s m % 2 ^ n = packN s n := by
 have : ((packN s m % 2 ^ n : Nat) : Int) = ((packN s n : Nat) : Int) := by
  rw [Int.natCast_emod, packN_cast, packN_cast]
  exact Int.emod_emod_of_dvd s (Int.natCast_dvd_natCast.2 (Nat.pow_dvd_pow 2 h))
 omega
theorem pack_go (k : Nat) (hk : 1 ≤ k) (s : Int) (n : Nat) (h1 : 1 ≤ n) (h2 : n ≤ 32) :
  bits_Pack.f k s (n : Int) = if -((2 ^ (n - 1) : Nat) : Int) ≤ s ∧ s < ((2 ^ (n - 1) : Nat) : Int) then some ((packN s n : Int), 0) else some (0, 4) := by
 obtain ⟨k, rfl⟩ : ∃ m, k = m + 1 := ⟨k - 1, by omega⟩
 have hp1 := Nat.two_pow_pos (n - 1)
 have hh := pow_half h1
 have hl := pow_le32 h2
 have hlt := packN_lt s n
 unfold bits_Pack.f
 rw [if_neg (by omega), decide_eq_false (by omega)]
 simp only [bits_Pack.j0]
 rw [if_neg (by simp), show wrap64 ((n : Int) - 1) = ((n - 1 : Nat) : Int) by rw [w64_in ⟨by omega, by omega⟩]; omega]
 rw [if_pos (by omega), shli64_one (n - 1) (by omega), w64_in (n := -((2 ^ (n - 1) : Nat) : Int)) ⟨by omega, by omega⟩, w64_in (n := ((2 ^ (n - 1) : Nat) : Int) - 1) ⟨by omega, by omega⟩]
 by_cases ha : s < -((2 ^ (n - 1) : Nat) : Int)
 ·rw [if_pos ha, if_neg (by omega)]
 ·rw [if_neg ha]
  by_cases hb : s > ((2 ^ (n - 1) : Nat) : Int) - 1
  ·rw [if_pos hb, if_neg (by omega)]
  ·rw [if_neg hb, if_pos (by omega), if_pos (by omega)]
   have e := mask32 (s % 4294967296).toNat n (by omega) h2
   rw [show (((s % 4294967296).toNat : Nat) : Int) = s % 4294967296 by omega] at e
   rw [e]
   have : (((s % 4294967296).toNat % 2 ^ n : Nat) : Int) = (packN s n : Int) := by
    rw [Int.natCast_emod, packN_cast, show (((s % 4294967296).toNat : Nat) : Int) = s % 4294967296 by omega]
    exact Int.emod_emod_of_dvd s (show ((2 ^ n : Nat) : Int) ∣ 4294967296 from Int.natCast_dvd_natCast.2 (Nat.pow_dvd_pow 2 (n := 32) h2))
   rw [this]
theorem sgn_range {v n : Nat} (h1 : 1 ≤ n) (hv : v < 2 ^ n) : -((2 ^ (n - 1) : Nat) : Int) ≤ sgnN v n ∧ sgnN v n < ((2 ^ (n - 1) : Nat) : Int) := by
 have hh := pow_half h1
 unfold sgnN
 split <;> omega
theorem pack_sgn {v n : Nat} (h1 : 1 ≤ n) (hv : v < 2 ^ n) : packN (sgnN v n) n = v := by
 have h : (packN (sgnN v n) n : Int) = (v : Int) := by
  rw [packN_cast]
  unfold sgnN
  split
  ·exact Int.emod_eq_of_lt (by omega) (by omega)
  ·rw [Int.sub_emod_right]; exact Int.emod_eq_of_lt (by omega) (by omega)
 omega
theorem sgn_pack {s : Int} {n : Nat} (h1 : 1 ≤ n) (ha : -((2 ^ (n - 1) : Nat) : Int) ≤ s) (hb : s < ((2 ^ (n - 1) : Nat) : Int)) : sgnN (packN s n) n = s := by
 have hh := pow_half h1
 have hc := packN_cast s n
 by_cases h0 : 0 ≤ s
 ·rw [Int.emod_eq_of_lt h0 (by omega)] at hc
  unfold sgnN
  rw [if_pos (by omega), hc]
 ·rw [← Int.add_emod_right, Int.emod_eq_of_lt (by omega) (by omega)] at hc
  unfold sgnN
  rw [if_neg (by omega), hc]
  omega
end Go.Proofs.YtemenenkefcebaaDoor.B
