/- What the printed reference of Signed and Pack answers: the same as the program's. -/
import Derived.Test.YthhknfbpfdmggaaBp
import Derived.Test.YthhknfbpfdmggaaR1
import Derived.Test.YthhknfbpfdmggaaPx2
namespace Go.Proofs.Ythhknfbpfdmggaa.R1
open Go.RowKit Go.Proofs.Ythhknfbpfdmggaa.P Go.Proofs.Ythhknfbpfdmggaa.K Go.Proofs.Ythhknfbpfdmggaa.B Go.Proofs.YthhknfbpfdmggaaW.PrintWords Go.Proofs.YthhknfbpfdmggaaW.PrintLast Go.Proofs.YthhknfbpfdmggaaW.PrintMore
set_option linter.unusedVariables false
set_option linter.unusedSimpArgs false
theorem signed_ref_bad (k : Nat) (hk : 1 ≤ k) (v n : Int) (h : n < 1 ∨ n > 32) : cleatref01_Signed.f k v n = some (0, 1) := by
  obtain ⟨k, rfl⟩ : ∃ m, k = m + 1 := ⟨k - 1, by omega⟩
  unfold cleatref01_Signed.f
  by_cases h1 : n < 1
  · rw [if_pos h1]; simp [cleatref01_Signed.j0]
  · rw [if_neg h1, decide_eq_true (by omega)]; simp [cleatref01_Signed.j0]
theorem pack_ref_bad (k : Nat) (hk : 1 ≤ k) (v n : Int) (h : n < 1 ∨ n > 32) : cleatref01_Pack.f k v n = some (0, 1) := by
  obtain ⟨k, rfl⟩ : ∃ m, k = m + 1 := ⟨k - 1, by omega⟩
  unfold cleatref01_Pack.f
  by_cases h1 : n < 1
  · rw [if_pos h1]; simp [cleatref01_Pack.j0]
  · rw [if_neg h1, decide_eq_true (by omega)]; simp [cleatref01_Pack.j0]
theorem signed_ref_go (k : Nat) (hk : 100 ≤ k) (v n : Nat) (hv : v < 4294967296) (h1 : 1 ≤ n) (h2 : n ≤ 32) :
    cleatref01_Signed.f k (v : Int) (n : Int) = if v < 2 ^ n then some (sgnN v n, 0) else some (0, 4) := by
  obtain ⟨k, rfl⟩ : ∃ m, k = m + 1 := ⟨k - 1, by omega⟩
  have hp := Nat.two_pow_pos n
  have hp1 := Nat.two_pow_pos (n - 1)
  have hh := pow_half h1
  have hl := pow_le32 h2
  unfold cleatref01_Signed.f
  rw [if_neg (by omega), decide_eq_false (by omega)]
  simp only [cleatref01_Signed.j0]
  rw [if_neg (by simp), wu64_in (n := (v : Int)) ⟨by omega, by omega⟩, small_f v n (by omega) k (by omega), Option.bind_some]
  by_cases h : v < 2 ^ n
  · rw [if_pos (decide_eq_true h), if_pos h, show wrap64 ((n : Int) - 1) = ((n - 1 : Nat) : Int) by rw [w64_in ⟨by omega, by omega⟩]; omega]
    rw [bit_f v (n - 1) (by omega) (by omega) k (by omega), Option.bind_some, power_f n (by omega) k (by omega), Option.bind_some, w64_in (n := (v : Int)) ⟨by omega, by omega⟩, w64_in (n := ((2 ^ n : Nat) : Int)) ⟨by omega, by omega⟩, w64_in ⟨by omega, by omega⟩]
    unfold sgnN
    rw [Nat.testBit_eq_decide_div_mod_eq]
    by_cases h3 : v < 2 ^ (n - 1)
    · rw [if_pos h3, Nat.div_eq_of_lt h3]; rfl
    · have : v / 2 ^ (n - 1) = 1 := Nat.div_eq_of_lt_le (by omega) (by omega)
      rw [if_neg h3, this]; rfl
  · rw [if_neg (by simpa using h), if_neg h]
theorem pack_ref_go (k : Nat) (hk : 100 ≤ k) (s : Int) (n : Nat) (h1 : 1 ≤ n) (h2 : n ≤ 32) :
    cleatref01_Pack.f k s (n : Int) = if -((2 ^ (n - 1) : Nat) : Int) ≤ s ∧ s < ((2 ^ (n - 1) : Nat) : Int) then some ((packN s n : Int), 0) else some (0, 4) := by
  obtain ⟨k, rfl⟩ : ∃ m, k = m + 2 := ⟨k - 2, by omega⟩
  have hp1 := Nat.two_pow_pos (n - 1)
  have hh := pow_half h1
  have hl := pow_le32 h2
  have hc := packN_cast s n
  unfold cleatref01_Pack.f
  rw [if_neg (by omega), decide_eq_false (by omega)]
  simp only [cleatref01_Pack.j0]
  rw [if_neg (by simp), show wrap64 ((n : Int) - 1) = ((n - 1 : Nat) : Int) by rw [w64_in ⟨by omega, by omega⟩]; omega]
  rw [power_f (n - 1) (by omega) _ (by omega), Option.bind_some, w64_in (n := ((2 ^ (n - 1) : Nat) : Int)) ⟨by omega, by omega⟩, w64_in (n := -((2 ^ (n - 1) : Nat) : Int)) ⟨by omega, by omega⟩]
  simp only [cleatref01_Pack.j1]
  by_cases ha : s < -((2 ^ (n - 1) : Nat) : Int)
  · rw [if_pos ha, if_pos trivial, if_neg (by omega)]
  · rw [if_neg ha]
    by_cases hb : s ≥ ((2 ^ (n - 1) : Nat) : Int)
    · rw [decide_eq_true hb, if_pos rfl, if_neg (by omega)]
    · rw [decide_eq_false hb, if_neg (by simp)]
      by_cases h0 : s < 0
      · rw [if_pos h0, if_pos (by omega)]
        rw [← Int.add_emod_right, Int.emod_eq_of_lt (by omega) (by omega)] at hc
        rw [hc, w64_in (n := 2 * ((2 ^ (n - 1) : Nat) : Int)) ⟨by omega, by omega⟩, w64_in ⟨by omega, by omega⟩, hh]
        congr 2
        omega
      · rw [if_neg h0, if_pos (by omega)]
        rw [Int.emod_eq_of_lt (by omega) (by omega)] at hc
        rw [hc]
        congr 2
        omega
theorem signed_same (k : Nat) (hk : 200 ≤ k) (v n : Int) (hv : 0 ≤ v ∧ v < 4294967296) : ∃ r, bits_Signed.f k v n = some r ∧ cleatref01_Signed.f k v n = some r := by
  by_cases h : n < 1 ∨ n > 32
  · exact ⟨(0, 1), signed_bad k (by omega) v n h, signed_ref_bad k (by omega) v n h⟩
  · obtain ⟨x, rfl⟩ := Int.eq_ofNat_of_zero_le hv.1
    obtain ⟨m, rfl⟩ := Int.eq_ofNat_of_zero_le (show 0 ≤ n by omega)
    rw [signed_go k (by omega) x m (by omega) (by omega) (by omega), signed_ref_go k (by omega) x m (by omega) (by omega) (by omega)]
    split
    · exact ⟨_, rfl, rfl⟩
    · exact ⟨_, rfl, rfl⟩
theorem pack_same (k : Nat) (hk : 200 ≤ k) (s n : Int) : ∃ r, bits_Pack.f k s n = some r ∧ cleatref01_Pack.f k s n = some r := by
  by_cases h : n < 1 ∨ n > 32
  · exact ⟨(0, 1), pack_bad k (by omega) s n h, pack_ref_bad k (by omega) s n h⟩
  · obtain ⟨m, rfl⟩ := Int.eq_ofNat_of_zero_le (show 0 ≤ n by omega)
    rw [pack_go k (by omega) s m (by omega) (by omega), pack_ref_go k (by omega) s m (by omega) (by omega)]
    split
    · exact ⟨_, rfl, rfl⟩
    · exact ⟨_, rfl, rfl⟩
end Go.Proofs.Ythhknfbpfdmggaa.R1
