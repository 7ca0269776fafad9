/- Up of Up is Up; it is less than one step above; a multiple of more is one of less. No conditions. -/
import Derived.Test.YtdckhlihhbobhaaPl
import Derived.Test.YtdckhlihhbobhaaPx9
namespace Go.Proofs.Ytdckhlihhbobhaa.Pure
open Go.RowKit Go.Proofs.Ytdckhlihhbobhaa.P Go.Proofs.Ytdckhlihhbobhaa.K Go.Proofs.Ytdckhlihhbobhaa.Pl Go.Proofs.YtdckhlihhbobhaaW.PrintWords Go.Proofs.YtdckhlihhbobhaaW.PrintLast Go.Proofs.YtdckhlihhbobhaaW.PrintMore
set_option linter.unusedVariables false
set_option linter.unusedSimpArgs false
theorem up_bads (a n : Int) (ha : 0 ≤ a) (h : n < 0 ∨ 12 < n ∨ 9223372036854775808 < a) (k : Nat) (hk : 1 ≤ k) : ∃ e, e ≠ 0 ∧ place_Up.f k a n = some (0, e) := by
  by_cases h1 : n < 0 ∨ 12 < n
  · exact ⟨1, by omega, up_bad a n h1 k hk⟩
  · exact ⟨4, by omega, up_far a n h1 (by omega) k hk⟩
theorem PlaceUp : cleatlaw24_PlaceUp.Pure := by
  intro a n m ha hn hm
  replace ha := wf_u64 ha
  refine ⟨50, ?_⟩
  unfold cleatlaw24_PlaceUp.f
  by_cases hb : n < 0 ∨ 12 < n ∨ 9223372036854775808 < a
  · obtain ⟨e, he, h⟩ := up_bads a n ha.1 hb 50 (by omega)
    have hj : cleatlaw24_PlaceUp.j0 50 a n m 0 e true = some true := by
      simp only [cleatlaw24_PlaceUp.j0]
      rw [if_pos trivial, laid_t 49 (by omega)]
      simp only [Option.bind_some]
      rw [if_pos trivial, if_neg he]
      rfl
    rw [h]
    simp only [Option.bind_some]
    by_cases h1 : n < 0
    · rw [if_pos h1]; exact hj
    · rw [if_neg h1]
      by_cases h2 : n > 12
      · rw [if_pos h2]; exact hj
      · rw [if_neg h2, decide_eq_true (by omega)]; exact hj
  · obtain ⟨a, rfl⟩ : ∃ x : Nat, a = x := ⟨a.toNat, by omega⟩
    obtain ⟨n, rfl⟩ : ∃ x : Nat, n = x := ⟨n.toNat, by omega⟩
    obtain ⟨hp, hl⟩ := p12 (n := n) (by omega)
    have h1 := up_ge a (2 ^ n)
    have h2 := up_lt a (2 ^ n) hp
    have h3 := up_mod a (2 ^ n) hp
    rw [up_f a n (by omega) (by omega) 50 (by omega)]
    simp only [Option.bind_some]
    rw [if_neg (by omega), if_neg (by omega), decide_eq_false (by omega)]
    simp only [cleatlaw24_PlaceUp.j0]
    rw [if_neg (by simp), if_pos trivial, if_neg (by omega), if_pos (by omega), shl64_one n (by omega)]
    rw [wu64_in ⟨by omega, by omega⟩, if_neg (by omega), if_neg (by omega), tmod_nat, h3]
    rw [show (((0 : Nat) : Int) != 0) = false by rfl]
    simp only [cleatlaw24_PlaceUp.j1]
    rw [if_neg (by simp)]
    have hj2 : cleatlaw24_PlaceUp.j2 48 (a : Int) m ((upN a (2 ^ n) : Nat) : Int) true = some true := by
      simp only [cleatlaw24_PlaceUp.j2]
      rw [if_pos trivial, laid_t 47 (by omega)]
      rfl
    by_cases hm0 : m < 0
    · rw [if_pos hm0]; exact hj2
    · rw [if_neg hm0]
      by_cases hm1 : m > n
      · rw [decide_eq_true hm1]; exact hj2
      · rw [decide_eq_false hm1]
        obtain ⟨m, rfl⟩ : ∃ x : Nat, m = x := ⟨m.toNat, by omega⟩
        obtain ⟨hp2, hl2⟩ := p12 (n := m) (by omega)
        have hdm : upN a (2 ^ n) % 2 ^ m = 0 := by
          have hd : 2 ^ m ∣ 2 ^ n := Nat.pow_dvd_pow 2 (by omega)
          exact Nat.mod_eq_zero_of_dvd (Nat.dvd_trans hd (Nat.dvd_of_mod_eq_zero h3))
        simp only [cleatlaw24_PlaceUp.j2]
        have hle : upN a (2 ^ n) ≤ 9223372036854775808 := by
          refine up_le hp ?_ (by omega)
          exact Nat.mod_eq_zero_of_dvd (show 2 ^ n ∣ 2 ^ 63 from Nat.pow_dvd_pow 2 (by omega))
        rw [if_neg (by simp), up_f _ m (by omega) hle 47 (by omega), up_f a m (by omega) (by omega) 47 (by omega), laid_t 47 (by omega), up_of hdm]
        simp only [Option.bind_some]
        rw [if_pos trivial, if_pos trivial, if_pos trivial, if_pos trivial]
        congr 1
        rw [decide_eq_true_iff]
        have := up_le (a := a) hp2 hdm h1
        omega
end Go.Proofs.Ytdckhlihhbobhaa.Pure
