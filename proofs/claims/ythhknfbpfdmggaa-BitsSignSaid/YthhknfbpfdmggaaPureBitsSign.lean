/- Signed and Pack turn one another back, at every number; what is packed in more bits is told as the same. No conditions. -/
import Derived.Test.YthhknfbpfdmggaaBp
import Derived.Test.YthhknfbpfdmggaaPx4
import Derived.Test.YthhknfbpfdmggaaPx5
namespace Go.Proofs.Ythhknfbpfdmggaa.Pure
open Go.RowKit Go.Proofs.Ythhknfbpfdmggaa.P Go.Proofs.Ythhknfbpfdmggaa.K Go.Proofs.Ythhknfbpfdmggaa.B Go.Proofs.YthhknfbpfdmggaaW.PrintWords Go.Proofs.YthhknfbpfdmggaaW.PrintLast Go.Proofs.YthhknfbpfdmggaaW.PrintMore
theorem told_b (k : Nat) (hk : 100 ≤ k) : cleatlaw01_told.f k = some true := at_rounds cleatlaw01_told.mono hk (by decide +kernel)
theorem sign_j2 (k : Nat) (hk : 101 ≤ k) (s : Int) (n : Nat) (m c : Int) (hn : 1 ≤ n ∧ n ≤ 32) (hs : -((2 ^ (n - 1) : Nat) : Int) ≤ s ∧ s < ((2 ^ (n - 1) : Nat) : Int)) (hm : (n : Int) ≤ m ∧ m ≤ 32) (hc : c = (packN s n : Int)) :
    cleatlaw01_BitsSign.j2 k s n m c false = some true := by
  obtain ⟨k, rfl⟩ : ∃ j, k = j + 1 := ⟨k - 1, by omega⟩
  obtain ⟨m, rfl⟩ := Int.eq_ofNat_of_zero_le (show 0 ≤ m by omega)
  have hpm := pow_le32 (show m ≤ 32 by omega)
  have hpn := pow_le32 hn.2
  have hle : 2 ^ (n - 1) ≤ 2 ^ (m - 1) := Nat.pow_le_pow_right (by decide) (by omega)
  have hs' : -((2 ^ (m - 1) : Nat) : Int) ≤ s ∧ s < ((2 ^ (m - 1) : Nat) : Int) := ⟨by omega, by omega⟩
  have h1 := packN_lt s m
  have h2 := packN_lt s n
  simp only [cleatlaw01_BitsSign.j2]
  rw [if_neg (by simp), pack_go k (by omega) s m (by omega) (by omega), if_pos hs', Option.bind_some, signed_go k (by omega) (packN s m) m (by omega) (by omega) (by omega), if_pos (packN_lt s m), Option.bind_some, told_b k (by omega), Option.bind_some]
  rw [if_pos rfl, if_pos rfl, if_pos rfl, if_pos (sgn_pack (by omega) hs'.1 hs'.2)]
  rw [wu64_in (n := (packN s m : Int)) ⟨by omega, by omega⟩, low_f _ (by omega), Option.bind_some, lowZ_nat _ n (by omega) (by omega), packN_mod s (by omega), hc, wu64_in ⟨by omega, by omega⟩]
  simp
theorem sign_j0 (k : Nat) (hk : 103 ≤ k) (s n m : Int) : cleatlaw01_BitsSign.j0 k s n m = some true := by
  obtain ⟨k, rfl⟩ : ∃ j, k = j + 1 := ⟨k - 1, by omega⟩
  simp only [cleatlaw01_BitsSign.j0]
  by_cases hn : n < 1 ∨ n > 32
  · rw [pack_bad k (by omega) s n hn, Option.bind_some, if_neg (by decide), told_b k (by omega)]; rfl
  · obtain ⟨n, rfl⟩ := Int.eq_ofNat_of_zero_le (show 0 ≤ n by omega)
    rw [pack_go k (by omega) s n (by omega) (by omega)]
    by_cases hs : -((2 ^ (n - 1) : Nat) : Int) ≤ s ∧ s < ((2 ^ (n - 1) : Nat) : Int)
    · have h1 := packN_lt s n
      have h2 := pow_le32 (show n ≤ 32 by omega)
      rw [if_pos hs, Option.bind_some, if_pos rfl, signed_go k (by omega) (packN s n) n (by omega) (by omega) (by omega), if_pos h1, Option.bind_some, if_pos rfl]
      dsimp only
      rw [sgn_pack (by omega) hs.1 hs.2]
      obtain ⟨k, rfl⟩ : ∃ j, k = j + 1 := ⟨k - 1, by omega⟩
      simp only [cleatlaw01_BitsSign.j1]
      rw [if_neg (by simp)]
      by_cases hm : m < (n : Int)
      · rw [if_pos hm]
        obtain ⟨k, rfl⟩ : ∃ j, k = j + 1 := ⟨k - 1, by omega⟩
        simp only [cleatlaw01_BitsSign.j2]
        rw [if_pos trivial, told_b k (by omega)]; rfl
      · rw [if_neg hm]
        by_cases hm2 : m > 32
        · rw [decide_eq_true hm2]
          obtain ⟨k, rfl⟩ : ∃ j, k = j + 1 := ⟨k - 1, by omega⟩
          simp only [cleatlaw01_BitsSign.j2]
          rw [if_pos trivial, told_b k (by omega)]; rfl
        · rw [decide_eq_false hm2]
          exact sign_j2 k (by omega) s n m _ (by omega) hs (by omega) rfl
    · rw [if_neg hs, Option.bind_some, if_neg (by simp), told_b k (by omega)]; rfl
theorem BitsSign : cleatlaw01_BitsSign.Pure := by
  intro v s n m hv _ _ _
  refine ⟨200, ?_⟩
  have hw := wf_u32 hv
  unfold cleatlaw01_BitsSign.f
  by_cases hn : n < 1 ∨ n > 32
  · rw [signed_bad 200 (by omega) v n hn, Option.bind_some, if_neg (by simp)]
    exact sign_j0 200 (by omega) s n m
  · obtain ⟨x, rfl⟩ := Int.eq_ofNat_of_zero_le hw.1
    obtain ⟨n, rfl⟩ := Int.eq_ofNat_of_zero_le (show 0 ≤ n by omega)
    rw [signed_go 200 (by omega) x n (by omega) (by omega) (by omega)]
    by_cases hx : x < 2 ^ n
    · have hr := sgn_range (show 1 ≤ n by omega) hx
      rw [if_pos hx, Option.bind_some, if_pos rfl]
      dsimp only
      rw [pack_go 200 (by omega) _ n (by omega) (by omega), if_pos hr, Option.bind_some, if_pos rfl]
      dsimp only
      rw [pack_sgn (by omega) hx, if_pos rfl]
      exact sign_j0 200 (by omega) s n m
    · rw [if_neg hx, Option.bind_some, if_neg (by simp)]
      exact sign_j0 200 (by omega) s n m
end Go.Proofs.Ythhknfbpfdmggaa.Pure
