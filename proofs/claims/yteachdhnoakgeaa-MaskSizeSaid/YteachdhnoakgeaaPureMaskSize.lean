/- Every number is what its lowest bits, as many as its size, are, again and again; half the size will not do. No conditions. -/
import Derived.Test.YteachdhnoakgeaaMk2
import Derived.Test.YteachdhnoakgeaaPx6
import Derived.Test.YteachdhnoakgeaaPx9
namespace Go.Proofs.Yteachdhnoakgeaa.Pure
open Go.RowKit Go.Proofs.Yteachdhnoakgeaa.P Go.Proofs.Yteachdhnoakgeaa.K Go.Proofs.Yteachdhnoakgeaa.B Go.Proofs.Yteachdhnoakgeaa.M Go.Proofs.YteachdhnoakgeaaW.PrintWords Go.Proofs.YteachdhnoakgeaaW.PrintLast Go.Proofs.YteachdhnoakgeaaW.PrintMore
theorem masked_s (k : Nat) (hk : 300 ≤ k) : cleatlaw02_masked.f k = some true := at_rounds cleatlaw02_masked.mono hk (by decide +kernel)
theorem size_j1 (k : Nat) (hk : 302 ≤ k) (v s : Nat) (hv : v < 18446744073709551616) (hs : sizeN v = s) : cleatlaw02_MaskSize.j1 k v s false = some true := by
  obtain ⟨k, rfl⟩ : ∃ m, k = m + 1 := ⟨k - 1, by omega⟩
  have hz : Sz s := hs ▸ sizeN_sz v
  have hl := hz.le
  simp only [cleatlaw02_MaskSize.j1]
  rw [if_neg (by simp)]
  by_cases h2 : s = 2
  · rw [if_pos (by omega), masked_s k (by omega)]; rfl
  · rw [if_neg (by omega)]
    have hh : Sz (s / 2) := by
      unfold Sz at hz ⊢
      omega
    have h4 := hh.le
    have e : wrap64 (Int.tdiv (s : Int) 2) = ((s / 2 : Nat) : Int) := by
      rw [show Int.tdiv (s : Int) 2 = ((s / 2 : Nat) : Int) from rfl, w64_in ⟨by omega, by omega⟩]
    rw [e, show bits_Rotate.f k (v : Int) ((s / 2 : Nat) : Int) 64 = some ((rotN v (s / 2) 64 : Int), 0) from rot_ok (s := 64) k (by omega) v (s / 2) sz64 hv (by omega), Option.bind_some, masked_s k (by omega), Option.bind_some, if_pos rfl, if_pos rfl]
    have hne : rotN v (s / 2) 64 ≠ v := by
      intro e2
      have := sizeN_least v hh ((per_rot hv hh (by omega)).1 e2)
      omega
    rw [bne_iff_ne.2 (by omega)]
theorem size_j0 (k : Nat) (hk : 303 ≤ k) (v s : Nat) (hv : v < 18446744073709551616) (hs : sizeN v = s) : cleatlaw02_MaskSize.j0 k v s false = some true := by
  obtain ⟨k, rfl⟩ : ∃ m, k = m + 1 := ⟨k - 1, by omega⟩
  have hz : Sz s := hs ▸ sizeN_sz v
  have hl := hz.le
  simp only [cleatlaw02_MaskSize.j0]
  have hm : s % 64 < 64 := Nat.mod_lt _ (by decide)
  rw [if_neg (by simp), show Int.tmod (s : Int) 64 = ((s % 64 : Nat) : Int) from rfl, show bits_Rotate.f k (v : Int) ((s % 64 : Nat) : Int) 64 = some ((rotN v (s % 64) 64 : Int), 0) from rot_ok (s := 64) k (by omega) v (s % 64) sz64 hv hm, Option.bind_some, if_pos rfl]
  have he : rotN v (s % 64) 64 = v := by
    by_cases h : s < 64
    · rw [Nat.mod_eq_of_lt h]
      exact (per_rot hv hz h).2 (hs ▸ sizeN_per v)
    · obtain rfl : s = 64 := by omega
      exact rotN_zero
  dsimp only
  rw [he, bne_eq_false_iff_eq.2 rfl]
  exact size_j1 k (by omega) v s hv hs
theorem MaskSize : cleatlaw02_MaskSize.Pure := by
  intro v hw
  refine ⟨400, ?_⟩
  have h := wf_u64 hw
  obtain ⟨v, rfl⟩ := Int.eq_ofNat_of_zero_le h.1
  have hv : v < 18446744073709551616 := by omega
  have hz := sizeN_sz v
  have hj := size_j0 400 (by omega) v (sizeN v) hv rfl
  unfold cleatlaw02_MaskSize.f
  rw [size_f hv 400 (by omega), Option.bind_some]
  generalize sizeN v = s at *
  repeat' split
  all_goals first | exact hj | skip
  have : (s : Int) = 64 := by unfold Sz at hz; omega
  rw [bne_eq_false_iff_eq.2 this]
  exact hj
end Go.Proofs.Yteachdhnoakgeaa.Pure
