/- What three numbers tell is told by just these; what is told of a number tells it. No conditions. -/
import Derived.Test.YteachdhnoakgeaaMk2
import Derived.Test.YteachdhnoakgeaaPx6
import Derived.Test.YteachdhnoakgeaaPx7
namespace Go.Proofs.Yteachdhnoakgeaa.Pure
open Go.RowKit Go.Proofs.Yteachdhnoakgeaa.P Go.Proofs.Yteachdhnoakgeaa.K Go.Proofs.Yteachdhnoakgeaa.B Go.Proofs.Yteachdhnoakgeaa.M Go.Proofs.YteachdhnoakgeaaW.PrintWords Go.Proofs.YteachdhnoakgeaaW.PrintLast Go.Proofs.YteachdhnoakgeaaW.PrintMore
theorem masked_b (k : Nat) (hk : 300 ≤ k) : cleatlaw02_masked.f k = some true := at_rounds cleatlaw02_masked.mono hk (by decide +kernel)
theorem back_j0 (k : Nat) (hk : 301 ≤ k) (v : Nat) (hv : v < 18446744073709551616) : cleatlaw02_MaskBack.j0 k v = some true := by
  obtain ⟨k, rfl⟩ : ∃ m, k = m + 1 := ⟨k - 1, by omega⟩
  simp only [cleatlaw02_MaskBack.j0]
  by_cases hm : Mask v
  · obtain ⟨s, o, t, h⟩ := hm
    have hl := h.sz.le
    have o1 := h.o1
    have o2 := h.o2
    have tl := h.tl
    have hn : nN s ≤ 1 := by unfold nN; split <;> omega
    have hx : o - 1 + exN s ≤ 63 := by
      unfold exN
      split
      · omega
      · have : s ≤ 32 := by have := h.sz; unfold Sz at this; omega
        omega
    have hd : Dc (nN s) t (o - 1 + exN s) s := by
      refine ⟨?_, by omega, by omega, tl⟩
      unfold nN
      split <;> omega
    have hz := firstZ_of h.sz hd
    rw [encode_run hv h k (by omega), Option.bind_some, if_pos rfl, dec_go hn (by omega) hx k (by omega), hz, if_neg (by omega), show o - 1 + exN s + 1 - exN s = o by omega, run_again hv h, Option.bind_some, masked_b k (by omega), Option.bind_some, if_pos rfl, if_pos rfl, if_pos rfl, is_run hv ⟨s, o, t, h⟩ k (by omega)]
    rfl
  · rw [encode_none hv hm k (by omega), Option.bind_some, if_neg (by simp), masked_b k (by omega), Option.bind_some, if_pos rfl, is_none hv hm k (by omega)]
    rfl
theorem MaskBack : cleatlaw02_MaskBack.Pure := by
  intro n r s v _ _ _ hw
  refine ⟨400, ?_⟩
  have h := wf_u64 hw
  obtain ⟨v, rfl⟩ := Int.eq_ofNat_of_zero_le h.1
  have hv : v < 18446744073709551616 := by omega
  have hj := back_j0 400 (by omega) v hv
  unfold cleatlaw02_MaskBack.f
  by_cases hb : n < 0 ∨ n > 1 ∨ r < 0 ∨ r > 63 ∨ s < 0 ∨ s > 63
  · rw [dec_bad 400 (by omega) n r s hb, Option.bind_some, if_neg (by simp)]
    exact hj
  · obtain ⟨n, rfl⟩ := Int.eq_ofNat_of_zero_le (show 0 ≤ n by omega)
    obtain ⟨r, rfl⟩ := Int.eq_ofNat_of_zero_le (show 0 ≤ r by omega)
    obtain ⟨s, rfl⟩ := Int.eq_ofNat_of_zero_le (show 0 ≤ s by omega)
    rw [dec_go (show n ≤ 1 by omega) (show r ≤ 63 by omega) (show s ≤ 63 by omega) 400 (by omega)]
    by_cases hz : firstZ n r s = 0
    · rw [if_pos hz, Option.bind_some, if_neg (by simp)]
      exact hj
    · obtain ⟨hs, h1, h2, h3, h4⟩ := firstZ_dc hz
      have hr := again_run (o := s + 1 - exN (firstZ n r s)) hs (by omega) (by omega) h4
      have hlt := againN_lt (rotN (2 ^ (s + 1 - exN (firstZ n r s)) - 1) r (firstZ n r s)) (firstZ n r s)
      have hl := hs.le
      have hn : nN (firstZ n r s) = n := by
        unfold nN
        split
        · rename_i e; have := h1.1 e; omega
        · rename_i e
          have : n ≠ 1 := fun e2 => e (h1.2 e2)
          omega
      rw [if_neg hz, Option.bind_some, if_pos rfl, encode_run hlt hr 400 (by omega), Option.bind_some, if_pos rfl, hn, if_pos rfl, if_pos rfl]
      dsimp only
      rw [if_pos (by omega), is_run hlt ⟨_, _, _, hr⟩ 400 (by omega), Option.bind_some, if_pos rfl]
      exact hj
end Go.Proofs.Yteachdhnoakgeaa.Pure
