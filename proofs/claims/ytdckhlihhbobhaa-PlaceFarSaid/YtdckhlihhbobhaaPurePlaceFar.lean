/- How far it is to a place, and whether that is near, is as the reference says, for every two numbers of 64 bits and every reach. No conditions. -/
import Derived.Test.YtdckhlihhbobhaaPl
import Derived.Test.YtdckhlihhbobhaaPx4
import Derived.Test.YtdckhlihhbobhaaPx8
namespace Go.Proofs.Ytdckhlihhbobhaa.Pure
open Go.RowKit Go.Proofs.Ytdckhlihhbobhaa.P Go.Proofs.Ytdckhlihhbobhaa.K Go.Proofs.Ytdckhlihhbobhaa.Pl Go.Proofs.YtdckhlihhbobhaaW.PrintWords Go.Proofs.YtdckhlihhbobhaaW.PrintLast Go.Proofs.YtdckhlihhbobhaaW.PrintMore
set_option linter.unusedVariables false
set_option linter.unusedSimpArgs false
theorem far_same (a b : Int) : cleatref24_Far.f a b = place_Far.f a b := by
  unfold cleatref24_Far.f place_Far.f
  simp only [wu64]
  split <;> first | rfl | (congr 1; unfold wrap64; omega)
theorem near_same (a b r : Int) : ∃ v, cleatref24_Near.f a b r = some v ∧ place_Near.f a b r = some v := by
  unfold cleatref24_Near.f place_Near.f
  rw [far_same]
  unfold place_Far.f
  simp only [Option.bind_some]
  by_cases h : r < 0
  · rw [if_pos h, if_neg (show ¬ (r ≥ 0) by omega)]
    exact ⟨_, rfl, rfl⟩
  · rw [if_neg h, if_pos (show r ≥ 0 by omega)]
    split <;> exact ⟨_, rfl, rfl⟩
theorem PlaceFar : cleatlaw24_PlaceFar.Pure := by
  intro a b r ha hb hr
  refine ⟨30, ?_⟩
  unfold cleatlaw24_PlaceFar.f
  obtain ⟨v, h1, h2⟩ := near_same a b r
  rw [laid_t 30 (by omega), far_same, h1, h2]
  unfold place_Far.f
  simp
end Go.Proofs.Ytdckhlihhbobhaa.Pure
