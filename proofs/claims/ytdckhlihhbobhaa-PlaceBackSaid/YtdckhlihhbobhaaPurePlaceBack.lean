/- As far as one place is from another one, it is back, and a place that is so far away, of 64 bits, is it. No conditions. -/
import Derived.Test.YtdckhlihhbobhaaPl
import Derived.Test.YtdckhlihhbobhaaPx4
import Derived.Test.YtdckhlihhbobhaaPx9
namespace Go.Proofs.Ytdckhlihhbobhaa.Pure
open Go.RowKit Go.Proofs.Ytdckhlihhbobhaa.P Go.Proofs.Ytdckhlihhbobhaa.K Go.Proofs.Ytdckhlihhbobhaa.Pl Go.Proofs.YtdckhlihhbobhaaW.PrintWords Go.Proofs.YtdckhlihhbobhaaW.PrintLast Go.Proofs.YtdckhlihhbobhaaW.PrintMore
set_option linter.unusedVariables false
set_option linter.unusedSimpArgs false
theorem back_near (a b r : Int) (ha : 0 ≤ a ∧ a < 18446744073709551616) (hb : 0 ≤ b ∧ b < 18446744073709551616) (hr : 4 ≤ r ∧ r ≤ 1000000000) :
    place_Near.f a b r = some (decide ((b - a) % 18446744073709551616 ≤ r - 4 ∨ (a - b) % 18446744073709551616 ≤ r)) := by
  unfold place_Near.f place_Far.f
  simp only [Option.bind_some]
  rw [if_pos (by omega), wu64]
  by_cases h : wrap64 ((b - a) % 18446744073709551616) ≥ wrap64 (-r)
  · rw [if_pos h]
    congr 1
    rw [decide_eq_decide]
    unfold wrap64 at *
    omega
  · rw [if_neg h]
    congr 1
    symm
    rw [decide_eq_false_iff_not]
    unfold wrap64 at h
    omega
theorem PlaceBack : cleatlaw24_PlaceBack.Pure := by
  intro a b r ha hb hr
  replace ha := wf_u64 ha
  replace hb := wf_u64 hb
  replace hr := wf_i64 hr
  refine ⟨40, ?_⟩
  unfold cleatlaw24_PlaceBack.f
  rw [show place_Far.f a b = some (wrap64 (IntKind.u64.wrap (b - a))) from rfl, show place_Far.f b a = some (wrap64 (IntKind.u64.wrap (a - b))) from rfl]
  simp only [Option.bind_some]
  rw [if_pos (by simp only [wu64]; unfold wrap64; omega)]
  rw [show (IntKind.u64.wrap (b + IntKind.u64.wrap (wrap64 (IntKind.u64.wrap (a - b)))) != a) = false by
    rw [bne_eq_false_iff_eq]; simp only [wu64]; unfold wrap64; omega]
  simp only [cleatlaw24_PlaceBack.j0]
  rw [if_neg (by simp)]
  have hj1 : r < 4 ∨ 1000000000 < r → cleatlaw24_PlaceBack.j1 39 a b r true = some true := by
    intro h
    simp only [cleatlaw24_PlaceBack.j1]
    rw [if_pos trivial, laid_t 38 (by omega)]
    simp only [Option.bind_some]
    rw [if_pos trivial]
    by_cases h0 : r ≥ 0
    · rw [if_pos h0]
    · rw [if_neg h0]
      unfold place_Near.f place_Far.f
      simp only [Option.bind_some]
      rw [if_neg h0]
      rfl
  by_cases h : r < 4
  · rw [if_pos h]
    exact hj1 (Or.inl h)
  · rw [if_neg h]
    by_cases h2 : r > 1000000000
    · rw [decide_eq_true h2]
      exact hj1 (Or.inr h2)
    · rw [decide_eq_false h2]
      simp only [cleatlaw24_PlaceBack.j1]
      rw [if_neg (by simp), laid_t 38 (by omega)]
      simp only [Option.bind_some]
      rw [if_pos trivial, back_near a b r ha hb ⟨by omega, by omega⟩]
      simp only [Option.bind_some]
      have e1 : IntKind.u64.wrap (IntKind.u64.wrap r - 4) = r - 4 := by simp only [wu64]; omega
      have e2 : IntKind.u64.wrap r = r := by simp only [wu64]; omega
      rw [e1, e2, wu64, wu64]
      by_cases h3 : (b - a) % 18446744073709551616 ≤ r - 4
      · rw [if_pos h3, decide_eq_true (Or.inl h3)]
        rfl
      · rw [if_neg h3]
        by_cases h4 : (a - b) % 18446744073709551616 ≤ r
        · rw [decide_eq_true (Or.inr h4), decide_eq_true h4]; rfl
        · rw [decide_eq_false (by omega), decide_eq_false h4]; rfl
end Go.Proofs.Ytdckhlihhbobhaa.Pure
