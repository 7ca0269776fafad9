/- What is found is of the number and on the side asked for, and none of it stands between: the plain half. No conditions. -/
import Derived.Test.YtmolcgkahhdkgaaDoorQLocalNear
import Derived.Test.YtmolcgkahhdkgaaDoorLc1
import Derived.Test.YtmolcgkahhdkgaaDoorPx11
namespace Go.Proofs.YtmolcgkahhdkgaaDoor.Pure
open Go.Lib Go.RowKit Go.Proofs.YtmolcgkahhdkgaaDoor.P Go.Proofs.YtmolcgkahhdkgaaDoor.Q Go.Proofs.YtmolcgkahhdkgaaDoorW.PrintWords Go.Proofs.YtmolcgkahhdkgaaDoorW.PrintLast Go.Proofs.YtmolcgkahhdkgaaDoorW.PrintMore
set_option linter.unusedVariables false
theorem near_loop (l : List Mk) (no line : Int) (up : Bool) (x9 : Int) (x10 : Bool) (hl : l.length ≤ 40)
  (hside : ∀ (i : Nat) (m : Mk), l[i]? = some m → m.f0 = no → (decide (m.f1 > line) == up) = true → x10 = true ∧ (up = true → ¬ ((i : Int) < x9)) ∧ (up = false → ¬ ((i : Int) > x9)))
  (hend : x10 = true → ∃ (j : Nat) (m : Mk), x9 = j ∧ l[j]? = some m ∧ m.f0 = no ∧ (decide (m.f1 > line) == up) = true) :
  ∀ (d k i : Nat), l.length - i = d → d < k → i ≤ l.length → cleatlaw14_LocalNear.l0 k l no up line x9 x10 (i : Int) = some true := by
 intro d
 induction d with
 | zero =>
  intro k i h1 h2 h3
  obtain ⟨k, rfl⟩ : ∃ m, k = m + 1 := ⟨k - 1, by omega⟩
  simp only [cleatlaw14_LocalNear.l0]
  rw [if_neg (by omega)]
  show (some true).bind _ = _
  rw [Option.bind_some, if_pos rfl]
  by_cases hx : x10 = true
  ·obtain ⟨j, m, rfl, hm, h4, h5⟩ := hend hx
   have hj : j < l.length := (List.getElem?_eq_some_iff.1 hm).1
   have hr : rd_T38 l (j : Int) = m := by
    rw [marks_at hj]
    exact (List.getElem?_eq_some_iff.1 hm).2
   rw [if_pos hx, if_pos (by omega), if_pos (by omega), if_pos (by omega), hr, if_pos h4, h5]
  ·rw [if_neg hx]
 | succ d ih =>
  intro k i h1 h2 h3
  obtain ⟨k, rfl⟩ : ∃ m, k = m + 1 := ⟨k - 1, by omega⟩
  have hi : i < l.length := by omega
  have hw : wrap64 ((i : Int) + 1) = ((i + 1 : Nat) : Int) := by unfold wrap64; omega
  have hx := ih k (i + 1) (by omega) (by omega) (by omega)
  have hm : l[i]? = some (rd_T38 l (i : Int)) := by rw [marks_at hi]; exact List.getElem?_eq_getElem hi
  have hs := hside i _ hm
  simp only [cleatlaw14_LocalNear.l0]
  rw [if_pos (by omega), if_pos (by omega), hw, hx]
  generalize rd_T38 l (i : Int) = m at *
  by_cases g1 : m.f0 = no
  ·rw [if_pos g1]
   by_cases g2 : (decide (m.f1 > line) == up) = true
   ·obtain ⟨s1, s2, s3⟩ := hs g1 g2
    rw [if_pos g2, if_pos s1]
    cases up
    ·rw [if_neg (by decide), if_neg (s3 rfl)]
    ·rw [if_pos rfl, if_neg (s2 rfl)]
   ·rw [if_neg g2]
  ·rw [if_neg g1]
theorem LocalNear : cleatlaw14_LocalNear.Pure := by
 intro l0 a1 a2 a3 hlen hall h1 h3
 refine ⟨l0.length + 1, ?_⟩
 unfold cleatlaw14_LocalNear.f
 by_cases h40 : (l0.length : Int) > 40
 ·rw [if_pos h40]
 ·rw [if_neg h40, is_f l0 (by omega)]
  show (some (if isMarks l0 = true then findL l0 a1 a2 a3 else (0, false))).bind _ = _
  rw [Option.bind_some, Option.bind_some]
  cases hm : isMarks l0
  ·rfl
  ·rw [if_pos rfl, if_pos rfl]
   unfold isMarks at hm
   rw [Bool.and_eq_true] at hm
   rcases findL_spec l0 a1 a3 a2 hm.2 with ⟨e, h⟩ | ⟨j, m, hj, e, h4, h5, h6, h7⟩
   ·rw [e]
    exact near_loop l0 a1 a3 a2 0 false (by omega) (fun i m hi g1 g2 => absurd ⟨g1, g2⟩ (h i m hi)) (fun h => by cases h) l0.length _ 0 rfl (by omega) (Nat.zero_le _)
   ·rw [e]
    refine near_loop l0 a1 a3 a2 j true (by omega) (fun i m' hi g1 g2 => ⟨rfl, fun hu hlt => ?_, fun hu hlt => ?_⟩) (fun _ => ⟨j, m, rfl, hj, h4, h5⟩) l0.length _ 0 rfl (by omega) (Nat.zero_le _)
    ·exact h6 hu i m' (by omega) hi ⟨g1, g2⟩
    ·exact h7 hu i m' (by omega) hi ⟨g1, g2⟩
end Go.Proofs.YtmolcgkahhdkgaaDoor.Pure
