/- Of a label that stands on a line that line's own b is it, or one behind it there, and its f is another one: the plain half. No conditions. -/
import Derived.Test.YtmolcgkahhdkgaaDoorQLocalOwn
import Derived.Test.YtmolcgkahhdkgaaDoorLc1
import Derived.Test.YtmolcgkahhdkgaaDoorPx12
namespace Go.Proofs.YtmolcgkahhdkgaaDoor.Pure
open Go.Lib Go.RowKit Go.Proofs.YtmolcgkahhdkgaaDoor.P Go.Proofs.YtmolcgkahhdkgaaDoor.Q Go.Proofs.YtmolcgkahhdkgaaDoorW.PrintWords Go.Proofs.YtmolcgkahhdkgaaDoorW.PrintLast Go.Proofs.YtmolcgkahhdkgaaDoorW.PrintMore
set_option linter.unusedVariables false
theorem find_eq (l : List Mk) (hm : isMarks l = true) (no : Int) (up : Bool) (line : Int) : local_Find.f l no up line = some (findL l no up line) := by
 unfold local_Find.f; rw [if_pos hm]
theorem LocalOwn : cleatlaw14_LocalOwn.Pure := by
 intro l0 a1 hlen hall h1
 refine ⟨l0.length + 1, ?_⟩
 have ht : ∀ k, cleatlaw14_LocalOwn.j0 (k + 1) l0 a1 true = some true := fun k => by simp only [cleatlaw14_LocalOwn.j0]; rfl
 unfold cleatlaw14_LocalOwn.f
 by_cases h40 : (l0.length : Int) > 40
 ·rw [if_pos h40, ht]
 rw [if_neg h40]
 by_cases h0 : a1 < 0
 ·rw [if_pos h0, ht]
 rw [if_neg h0]
 by_cases hl : a1 ≥ (l0.length : Int)
 ·rw [if_pos hl, ht]
 rw [if_neg hl, is_f l0 (by omega), Option.bind_some]
 cases hm : isMarks l0
 ·exact ht _
 ·obtain ⟨n, rfl⟩ := Int.eq_ofNat_of_zero_le (by omega : 0 ≤ a1)
  have hn : n < l0.length := by omega
  have hM : rd_T38 l0 (n : Int) = l0[n]'hn := marks_at hn
  have hnm : l0[n]? = some (rd_T38 l0 (n : Int)) := by rw [hM]; exact List.getElem?_eq_getElem hn
  generalize rd_T38 l0 (n : Int) = m at *
  have hs : linesUp 1 l0 = true := by unfold isMarks at hm; rw [Bool.and_eq_true] at hm; exact hm.2
  obtain ⟨j, q, hj, ej, hq0, hq1, _, hqd⟩ := (findL_spec l0 m.f0 m.f1 false hs).resolve_left (fun h => h.2 n m hnm ⟨rfl, by simp⟩)
  have hq1 : q.f1 ≤ m.f1 := by simpa using hq1
  have hnj : n ≤ j := by
   rcases Nat.lt_or_ge j n with h | h
   ·exact absurd ⟨rfl, by simp⟩ (hqd rfl n m h hnm)
   ·exact h
  have hq2 : q.f1 = m.f1 := by have := linesUp_le l0 1 n j m q hs hnj hnm hj; omega
  have hjl : j < l0.length := (List.getElem?_eq_some_iff.1 hj).1
  have hQ : rd_T38 l0 (j : Int) = q := by rw [marks_at hjl]; exact (List.getElem?_eq_some_iff.1 hj).2
  have hr : rd_T38 l0 (n : Int) = m := by rw [marks_at hn]; exact (List.getElem?_eq_some_iff.1 hnm).2
  show cleatlaw14_LocalOwn.j0 (l0.length + 1) l0 (n : Int) false = some true
  simp only [cleatlaw14_LocalOwn.j0]
  rw [if_neg (by decide), if_pos (by omega), if_pos (by omega), hr, find_eq l0 hm, ej, Option.bind_some, find_eq l0 hm]
  have hlb : cleatlaw14_labeled.f = some true := rfl
  rcases findL_spec l0 m.f0 m.f1 true hs with ⟨eu, _⟩ | ⟨k, u, hk, eu, hu0, hu1, _, _⟩
  ·rw [eu, hlb, Option.bind_some, Option.bind_some, if_pos rfl, if_pos rfl, if_pos (by omega), if_pos (by omega), if_pos (by omega), hQ, if_pos hq2, if_neg (by decide)]
  ·have hu1 : m.f1 < u.f1 := by simpa using hu1
   have hkl : k < l0.length := (List.getElem?_eq_some_iff.1 hk).1
   have hU : rd_T38 l0 (k : Int) = u := by rw [marks_at hkl]; exact (List.getElem?_eq_some_iff.1 hk).2
   have hjk : j < k := by
    rcases Nat.lt_or_ge j k with h | h
    ·exact h
    ·have := linesUp_le l0 1 k j u q hs h hk hj
     omega
   rw [eu, hlb, Option.bind_some, Option.bind_some, if_pos rfl, if_pos rfl, if_pos (by omega), if_pos (by omega), if_pos (by omega), hQ, if_pos hq2, if_pos rfl, if_pos (by omega), if_pos (by omega), if_pos (by omega), hU, decide_eq_true (by omega)]
end Go.Proofs.YtmolcgkahhdkgaaDoor.Pure
