/- Local labels: plain laws of what is found and of what is split off. -/
import Derived.Test.YtmolcgkahhdkgaaDoorPx8
import Derived.Test.YtmolcgkahhdkgaaDoorPx9
namespace Go.Proofs.YtmolcgkahhdkgaaDoor.P
open Go.Lib Go.RowKit Go.Proofs.YtmolcgkahhdkgaaDoorW.PrintWords Go.Proofs.YtmolcgkahhdkgaaDoorW.PrintLast Go.Proofs.YtmolcgkahhdkgaaDoorW.PrintMore
set_option linter.unusedVariables false
set_option linter.unusedSimpArgs false
abbrev Mk : Type := S38
theorem linesUp_ge : ∀ (l : List Mk) (p : Int) (i : Nat) (m : Mk), linesUp p l = true → l[i]? = some m → p ≤ m.f1
 | [], _, _, _, _, h => by simp at h
 | x :: l, p, i, m, h, hm => by
  rw [linesUp_cons, Bool.and_eq_true, decide_eq_true_eq] at h
  cases i with
  | zero => simp at hm; subst hm; exact h.1
  | succ i =>
   have := linesUp_ge l x.f1 i m h.2 (by simpa using hm)
   omega
theorem linesUp_le : ∀ (l : List Mk) (p : Int) (i j : Nat) (m n : Mk), linesUp p l = true → i ≤ j → l[i]? = some m → l[j]? = some n → m.f1 ≤ n.f1
 | [], _, _, _, _, _, _, _, h, _ => by simp at h
 | x :: l, p, i, j, m, n, h, hij, hm, hn => by
  rw [linesUp_cons, Bool.and_eq_true, decide_eq_true_eq] at h
  cases i with
  | zero =>
   simp at hm; subst hm
   cases j with
   | zero => simp at hn; subst hn; exact Int.le_refl _
   | succ j => exact linesUp_ge l x.f1 j n h.2 (by simpa using hn)
  | succ i =>
   cases j with
   | zero => omega
   | succ j => exact linesUp_le l x.f1 i j m n h.2 (by omega) (by simpa using hm) (by simpa using hn)
theorem findA_up (no line : Int) : ∀ (l : List Mk) (k a : Int),
  (findA no true line l k a = a ∧ ∀ (i : Nat) (m : Mk), l[i]? = some m → ¬ (m.f0 = no ∧ line < m.f1)) ∨
  (∃ (j : Nat) (m : Mk), l[j]? = some m ∧ findA no true line l k a = k + j ∧ m.f0 = no ∧ line < m.f1 ∧ ∀ (i : Nat) (m' : Mk), i < j → l[i]? = some m' → ¬ (m'.f0 = no ∧ line < m'.f1))
 | [], k, a => Or.inl ⟨rfl, fun i m h => by simp at h⟩
 | x :: l, k, a => by
  rw [findA]
  by_cases h1 : x.f0 = no
  ·rw [if_neg (not_not_intro h1)]
   by_cases h2 : x.f1 ≤ line
   ·rw [if_pos h2]
    simp only [if_true]
    rcases findA_up no line l (k + 1) a with ⟨e, h⟩ | ⟨j, m, hm, e, h3, h4, h5⟩
    ·refine Or.inl ⟨e, fun i m hm => ?_⟩
     cases i with
     | zero => simp at hm; subst hm; omega
     | succ i => exact h i m (by simpa using hm)
    ·refine Or.inr ⟨j + 1, m, by simpa using hm, by rw [e]; omega, h3, h4, fun i m' hi hm' => ?_⟩
     cases i with
     | zero => simp at hm'; subst hm'; omega
     | succ i => exact h5 i m' (by omega) (by simpa using hm')
   ·rw [if_neg h2]
    exact Or.inr ⟨0, x, rfl, by simp, h1, by omega, fun i m' hi => absurd hi (Nat.not_lt_zero _)⟩
  ·rw [if_pos h1]
   rcases findA_up no line l (k + 1) a with ⟨e, h⟩ | ⟨j, m, hm, e, h3, h4, h5⟩
   ·refine Or.inl ⟨e, fun i m hm => ?_⟩
    cases i with
    | zero => simp at hm; subst hm; exact fun hh => h1 hh.1
    | succ i => exact h i m (by simpa using hm)
   ·refine Or.inr ⟨j + 1, m, by simpa using hm, by rw [e]; omega, h3, h4, fun i m' hi hm' => ?_⟩
    cases i with
    | zero => simp at hm'; subst hm'; exact fun hh => h1 hh.1
    | succ i => exact h5 i m' (by omega) (by simpa using hm')
theorem findA_down (no line : Int) : ∀ (l : List Mk) (p k a : Int), linesUp p l = true →
  (findA no false line l k a = a ∧ ∀ (i : Nat) (m : Mk), l[i]? = some m → ¬ (m.f0 = no ∧ m.f1 ≤ line)) ∨
  (∃ (j : Nat) (m : Mk), l[j]? = some m ∧ findA no false line l k a = k + j ∧ m.f0 = no ∧ m.f1 ≤ line ∧ ∀ (i : Nat) (m' : Mk), j < i → l[i]? = some m' → ¬ (m'.f0 = no ∧ m'.f1 ≤ line))
 | [], p, k, a, _ => Or.inl ⟨rfl, fun i m h => by simp at h⟩
 | x :: l, p, k, a, hs => by
  have hs2 := hs
  rw [linesUp_cons, Bool.and_eq_true, decide_eq_true_eq] at hs2
  rw [findA]
  by_cases h1 : x.f0 = no
  ·rw [if_neg (not_not_intro h1)]
   by_cases h2 : x.f1 ≤ line
   ·rw [if_pos h2]
    simp only [Bool.false_eq_true, if_false]
    rcases findA_down no line l x.f1 (k + 1) k hs2.2 with ⟨e, h⟩ | ⟨j, m, hm, e, h3, h4, h5⟩
    ·refine Or.inr ⟨0, x, rfl, by rw [e]; simp, h1, h2, fun i m' hi hm' => ?_⟩
     cases i with
     | zero => omega
     | succ i => exact h i m' (by simpa using hm')
    ·refine Or.inr ⟨j + 1, m, by simpa using hm, by rw [e]; omega, h3, h4, fun i m' hi hm' => ?_⟩
     cases i with
     | zero => omega
     | succ i => exact h5 i m' (by omega) (by simpa using hm')
   ·rw [if_neg h2]
    simp only [Bool.false_eq_true, if_false]
    refine Or.inl ⟨by trivial, fun i m hm => ?_⟩
    have := linesUp_le (x :: l) p 0 i x m hs (Nat.zero_le _) rfl hm
    omega
  ·rw [if_pos h1]
   rcases findA_down no line l x.f1 (k + 1) a hs2.2 with ⟨e, h⟩ | ⟨j, m, hm, e, h3, h4, h5⟩
   ·refine Or.inl ⟨e, fun i m hm => ?_⟩
    cases i with
    | zero => simp at hm; subst hm; exact fun hh => h1 hh.1
    | succ i => exact h i m (by simpa using hm)
   ·refine Or.inr ⟨j + 1, m, by simpa using hm, by rw [e]; omega, h3, h4, fun i m' hi hm' => ?_⟩
    cases i with
    | zero => omega
    | succ i => exact h5 i m' (by omega) (by simpa using hm')
/-- What is found, told once for both sides. -/
theorem findL_spec (l : List Mk) (no line : Int) (up : Bool) (hs : linesUp 1 l = true) :
  (findL l no up line = (0, false) ∧ ∀ (i : Nat) (m : Mk), l[i]? = some m → ¬ (m.f0 = no ∧ (decide (m.f1 > line) == up) = true)) ∨
  (∃ (j : Nat) (m : Mk), l[j]? = some m ∧ findL l no up line = ((j : Int), true) ∧ m.f0 = no ∧ (decide (m.f1 > line) == up) = true ∧
   (up = true → ∀ (i : Nat) (m' : Mk), i < j → l[i]? = some m' → ¬ (m'.f0 = no ∧ (decide (m'.f1 > line) == up) = true)) ∧
   (up = false → ∀ (i : Nat) (m' : Mk), j < i → l[i]? = some m' → ¬ (m'.f0 = no ∧ (decide (m'.f1 > line) == up) = true))) := by
 unfold findL
 cases up
 ·have conv : ∀ m : Mk, ((decide (m.f1 > line) == false) = true ↔ m.f1 ≤ line) := fun m => by simp
  simp only [conv]
  rcases findA_down no line l 1 0 (-1) hs with ⟨e, h⟩ | ⟨j, m, hm, e, h3, h4, h5⟩
  ·rw [e]
   exact Or.inl ⟨(by first | rfl | trivial | simp), h⟩
  ·rw [e, Int.zero_add, if_neg (by omega)]
   exact Or.inr ⟨j, m, hm, rfl, h3, h4, (fun h => by cases h), (fun _ => h5)⟩
 ·have conv : ∀ m : Mk, ((decide (m.f1 > line) == true) = true ↔ line < m.f1) := fun m => by simp
  simp only [conv]
  rcases findA_up no line l 0 (-1) with ⟨e, h⟩ | ⟨j, m, hm, e, h3, h4, h5⟩
  ·rw [e]
   exact Or.inl ⟨(by first | rfl | trivial | simp), h⟩
  ·rw [e, Int.zero_add, if_neg (by omega)]
   exact Or.inr ⟨j, m, hm, rfl, h3, h4, (fun _ => h5), (fun h => by cases h)⟩
/-! ### what is split off -/
theorem splitA_parts : ∀ (n : Nat) (l : List S30), l.length ≤ n →
  (∀ T, splitA l T = ([], [], 3)) ∨ (∃ (a : List ByteArray) (x : List S30), (∀ T, splitA l T = (T ++ a, x, 0)) ∧ 2 * a.length + x.length = l.length ∧ l.drop (2 * a.length) = x ∧
   (∀ i, i < a.length → ∃ t c, l[2 * i]? = some t ∧ l[2 * i + 1]? = some c ∧ a[i]? = some t.f1 ∧ c.f1.toList = [58]) ∧ (∀ T, splitA x T = (T, x, 0)))
 | 0, l, h => by
  obtain rfl : l = [] := List.eq_nil_of_length_eq_zero (by omega)
  exact Or.inr ⟨[], [], fun T => by rw [List.append_nil]; rfl, rfl, rfl, fun i hi => absurd hi (Nat.not_lt_zero _), fun T => rfl⟩
 | n + 1, l, h => by
  by_cases hs : l.length < 2
  ·exact Or.inr ⟨[], l, fun T => by rw [List.append_nil]; exact splitA_short hs, by simp, rfl, fun i hi => absurd hi (Nat.not_lt_zero _), fun T => splitA_short hs⟩
  ·obtain ⟨t, c, r, rfl⟩ : ∃ t c r, l = t :: c :: r := by
    match l, hs with
    | [], h => simp at h
    | [_], h => simp at h
    | t :: c :: r, _ => exact ⟨t, c, r, rfl⟩
   cases hb : headB t c
   ·exact Or.inr ⟨[], t :: c :: r, fun T => by rw [List.append_nil]; exact splitA_stop hb, by simp, rfl, fun i hi => absurd hi (Nat.not_lt_zero _), fun T => splitA_stop hb⟩
   ·cases hl : labT t
    ·exact Or.inl (fun T => splitA_bad hb hl)
    ·rcases splitA_parts n r (by simp at h; omega) with e | ⟨a, x, e, h1, h2, h3, h4⟩
     ·exact Or.inl (fun T => by rw [splitA_more hb hl]; exact e _)
     ·refine Or.inr ⟨t.f1 :: a, x, fun T => by rw [splitA_more hb hl, e]; simp, by simp; omega, ?_, fun i hi => ?_, h4⟩
      ·rw [show 2 * (t.f1 :: a).length = 2 * a.length + 2 by simp; omega]
       exact h2
      ·cases i with
       | zero =>
        refine ⟨t, c, rfl, rfl, rfl, ?_⟩
        unfold headB at hb
        rw [Bool.and_eq_true, beq_iff_eq] at hb
        exact hb.2
       | succ i =>
        obtain ⟨t', c', g1, g2, g3, g4⟩ := h3 i (by simp at hi; omega)
        refine ⟨t', c', ?_, ?_, by simpa using g3, g4⟩
        ·rw [show 2 * (i + 1) = 2 * i + 2 by omega]; simpa using g1
        ·rw [show 2 * (i + 1) + 1 = (2 * i + 1) + 2 by omega]; simpa using g2
end Go.Proofs.YtmolcgkahhdkgaaDoor.P
