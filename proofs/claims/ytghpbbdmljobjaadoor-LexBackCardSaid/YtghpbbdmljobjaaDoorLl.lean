/- Laws of the lexer, in plain Lean: no program in it. -/
import Derived.Test.YtghpbbdmljobjaaDoorLu
namespace Go.Proofs.YtghpbbdmljobjaaDoor.P
open Go.Lib
theorem lnL_step' (f : Nat) (l : List Int) : lineL (f + 1) l = if lineEnd (l.dropWhile isWht) then some [] else (match tokL (l.dropWhile isWht) with | none => none | some (t, r) => (match lineL f r with | none => none | some ts => some (t :: ts))) := rfl
theorem lnL_fuel : ∀ (f1 f2 : Nat) (l : List Int), l.length < f1 → l.length < f2 → lineL f1 l = lineL f2 l
  | 0, _, _, h, _ => absurd h (Nat.not_lt_zero _)
  | _, 0, _, _, h => absurd h (Nat.not_lt_zero _)
  | f1 + 1, f2 + 1, l, h1, h2 => by
    rw [lnL_step', lnL_step']
    split
    · rfl
    · cases ht : tokL (l.dropWhile isWht) with
      | none => rfl
      | some p =>
        obtain ⟨t, r⟩ := p
        have h3 := tokL_len ht
        have h4 := dropWhile_len (p := isWht) l
        simp only
        rw [lnL_fuel f1 f2 r (by omega) (by omega)]
theorem lnL_step (f : Nat) (l : List Int) (h : l.length < f) : lineL f l = if lineEnd (l.dropWhile isWht) then some [] else (match tokL (l.dropWhile isWht) with | none => none | some (t, r) => (lineL f r).map (t :: ·)) := by
  obtain ⟨f, rfl⟩ : ∃ g, f = g + 1 := ⟨f - 1, by omega⟩
  rw [lnL_step']
  split
  · rfl
  · cases ht : tokL (l.dropWhile isWht) with
    | none => rfl
    | some p =>
      obtain ⟨t, r⟩ := p
      have h3 := tokL_len ht
      have h4 := dropWhile_len (p := isWht) l
      simp only
      rw [lnL_fuel f (f + 1) r (by omega) (by omega)]
      cases lineL (f + 1) r <;> rfl
/-! ### more behind it -/
theorem oneL_ext {q : Int} {l : List Int} {v : Int} {r : List Int} (X : List Int) (h : oneL q l = some (v, r)) : oneL q (l ++ X) = some (v, r ++ X) := by
  cases l with
  | nil => cases h
  | cons x l =>
    rw [oneL_cons] at h
    rw [List.cons_append, oneL_cons]
    by_cases c : x = q ∨ x < 32
    · rw [if_pos c] at h; cases h
    · rw [if_neg c] at h ⊢
      by_cases c2 : x = 92
      · rw [if_pos c2] at h ⊢
        cases l with
        | nil => cases h
        | cons e l' =>
          simp only [List.cons_append] at h ⊢
          cases he : escO e with
          | none => rw [he] at h; cases h
          | some y => rw [he] at h; cases h; rfl
      · rw [if_neg c2] at h ⊢
        cases h
        rfl
theorem head_ext {l : List Int} (X : List Int) (h : l ≠ []) : (l ++ X).head? = l.head? := by
  cases l with
  | nil => exact absurd rfl h
  | cons x l => rfl
theorem textL_ext : ∀ (f f' : Nat) {l a r : List Int} (X : List Int), f ≤ f' → textL f l = some (a, r) → textL f' (l ++ X) = some (a, r ++ X)
  | 0, _, _, _, _, _, _, h => by cases h
  | f + 1, 0, _, _, _, _, hf, _ => absurd hf (by omega)
  | f + 1, f' + 1, l, a, r, X, hf, h => by
    have hl : l ≠ [] := by rintro rfl; cases h
    unfold textL at h ⊢
    rw [head_ext X hl]
    by_cases c : l.head? = some 34
    · rw [if_pos c] at h ⊢
      cases h
      cases l with
      | nil => exact absurd rfl hl
      | cons x l => rfl
    · rw [if_neg c] at h ⊢
      cases ho : oneL 34 l with
      | none => rw [ho] at h; cases h
      | some p =>
        obtain ⟨v, r1⟩ := p
        rw [ho] at h
        rw [oneL_ext X ho]
        simp only at h ⊢
        cases ht : textL f r1 with
        | none => rw [ht] at h; cases h
        | some p2 =>
          obtain ⟨a2, r2⟩ := p2
          rw [ht] at h
          rw [textL_ext f f' X (by omega) ht]
          cases h
          rfl
theorem charL_ext {l : List Int} {v : Int} {r : List Int} (X : List Int) (h : charL l = some (v, r)) : charL (l ++ X) = some (v, r ++ X) := by
  unfold charL at h ⊢
  cases ho : oneL 39 l with
  | none => rw [ho] at h; cases h
  | some p =>
    obtain ⟨v1, r1⟩ := p
    rw [ho] at h
    rw [oneL_ext X ho]
    simp only at h ⊢
    by_cases c : r1.head? = some 39
    · rw [if_pos c] at h
      have hl : r1 ≠ [] := by rintro rfl; cases c
      rw [head_ext X hl, if_pos c]
      cases h
      cases r1 with
      | nil => exact absurd rfl hl
      | cons x l => rfl
    · rw [if_neg c] at h; cases h
theorem tw_ext {p : Int → Bool} {w : Int} (hw : p w = false) (X : List Int) : ∀ l : List Int, (l ++ w :: X).takeWhile p = l.takeWhile p ∧ (l ++ w :: X).dropWhile p = l.dropWhile p ++ w :: X
  | [] => by rw [List.nil_append, List.takeWhile_cons, List.dropWhile_cons, hw]; exact ⟨rfl, rfl⟩
  | x :: l => by
    have ih := tw_ext hw X l
    rw [List.cons_append, List.takeWhile_cons, List.dropWhile_cons, List.takeWhile_cons, List.dropWhile_cons]
    cases p x
    · exact ⟨rfl, rfl⟩
    · exact ⟨by rw [if_pos rfl, if_pos rfl, ih.1], by rw [if_pos rfl, if_pos rfl, ih.2]⟩
theorem tokL_ext {l : List Int} {t : Int × List UInt8 × Int} {r : List Int} {w : Int} (hw : isLD w = false) (X : List Int) (h : tokL l = some (t, r)) : tokL (l ++ w :: X) = some (t, r ++ w :: X) := by
  cases l with
  | nil => cases h
  | cons v l =>
    have e := tw_ext hw X (v :: l)
    rw [List.cons_append] at e ⊢
    rw [tokL_cons] at h ⊢
    rw [e.1, e.2]
    by_cases c1 : isLet v = true
    · rw [if_pos c1] at h ⊢
      cases h
      rfl
    · rw [if_neg c1] at h ⊢
      by_cases c2 : isDig v = true
      · rw [if_pos c2] at h ⊢
        cases h
        rfl
      · rw [if_neg c2] at h ⊢
        by_cases c3 : v = 34
        · rw [if_pos c3] at h ⊢
          cases ht : textL (l.length + 1) l with
          | none => rw [ht] at h; cases h
          | some p =>
            obtain ⟨a, r1⟩ := p
            rw [ht] at h
            rw [textL_ext _ _ (w :: X) (by simp) ht]
            cases h
            rfl
        · rw [if_neg c3] at h ⊢
          by_cases c4 : v = 39
          · rw [if_pos c4] at h ⊢
            cases ht : charL l with
            | none => rw [ht] at h; cases h
            | some p =>
              obtain ⟨a, r1⟩ := p
              rw [ht] at h
              rw [charL_ext (w :: X) ht]
              cases h
              rfl
          · rw [if_neg c4] at h ⊢
            by_cases c5 : isSign v = true
            · rw [if_pos c5] at h ⊢
              cases h
              rfl
            · rw [if_neg c5] at h; cases h
/-! ### what is left is the end of what was there -/
theorem oneL_suf {q : Int} {l : List Int} {v : Int} {r : List Int} (h : oneL q l = some (v, r)) : r <:+ l := by
  cases l with
  | nil => cases h
  | cons x l =>
    rw [oneL_cons] at h
    split at h
    · cases h
    · split at h
      · cases l with
        | nil => cases h
        | cons e l' =>
          simp only at h
          cases he : escO e with
          | none => rw [he] at h; cases h
          | some y => rw [he] at h; cases h; exact (List.suffix_cons _ _).trans (List.suffix_cons _ _)
      · cases h
        exact List.suffix_cons _ _
theorem textL_suf : ∀ (f : Nat) {l a r : List Int}, textL f l = some (a, r) → r <:+ l
  | 0, _, _, _, h => by cases h
  | f + 1, l, a, r, h => by
    unfold textL at h
    split at h
    · cases h
      exact List.drop_suffix _ _
    · cases ho : oneL 34 l with
      | none => rw [ho] at h; cases h
      | some p =>
        obtain ⟨v, r1⟩ := p
        rw [ho] at h
        simp only at h
        cases ht : textL f r1 with
        | none => rw [ht] at h; cases h
        | some p2 =>
          obtain ⟨a2, r2⟩ := p2
          rw [ht] at h
          cases h
          exact (textL_suf f ht).trans (oneL_suf ho)
theorem charL_suf {l : List Int} {v : Int} {r : List Int} (h : charL l = some (v, r)) : r <:+ l := by
  unfold charL at h
  cases ho : oneL 39 l with
  | none => rw [ho] at h; cases h
  | some p =>
    obtain ⟨v1, r1⟩ := p
    rw [ho] at h
    simp only at h
    split at h
    · cases h
      exact (List.drop_suffix _ _).trans (oneL_suf ho)
    · cases h
theorem tokL_suf {l : List Int} {t : Int × List UInt8 × Int} {r : List Int} (h : tokL l = some (t, r)) : r <:+ l := by
  cases l with
  | nil => cases h
  | cons v l =>
    rw [tokL_cons] at h
    split at h
    · cases h
      exact List.dropWhile_suffix _
    · split at h
      · cases h
        exact List.dropWhile_suffix _
      · split at h
        · cases ht : textL (l.length + 1) l with
          | none => rw [ht] at h; cases h
          | some p =>
            obtain ⟨a, r1⟩ := p
            rw [ht] at h
            cases h
            exact (textL_suf _ ht).trans (List.suffix_cons _ _)
        · split at h
          · cases ht : charL l with
            | none => rw [ht] at h; cases h
            | some p =>
              obtain ⟨a, r1⟩ := p
              rw [ht] at h
              cases h
              exact (charL_suf ht).trans (List.suffix_cons _ _)
          · split at h
            · cases h
              exact List.suffix_cons _ _
            · cases h
theorem two_suf {r l : List Int} (h : r <:+ l) : (∃ A B, r = A ++ 47 :: 47 :: B) → ∃ A B, l = A ++ 47 :: 47 :: B := by
  rintro ⟨A, B, rfl⟩
  obtain ⟨p, rfl⟩ := h
  exact ⟨p ++ A, B, by simp⟩
theorem dw_white {p : Int → Bool} {w : Int} (hw : p w = true) (X : List Int) : ∀ l : List Int, l.dropWhile p = [] → (l ++ w :: X).dropWhile p = X.dropWhile p
  | [], _ => by rw [List.nil_append, List.dropWhile_cons, hw]; rfl
  | x :: l, h => by
    rw [List.dropWhile_cons] at h
    rw [List.cons_append, List.dropWhile_cons]
    cases hx : p x
    · rw [hx] at h; cases h
    · rw [hx] at h
      exact dw_white hw X l h
theorem dw_more {p : Int → Bool} (Y : List Int) : ∀ l : List Int, l.dropWhile p ≠ [] → (l ++ Y).dropWhile p = l.dropWhile p ++ Y
  | [], h => absurd rfl h
  | x :: l, h => by
    rw [List.dropWhile_cons] at h ⊢
    rw [List.cons_append, List.dropWhile_cons]
    cases hx : p x
    · rfl
    · rw [hx] at h
      exact dw_more Y l h
theorem wht_not {w : Int} (h : isWht w = true) : isLD w = false ∧ w ≠ 47 := by
  unfold isWht at h
  simp only [Bool.or_eq_true, beq_iff_eq] at h
  rcases h with (rfl | rfl) | rfl <;> exact ⟨rfl, by decide⟩
theorem ln_same (f : Nat) {l m : List Int} (h : l.dropWhile isWht = m.dropWhile isWht) (hl : l.length < f) (hm : m.length < f) : lineL f l = lineL f m := by rw [lnL_step f l hl, lnL_step f m hm, h]
theorem ln_white (f : Nat) {w : Int} (hw : isWht w = true) (X : List Int) (h : X.length + 1 < f) : lineL f (w :: X) = lineL f X := ln_same f (by rw [List.dropWhile_cons, hw]; rfl) (by simpa using h) (by omega)
/-- A line, white behind it, and more. -/
theorem ln_join {w : Int} (hw : isWht w = true) (X : List Int) (f : Nat) : ∀ (n : Nat) (R : List Int) (ts : List (Int × List UInt8 × Int)), R.length ≤ n → (R ++ w :: X).length < f → lineL f R = some ts →
    (lineL f (R ++ w :: X) = some ts ∧ ∃ A B, R = A ++ 47 :: 47 :: B) ∨ lineL f (R ++ w :: X) = (lineL f X).map (ts ++ ·)
  | n, R, ts, hn, hf, h => by
    have hl : R.length < f := by rw [List.length_append] at hf; omega
    have hX : X.length < f := by simp at hf; omega
    rw [lnL_step f R hl] at h
    cases hd : R.dropWhile isWht with
    | nil =>
      rw [hd] at h
      cases h
      refine Or.inr ?_
      rw [ln_same f (dw_white hw X R hd) hf hX]
      cases lineL f X <;> rfl
    | cons v D =>
      have hds : (v :: D) <:+ R := hd ▸ List.dropWhile_suffix _
      rw [hd] at h
      rw [lnL_step f _ hf, dw_more _ R (by rw [hd]; simp), hd]
      by_cases he : lineEnd (v :: D) = true
      · rw [if_pos he] at h
        cases h
        have h2 : v = 47 ∧ ∃ B, D = 47 :: B := by
          unfold lineEnd at he
          simp only [Bool.and_eq_true, decide_eq_true_eq] at he
          refine ⟨he.1, ?_⟩
          cases D with
          | nil => cases he.2
          | cons x D => simp at he; exact ⟨D, by rw [he.2]⟩
        obtain ⟨rfl, B, rfl⟩ := h2
        exact Or.inl ⟨rfl, two_suf hds ⟨[], B, rfl⟩⟩
      · rw [if_neg he] at h
        have he2 : lineEnd (v :: D ++ w :: X) = false := by
          rw [Bool.eq_false_iff]
          intro h3
          apply he
          unfold lineEnd at h3 ⊢
          simp only [List.cons_append, Bool.and_eq_true, decide_eq_true_eq] at h3 ⊢
          refine ⟨h3.1, ?_⟩
          cases D with
          | nil => simp at h3; exact absurd h3.2 (wht_not hw).2
          | cons x D => simpa using h3.2
        rw [he2]
        cases ht : tokL (v :: D) with
        | none => rw [ht] at h; cases h
        | some p =>
          obtain ⟨t, r⟩ := p
          have hlen := tokL_len ht
          have hsl := hds.length_le
          rw [ht] at h
          simp only [Option.map_eq_some_iff] at h
          obtain ⟨ts', h1, rfl⟩ := h
          rw [tokL_ext (wht_not hw).1 X ht]
          simp only [Bool.false_eq_true, if_false]
          cases n with
          | zero => omega
          | succ n =>
            have hrl : (r ++ w :: X).length < f := by rw [List.length_append, List.length_cons] at hf ⊢; omega
            rcases ln_join hw X f n r ts' (by omega) hrl h1 with ⟨h2, h3⟩ | h2
            · refine Or.inl ⟨by rw [h2]; rfl, two_suf ((tokL_suf ht).trans hds) h3⟩
            · refine Or.inr ?_
              rw [h2]
              cases lineL f X <;> rfl
end Go.Proofs.YtghpbbdmljobjaaDoor.P
