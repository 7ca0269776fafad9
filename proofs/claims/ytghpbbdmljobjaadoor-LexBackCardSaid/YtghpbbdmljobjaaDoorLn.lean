/- What a line answers, for texts put together: plain Lean. -/
import Derived.Test.YtghpbbdmljobjaaDoorLl
namespace Go.Proofs.YtghpbbdmljobjaaDoor.P
open Go.Lib
theorem runes_le (l : List UInt8) : (runesL l).length ≤ l.length := runesL_len _ l (Nat.le_refl _)
theorem lin_eq {l : List UInt8} (h : l.length ≤ 200) (hv : validD l = true) (f : Nat) (hf : (runesL l).length < f) : linB l = (match lineL f (runesL l) with | none => ([], 3) | some ts => (ts, 0)) := by
  unfold linB
  rw [if_neg (by omega), if_pos hv, lnL_fuel _ f _ (by have := runes_le l; omega) hf]
  rfl
theorem lin_bad {l : List UInt8} (h : l.length ≤ 200) (hv : validD l = false) : linB l = ([], 3) := by
  unfold linB
  rw [if_neg (by omega), hv]
  rfl
theorem lin_long {l : List UInt8} (h : 200 < l.length) : linB l = ([], 2) := by
  unfold linB
  rw [if_pos h]
theorem lin_ok {l : List UInt8} (h : (linB l).2 = 0) : l.length ≤ 200 ∧ validD l = true ∧ ∀ f, (runesL l).length < f → lineL f (runesL l) = some (linB l).1 := by
  by_cases h1 : 200 < l.length
  · rw [lin_long h1] at h; cases h
  · cases hv : validD l
    · rw [lin_bad (by omega) hv] at h; cases h
    · refine ⟨by omega, rfl, fun f hf => ?_⟩
      have e := lin_eq (by omega) hv f hf
      cases hl : lineL f (runesL l) with
      | none => rw [hl] at e; rw [e] at h; cases h
      | some ts => rw [hl] at e; rw [e]
theorem runes_cons {c : UInt8} (h : c.toNat < 128) (l : List UInt8) : runesL (c :: l) = (c.toNat : Int) :: runesL l := by
  rw [runesL_step _ (by simp), decodeL_ascii c l h]
  rfl
/-! ### LexComment -/
theorem comment_bad {s m : List UInt8} (hl : s.length + m.length ≤ 190) (hm : validD m = false) : linB (s ++ [32, 47, 47] ++ m) = ([], 3) := by
  refine lin_bad (by simp; omega) ?_
  rw [Bool.eq_false_iff]
  intro h
  have := valid_tail _ (s ++ [32, 47]) 47 m (Nat.le_refl _) (by decide) (by simpa using h)
  rw [this] at hm
  cases hm
theorem comment_ok {s m : List UInt8} (hl : s.length + m.length ≤ 190) (hm : validD m = true) (h : (linB s).2 = 0) : linB (s ++ [32, 47, 47] ++ m) = ((linB s).1, 0) := by
  obtain ⟨h1, h2, h3⟩ := lin_ok h
  have hv : validD (s ++ [32, 47, 47] ++ m) = true := by
    rw [List.append_assoc, valid_app h2]
    show validD (32 :: 47 :: 47 :: m) = true
    rw [validD_cons _ _ (by decide), validD_cons _ _ (by decide), validD_cons _ _ (by decide), hm]
  have hr : runesL (s ++ [32, 47, 47] ++ m) = runesL s ++ (32 : Int) :: 47 :: 47 :: runesL m := by
    rw [List.append_assoc, runes_app h2]
    show _ ++ runesL (32 :: 47 :: 47 :: m) = _
    rw [runes_cons (by decide), runes_cons (by decide), runes_cons (by decide)]
    rfl
  have hs := runes_le s
  have hml := runes_le m
  have e3 : lineL 1000 (runesL s) = some (linB s).1 := h3 1000 (by omega)
  have hx : lineL 1000 ((47 : Int) :: 47 :: runesL m) = some [] := by
    rw [lnL_step _ _ (by simp; omega)]
    rfl
  rw [lin_eq (by simp; omega) hv 1000 (by rw [hr]; simp; omega), hr]
  rcases ln_join (w := 32) rfl (47 :: 47 :: runesL m) 1000 _ (runesL s) (linB s).1 (Nat.le_refl _) (by simp; omega) e3 with ⟨h4, _⟩ | h4
  · rw [h4]
  · rw [h4, hx]
    simp
/-! ### LexJoins -/
theorem runes_two {s : List UInt8} (hv : validD s = true) (h : ∃ A B, runesL s = A ++ 47 :: 47 :: B) : ∃ a b, s = a ++ 47 :: 47 :: b := by
  obtain ⟨A, B, e⟩ := h
  have e2 := enc_runes _ s (Nat.le_refl _) hv
  rw [e, encL_append] at e2
  exact ⟨encL A, encL B, e2.symm⟩
theorem joins_ok {s t : List UInt8} (hl : s.length + t.length ≤ 190) (hs : (linB s).2 = 0) (ht : (linB t).2 = 0) (hn : ¬ ∃ a b, s = a ++ 47 :: 47 :: b) : linB ([32] ++ s ++ [32, 9, 13] ++ t) = ((linB s).1 ++ (linB t).1, 0) := by
  obtain ⟨h1, h2, h3⟩ := lin_ok hs
  obtain ⟨k1, k2, k3⟩ := lin_ok ht
  have el : [32] ++ s ++ [32, 9, 13] ++ t = 32 :: (s ++ 32 :: 9 :: 13 :: t) := by simp
  have hv : validD ([32] ++ s ++ [32, 9, 13] ++ t) = true := by
    rw [el, validD_cons _ _ (by decide), valid_app h2, validD_cons _ _ (by decide), validD_cons _ _ (by decide), validD_cons _ _ (by decide), k2]
  have hr : runesL ([32] ++ s ++ [32, 9, 13] ++ t) = (32 : Int) :: (runesL s ++ (32 : Int) :: 9 :: 13 :: runesL t) := by
    rw [el, runes_cons (by decide), runes_app h2, runes_cons (by decide), runes_cons (by decide), runes_cons (by decide)]
    rfl
  have h5 := runes_le s
  have h6 := runes_le t
  rw [lin_eq (by simp; omega) hv 1000 (by rw [hr]; simp; omega), hr, ln_white 1000 rfl _ (by simp; omega)]
  rcases ln_join (w := 32) rfl (9 :: 13 :: runesL t) 1000 _ (runesL s) (linB s).1 (Nat.le_refl _) (by simp; omega) (h3 1000 (by omega)) with ⟨_, h4⟩ | h4
  · exact absurd (runes_two h2 h4) hn
  · rw [h4, ln_white 1000 rfl _ (by simp; omega), ln_white 1000 rfl _ (by omega), k3 1000 (by omega)]
    rfl
/-! ### LexWord -/
theorem word_parts {s : List UInt8} (h : wordB s = true) : 0 < s.length ∧ s.length ≤ 31 ∧ (∀ c ∈ s, isLD c.toNat = true) ∧ isLet (s.headD 0).toNat = true := by
  unfold wordB at h
  simp only [Bool.and_eq_true, decide_eq_true_eq, List.all_eq_true] at h
  exact ⟨h.1.1.1, h.1.1.2, h.1.2, h.2⟩
theorem ld_asc {s : List UInt8} (h : ∀ c ∈ s, isLD c.toNat = true) : ∀ c ∈ s, c.toNat < 128 := fun c hc => by
  have h1 := h c hc
  by_cases h2 : c.toNat < 128
  · exact h2
  · have : isLD (c.toNat : Int) = false := by
      unfold isLD isLet isDig
      simp
      omega
    rw [this] at h1
    cases h1
theorem tw_all {p : Int → Bool} : ∀ l : List Int, (∀ x ∈ l, p x = true) → l.takeWhile p = l ∧ l.dropWhile p = []
  | [], _ => ⟨rfl, rfl⟩
  | x :: l, h => by
    have ih := tw_all l (fun y hy => h y (List.mem_cons_of_mem _ hy))
    rw [List.takeWhile_cons, List.dropWhile_cons, h x List.mem_cons_self, if_pos rfl, if_pos rfl, ih.1, ih.2]
    exact ⟨rfl, rfl⟩
theorem let_not {v : Int} (h : isLet v = true) : isWht v = false ∧ v ≠ 47 := by
  unfold isLet at h
  unfold isWht
  simp only [Bool.or_eq_true, Bool.and_eq_true, decide_eq_true_eq, beq_iff_eq] at h
  simp
  omega
theorem word_tok {s : List UInt8} (h0 : 0 < s.length) (h1 : ∀ c ∈ s, isLD c.toNat = true) (h2 : isLet (s.headD 0).toNat = true) : validD s = true ∧ tokL (runesL s) = some ((1, s, 0), []) ∧ (∃ v r, runesL s = v :: r ∧ isLet v = true) := by
  have ha := ld_asc h1
  have hv := valid_asc s ha
  have hr := runes_asc s ha
  have he := enc_runes _ s (Nat.le_refl _) hv
  refine ⟨hv, ?_, ?_⟩
  · have hall : ∀ x ∈ runesL s, isLD x = true := by
      rw [hr]
      intro x hx
      obtain ⟨c, hc, rfl⟩ := List.mem_map.1 hx
      exact h1 c hc
    have e := tw_all _ hall
    cases s with
    | nil => cases h0
    | cons c s =>
      rw [runes_cons (ha c List.mem_cons_self)] at e he ⊢
      rw [tokL_cons, if_pos (show isLet (c.toNat : Int) = true from h2), e.1, e.2, he]
  · cases s with
    | nil => cases h0
    | cons c s => exact ⟨_, _, runes_cons (ha c List.mem_cons_self) s, h2⟩
theorem ln_tok (f : Nat) {v : Int} {r : List Int} {t : Int × List UInt8 × Int} {r' : List Int} (hw : isWht v = false) (h47 : v ≠ 47) (ht : tokL (v :: r) = some (t, r')) (hf : (v :: r).length < f) : lineL f (v :: r) = (lineL f r').map (t :: ·) := by
  rw [lnL_step f _ hf, List.dropWhile_cons, hw]
  simp only [Bool.false_eq_true, if_false]
  rw [if_neg (by unfold lineEnd; simp [h47]), ht]
theorem ln_nil (f : Nat) (h : 0 < f) : lineL f [] = some [] := by
  rw [lnL_step f [] h]
  rfl
theorem word_line {s : List UInt8} (hl : s.length ≤ 200) (h0 : 0 < s.length) (h1 : ∀ c ∈ s, isLD c.toNat = true) (h2 : isLet (s.headD 0).toNat = true) : linB s = ([(1, s, 0)], 0) := by
  obtain ⟨hv, ht, v, r, hr, hlv⟩ := word_tok h0 h1 h2
  have hs := runes_le s
  have hn := let_not hlv
  rw [lin_eq hl hv 1000 (by omega)]
  rw [hr] at ht hs ⊢
  rw [ln_tok 1000 hn.1 hn.2 ht (by omega), ln_nil _ (by decide)]
  rfl
theorem headD_app {s : List UInt8} (t : List UInt8) (h : 0 < s.length) : (s ++ t).headD 0 = s.headD 0 := by
  cases s with
  | nil => cases h
  | cons c s => rfl
theorem word_app {s t : List UInt8} (hs : wordB s = true) (ht : wordB t = true) : linB (s ++ t) = ([(1, s ++ t, 0)], 0) ∧ wordB (s ++ t) = decide (s.length + t.length ≤ 31) ∧ ∃ a b c, linB (s ++ [44] ++ t) = ([a, b, c], 0) := by
  obtain ⟨s0, s1, s2, s3⟩ := word_parts hs
  obtain ⟨t0, t1, t2, t3⟩ := word_parts ht
  have hall : ∀ c ∈ s ++ t, isLD c.toNat = true := fun c hc => by
    rcases List.mem_append.1 hc with h | h
    · exact s2 c h
    · exact t2 c h
  have hh : isLet ((s ++ t).headD 0).toNat = true := by rw [headD_app t s0]; exact s3
  refine ⟨word_line (by simp; omega) (by simp; omega) hall hh, ?_, ?_⟩
  · unfold wordB
    rw [hh, List.all_eq_true.2 hall, List.length_append]
    simp
    omega
  · obtain ⟨hv, htk, v, r, hr, hlv⟩ := word_tok s0 s2 s3
    obtain ⟨hv2, htk2, v2, r2, hr2, hlv2⟩ := word_tok t0 t2 t3
    have hn := let_not hlv
    have hn2 := let_not hlv2
    have hsl := runes_le s
    have htl := runes_le t
    have hvv : validD (s ++ [44] ++ t) = true := by
      rw [List.append_assoc, valid_app hv]
      show validD (44 :: t) = true
      rw [validD_cons _ _ (by decide), hv2]
    have hrr : runesL (s ++ [44] ++ t) = runesL s ++ (44 : Int) :: runesL t := by
      rw [List.append_assoc, runes_app hv]
      show _ ++ runesL (44 :: t) = _
      rw [runes_cons (by decide)]
      rfl
    have hx := tokL_ext (w := 44) rfl (runesL t) htk
    rw [lin_eq (by simp; omega) hvv 1000 (by rw [hrr]; simp; omega), hrr]
    rw [hr] at hx hsl ⊢
    rw [List.cons_append] at hx ⊢
    rw [ln_tok 1000 hn.1 hn.2 hx (by simp at hsl ⊢; omega), List.nil_append, ln_tok 1000 (v := 44) (r := runesL t) (t := (4, encodeRune 44, 0)) (r' := runesL t) rfl (by decide) rfl (by simp; omega)]
    rw [hr2] at htk2 htl ⊢
    rw [ln_tok 1000 hn2.1 hn2.2 htk2 (by omega), ln_nil _ (by decide)]
    exact ⟨_, _, _, rfl⟩
theorem word_space (s : List UInt8) : wordB (s ++ [32]) = false := by
  unfold wordB
  rw [List.all_append]
  simp [isLD, isLet, isDig]
/-! ### LexBack -/
theorem quo_esc {r v : Int} (h : quoO r = some v) : escO v = some r ∧ 34 ≤ v ∧ v ≤ 116 := by
  unfold quoO at h
  repeat' split at h
  all_goals first | (rename_i e; cases h; subst e; exact ⟨rfl, by decide, by decide⟩) | cases h
theorem quo_none {r : Int} (h : quoO r = none) : r ≠ 34 ∧ r ≠ 92 := by
  constructor <;> (rintro rfl; cases h)
theorem quote_runes : ∀ (R : List Int) (q : List UInt8), (∀ r ∈ R, scal r) → quoteL R = some q → ∃ Q, q = encL Q ∧ (∀ r ∈ Q, scal r) ∧ ∀ X f, Q.length + 1 ≤ f → textL f (Q ++ 34 :: X) = some (R, X)
  | [], q, _, h => by
    cases h
    refine ⟨[], rfl, by simp, fun X f hf => ?_⟩
    obtain ⟨f, rfl⟩ : ∃ g, f = g + 1 := ⟨f - 1, by simp at hf; omega⟩
    rfl
  | r :: R, q, hs, h => by
    unfold quoteL at h
    cases hq : quoO r with
    | some v =>
      rw [hq] at h
      simp only at h
      obtain ⟨he, hv1, hv2⟩ := quo_esc hq
      cases hl : quoteL R with
      | none => rw [hl] at h; cases h
      | some l =>
        rw [hl] at h
        cases h
        obtain ⟨Q, rfl, h2, h3⟩ := quote_runes R l (fun x hx => hs x (List.mem_cons_of_mem _ hx)) hl
        refine ⟨92 :: v :: Q, rfl, ?_, fun X f hf => ?_⟩
        · intro x hx
          rcases List.mem_cons.1 hx with rfl | hx
          · exact ⟨by decide, by decide, by decide⟩
          · rcases List.mem_cons.1 hx with rfl | hx
            · exact ⟨by omega, by omega, by omega⟩
            · exact h2 x hx
        · obtain ⟨f, rfl⟩ : ∃ g, f = g + 1 := ⟨f - 1, by simp at hf; omega⟩
          unfold textL
          rw [if_neg (by simp), List.cons_append, oneL_cons, if_neg (by decide), if_pos rfl, List.cons_append]
          simp only [he]
          rw [h3 X f (by simp at hf; omega)]
    | none =>
      rw [hq] at h
      simp only at h
      obtain ⟨hn1, hn2⟩ := quo_none hq
      by_cases h32 : r < 32
      · rw [if_pos h32] at h; cases h
      · rw [if_neg h32] at h
        cases hl : quoteL R with
        | none => rw [hl] at h; cases h
        | some l =>
          rw [hl] at h
          cases h
          obtain ⟨Q, rfl, h2, h3⟩ := quote_runes R l (fun x hx => hs x (List.mem_cons_of_mem _ hx)) hl
          refine ⟨r :: Q, rfl, ?_, fun X f hf => ?_⟩
          · intro x hx
            rcases List.mem_cons.1 hx with rfl | hx
            · exact hs x List.mem_cons_self
            · exact h2 x hx
          · obtain ⟨f, rfl⟩ : ∃ g, f = g + 1 := ⟨f - 1, by simp at hf; omega⟩
            unfold textL
            rw [if_neg (by simp [hn1]), List.cons_append, oneL_cons, if_neg (by omega), if_neg hn2]
            simp only
            rw [h3 X f (by simp at hf; omega)]
theorem quo_bad {s : List UInt8} (h : (quoB s).2 ≠ 0) : quoB s = ([], 3) := by
  unfold quoB at h ⊢
  by_cases hv : validD s = true
  · rw [if_pos hv] at h ⊢
    cases hq : quoteL (runesL s) with
    | none => rfl
    | some q => rw [hq] at h; exact absurd rfl h
  · rw [if_neg hv]
theorem quo_ok {s : List UInt8} (h : (quoB s).2 = 0) : validD (quoB s).1 = true ∧ ∃ V, runesL (quoB s).1 = 34 :: V ∧ ∀ X f, V.length + X.length + 1 < f → lineL f (34 :: V ++ X) = (lineL f X).map ((3, s, 0) :: ·) := by
  unfold quoB at h ⊢
  by_cases hv : validD s = true
  · rw [if_pos hv] at h ⊢
    cases hq : quoteL (runesL s) with
    | none => rw [hq] at h; cases h
    | some q =>
      obtain ⟨Q, rfl, h2, h3⟩ := quote_runes _ q (runes_scal _ s (Nat.le_refl _)) hq
      have he := enc_runes _ s (Nat.le_refl _) hv
      simp only
      refine ⟨?_, Q ++ [34], ?_, fun X f hf => ?_⟩
      · rw [List.cons_append, validD_cons _ _ (by decide), valid_encL Q h2]
        rfl
      · rw [List.cons_append, runes_cons (by decide), runes_encL Q h2]
        rfl
      · have ht : tokL (34 :: (Q ++ 34 :: X)) = some ((3, s, 0), X) := by
          rw [tokL_cons, if_neg (by decide), if_neg (by decide), if_pos rfl, h3 X _ (by simp)]
          show some ((3, encL (runesL s), 0), X) = _
          rw [he]
        have e : 34 :: (Q ++ [34]) ++ X = 34 :: (Q ++ 34 :: X) := by simp
        rw [e, ln_tok f rfl (by decide) ht (by simp at hf ⊢; omega)]
  · rw [if_neg hv] at h
    cases h
theorem back_one {s : List UInt8} (h : (quoB s).2 = 0) (hl : (quoB s).1.length ≤ 200) : linB (quoB s).1 = ([(3, s, 0)], 0) := by
  obtain ⟨h1, V, h2, h3⟩ := quo_ok h
  have hr := runes_le (quoB s).1
  rw [lin_eq hl h1 1000 (by omega)]
  rw [h2] at hr ⊢
  have := h3 [] 1000 (by simp at hr ⊢; omega)
  rw [List.append_nil] at this
  rw [this, ln_nil _ (by decide)]
  rfl
theorem back_more {s m : List UInt8} (h : (quoB s).2 = 0) (hl : (quoB s).1.length + 1 + m.length ≤ 200) : linB ((quoB s).1 ++ [32] ++ m) = if (linB m).2 = 0 then ((3, s, 0) :: (linB m).1, 0) else ([], (linB m).2) := by
  obtain ⟨h1, V, h2, h3⟩ := quo_ok h
  have hr := runes_le (quoB s).1
  have hrm := runes_le m
  cases hm : validD m
  · rw [lin_bad (by simp; omega) (by rw [List.append_assoc, valid_app h1]; show validD (32 :: m) = false; rw [validD_cons _ _ (by decide), hm]), lin_bad (l := m) (by omega) hm]
    rfl
  · have hv : validD ((quoB s).1 ++ [32] ++ m) = true := by
      rw [List.append_assoc, valid_app h1]; show validD (32 :: m) = true; rw [validD_cons _ _ (by decide), hm]
    have hrr : runesL ((quoB s).1 ++ [32] ++ m) = (34 :: V) ++ (32 : Int) :: runesL m := by
      rw [List.append_assoc, runes_app h1, h2]
      show _ ++ runesL (32 :: m) = _
      rw [runes_cons (by decide)]
      rfl
    rw [h2] at hr
    rw [lin_eq (by simp; omega) hv 1000 (by rw [hrr]; simp at hr ⊢; omega), hrr, h3 _ 1000 (by simp at hr ⊢; omega), ln_white 1000 rfl _ (by omega), lin_eq (l := m) (by omega) hm 1000 (by omega)]
    cases lineL 1000 (runesL m) <;> simp
end Go.Proofs.YtghpbbdmljobjaaDoor.P
