/- The plain laws of lines, told of the printed functions. -/
import Derived.Test.YtghpbbdmljobjaaDoorLn
import Derived.Test.YtghpbbdmljobjaaDoorPx2
import Derived.Test.YtghpbbdmljobjaaDoorPx4
namespace Go.Proofs.YtghpbbdmljobjaaDoor.P
open Go.Lib Go.RowKit Go.Proofs.YtghpbbdmljobjaaDoorW.PrintWords Go.Proofs.YtghpbbdmljobjaaDoorW.PrintLast Go.Proofs.YtghpbbdmljobjaaDoorW.PrintMore
theorem line_f (a : ByteArray) : lex_Line.f a = some ((linB a.data.toList).1.map toTok, (linB a.data.toList).2) := rfl
theorem runes_ok {a : ByteArray} (h : a.size ≤ 1000) (hv : validD a.data.toList = true) : lex_Runes.f a = some (runesL a.data.toList, 0) := by unfold lex_Runes.f; rw [if_pos h, if_pos hv]
theorem runes_no {a : ByteArray} (h : a.size ≤ 1000) (hv : validD a.data.toList = false) : lex_Runes.f a = some ([], 3) := by unfold lex_Runes.f; rw [if_pos h, if_neg (by rw [hv]; decide)]
theorem app_list (a b : ByteArray) : (a ++ b).data.toList = a.data.toList ++ b.data.toList := by simp
theorem len_list (a : ByteArray) : a.data.toList.length = a.size := by simp
theorem same_loop (l : List S31) : ∀ (k i : Nat), i ≤ l.length → l.length < 1000000 → l.length - i < k → cleatref09_Same.l0 k l l (i : Int) = some true
  | 0, _, _, _, h => absurd h (Nat.not_lt_zero _)
  | k + 1, i, hi, hl, hk => by
    simp only [cleatref09_Same.l0]
    by_cases h : (i : Int) < (l.length : Int)
    · rw [if_pos h, if_pos (by omega), if_pos h]
      simp only [beq_self_eq_true, Bool.not_true, Bool.or_false, Bool.false_eq_true, if_false]
      rw [show wrap64 ((i : Int) + 1) = ((i + 1 : Nat) : Int) by simp only [wrap64]; omega]
      exact same_loop l k (i + 1) (by omega) hl (by omega)
    · rw [if_neg h]
theorem same_refl (l : List S31) (k : Nat) (hl : l.length < 1000000) (h : l.length < k) : cleatref09_Same.f k l l = some true := by
  unfold cleatref09_Same.f
  rw [if_pos rfl]
  exact same_loop l k 0 (Nat.zero_le _) hl (by omega)
theorem lin_len (l : List UInt8) : (linB l).1.length ≤ 201 := by
  by_cases h : (linB l).2 = 0
  · obtain ⟨h1, h2, h3⟩ := lin_ok h
    have e := h3 1000 (by have := runes_le l; omega)
    have aux : ∀ (f : Nat) (R : List Int) (ts : List (Int × List UInt8 × Int)), R.length < f → lineL f R = some ts → ts.length ≤ R.length := by
      intro f
      induction f with
      | zero => intro R ts h; omega
      | succ f ih =>
        intro R ts hR h
        rw [lnL_step'] at h
        split at h
        · cases h; simp
        · cases ht : tokL (R.dropWhile isWht) with
          | none => rw [ht] at h; cases h
          | some p =>
            obtain ⟨t, r⟩ := p
            have h3 := tokL_len ht
            have h4 := dropWhile_len (p := isWht) R
            rw [ht] at h
            simp only at h
            cases hr : lineL f r with
            | none => rw [hr] at h; cases h
            | some ts' =>
              rw [hr] at h
              cases h
              have := ih r ts' (by omega) hr
              simp
              omega
    have := aux _ _ _ (by have := runes_le l; omega) e
    have := runes_le l
    omega
  · by_cases h2 : 200 < l.length
    · rw [lin_long h2]; simp
    · cases hv : validD l
      · rw [lin_bad (by omega) hv]; simp
      · have e := lin_eq (by omega) hv 1000 (by have := runes_le l; omega)
        cases hl : lineL 1000 (runesL l) with
        | none => rw [hl] at e; rw [e]; simp
        | some ts => rw [hl] at e; rw [e] at h; exact absurd rfl h
theorem isword_f (a : ByteArray) {b : Bool} (h : wordB a.data.toList = b) : lex_IsWord.f a = some b := by unfold lex_IsWord.f; rw [h]
theorem line_is (a : ByteArray) {ts : List (Int × List UInt8 × Int)} {e : Int} (h : linB a.data.toList = (ts, e)) : lex_Line.f a = some (ts.map toTok, e) := by rw [line_f, h]
theorem mk_list (a : ByteArray) : (⟨a.data.toList.toArray⟩ : ByteArray) = a := by simp
theorem one_tok {W : World} {A : Option Addr} {n : Nat} {x : S31} {l : List S31} (h : Kd.C k31 W A n (x :: l)) : ∃ ad, A = some ad ∧ W.cell? ad = some (.int .i64 x.f0) ∧ W.cell? ⟨ad.block, ad.off + 1, none⟩ = some (.string x.f1) ∧ W.cell? ⟨ad.block, ad.off + 2, none⟩ = some (.int .u64 x.f2) := by
  obtain ⟨ad, cs, rfl, _, hK, hcell⟩ := ReadsRow.get_ h z31 0 (by decide) (by have := h.1; simp at this; omega)
  have hcs := k31_open hK
  subst hcs
  exact ⟨ad, rfl, hcell 0 _ rfl, hcell 1 _ rfl, hcell 2 _ rfl⟩
end Go.Proofs.YtghpbbdmljobjaaDoor.P
