/- The reference of layer 4 tells the same instructions right. -/
import Derived.Test.YtgonbeifaioheaaDoorIn1
import Derived.Test.YtgonbeifaioheaaDoorPx9
namespace Go.Proofs.YtgonbeifaioheaaDoor.In
open Go.RowKit Go.Proofs.YtgonbeifaioheaaDoor.P Go.Proofs.YtgonbeifaioheaaDoor.K Go.Proofs.YtgonbeifaioheaaDoor.B Go.Proofs.YtgonbeifaioheaaDoor.M Go.Proofs.YtgonbeifaioheaaDoorW.PrintWords Go.Proofs.YtgonbeifaioheaaDoorW.PrintLast Go.Proofs.YtgonbeifaioheaaDoorW.PrintMore
set_option linter.unusedVariables false
set_option linter.unusedSimpArgs false
theorem rmis_f {v : Nat} (hv : v < 18446744073709551616) (k : Nat) (hk : 600 ≤ k) : cleatref02_Is.f k (v : Int) = some (maB v) := ris_f hv k hk
theorem ris_j1 (op d n m a im : Int) (v : Nat) (hv : v < 18446744073709551616) (sh am co : Int) (b : Bool) (k : Nat) (hk : 610 ≤ k) :
  cleatref04_Is.j1 k (shN op) b op d n m a im v sh am co = some (mkB (shN op) v && numB (shN op) im && (b && amB (shN op) am) && cnB (shN op) co) := by
 obtain ⟨k, rfl⟩ : ∃ m, k = m + 1 := ⟨k - 1, by omega⟩
 have hc := (rhas_f op k (by omega)).2.2.2.2
 simp only [cleatref04_Is.j1, rmis_f hv k (by omega), imm_f _ _ k (by omega), ramount_f, hc, Option.bind_some, mkB, cnB]
 have hv0 : ((v : Int) == 0) = decide (v = 0) := by
  rw [Bool.eq_iff_iff, beq_iff_eq, decide_eq_true_iff]; omega
 rw [hv0]
 by_cases hco : co = 0
 ·rw [if_pos hco, decide_eq_true hco, Bool.true_or, Bool.and_true]
  by_cases h3 : shN op = 3
  ·simp only [if_pos h3, h3]
   cases maB v <;> cases numB 3 im <;> cases amB 3 am <;> cases b <;> simp
  ·simp only [if_neg h3]
   cases decide (v = 0) <;> cases numB (shN op) im <;> cases amB (shN op) am <;> cases b <;> simp
 ·rw [if_neg hco, decide_eq_false hco, Bool.false_or]
  cases hC (shN op)
  ·by_cases h3 : shN op = 3
   ·simp only [if_pos h3, h3]
    cases maB v <;> cases numB 3 im <;> cases amB 3 am <;> cases b <;> simp
   ·simp only [if_neg h3]
    cases decide (v = 0) <;> cases numB (shN op) im <;> cases amB (shN op) am <;> cases b <;> simp
  ·by_cases h0 : co ≥ 0
   ·by_cases h13 : co ≤ 13
    ·rw [decide_eq_true (show 0 ≤ co ∧ co ≤ 13 from ⟨h0, h13⟩)]
     by_cases h3 : shN op = 3
     ·simp only [if_pos h3, h3, if_pos h0, if_pos h13]
      cases maB v <;> cases numB 3 im <;> cases amB 3 am <;> cases b <;> simp
     ·simp only [if_neg h3, if_pos h0, if_pos h13]
      cases decide (v = 0) <;> cases numB (shN op) im <;> cases amB (shN op) am <;> cases b <;> simp
    ·rw [decide_eq_false (show ¬ (0 ≤ co ∧ co ≤ 13) from fun h => h13 h.2)]
     by_cases h3 : shN op = 3
     ·simp only [if_pos h3, h3, if_pos h0, if_neg h13]
      cases maB v <;> cases numB 3 im <;> cases amB 3 am <;> cases b <;> simp
     ·simp only [if_neg h3, if_pos h0, if_neg h13]
      cases decide (v = 0) <;> cases numB (shN op) im <;> cases amB (shN op) am <;> cases b <;> simp
   ·rw [decide_eq_false (show ¬ (0 ≤ co ∧ co ≤ 13) from fun h => h0 h.1)]
    by_cases h3 : shN op = 3
    ·simp only [if_pos h3, h3, if_neg h0]
     cases maB v <;> cases numB 3 im <;> cases amB 3 am <;> cases b <;> simp
    ·simp only [if_neg h3, if_neg h0]
     cases decide (v = 0) <;> cases numB (shN op) im <;> cases amB (shN op) am <;> cases b <;> simp
theorem ris_j0 (op d n m a im : Int) (v : Nat) (hv : v < 18446744073709551616) (sh am co : Int) (k : Nat) (hk : 620 ≤ k) :
  cleatref04_Is.j0 k (shN op) false op d n m a im v sh am co = some (mkB (shN op) v && numB (shN op) im && (shB (shN op) sh && amB (shN op) am) && cnB (shN op) co) := by
 obtain ⟨k, rfl⟩ : ∃ m, k = m + 1 := ⟨k - 1, by omega⟩
 have hj := fun b => ris_j1 op d n m a im v hv sh am co b k (by omega)
 simp only [cleatref04_Is.j0, if_neg (show ¬ (false = true) by decide), hj]
 unfold shB
 by_cases h0 : sh = 0
 ·simp [h0]
 by_cases h4 : shN op = 4
 ·by_cases h1 : sh ≥ 0
  ·by_cases h2 : sh ≤ 2
   ·simp [h0, h4, h1, h2]
   ·simp [h0, h4, h1, h2]
  ·simp [h0, h4, h1]
 by_cases h5 : shN op = 5
 ·by_cases h1 : sh ≥ 0
  ·by_cases h2 : sh ≤ 3
   ·simp [h0, h4, h5, h1, h2]
   ·simp [h0, h4, h5, h1, h2]
  ·simp [h0, h4, h5, h1]
 ·simp [h0, h4, h5]
theorem rIs_f (op d n m a im : Int) (v : Nat) (hv : v < 18446744073709551616) (sh am co : Int) (k : Nat) (hk : 630 ≤ k) :
  cleatref04_Is.f k op d n m a im v sh am co = some (isB op d n m a im v sh am co) := by
 unfold cleatref04_Is.f isB
 rw [rshape_f, Option.bind_some]
 have ht : ∀ (a b c d e f g h i j : Int), cleatref04_Is.j0 k (shN op) true a b c d e f g h i j = some false := by
  intros
  obtain ⟨k, rfl⟩ : ∃ m, k = m + 1 := ⟨k - 1, by omega⟩
  simp only [cleatref04_Is.j0, if_true]
 obtain ⟨q1, q2, q3, q4, _⟩ := rhas_f op k (by omega)
 by_cases h0 : shN op = 0
 ·rw [if_pos h0, ht, decide_eq_false (not_not_intro h0)]
  simp
 ·rw [if_neg h0, decide_eq_true h0]
  simp only [rreg_f op k _ d _ q1, rreg_f op k _ n _ q2, rreg_f op k _ m _ q3, rreg_f op k _ a _ q4, Option.bind_some, ht]
  cases regB d (hD (shN op)) <;> cases regB n (hN (shN op)) <;> cases regB m (hM (shN op)) <;> cases h4 : regB a (hA (shN op)) <;> simp [ht, ris_j0 op d n m a im v hv sh am co k (by omega)]
end Go.Proofs.YtgonbeifaioheaaDoor.In
