/- What package inst answers: shapes, registers, numbers; by plain cases. -/
import Derived.Test.YtemenenkefcebaaDoorMk2
import Derived.Test.YtemenenkefcebaaDoorTb05
import Derived.Test.YtemenenkefcebaaDoorPx2
import Derived.Test.YtemenenkefcebaaDoorPx3
import Derived.Test.YtemenenkefcebaaDoorPx4
namespace Go.Proofs.YtemenenkefcebaaDoor.In
open Go.RowKit Go.Proofs.YtemenenkefcebaaDoor.P Go.Proofs.YtemenenkefcebaaDoor.K Go.Proofs.YtemenenkefcebaaDoor.B Go.Proofs.YtemenenkefcebaaDoor.M Go.Proofs.YtemenenkefcebaaDoorW.PrintWords Go.Proofs.YtemenenkefcebaaDoorW.PrintLast Go.Proofs.YtemenenkefcebaaDoorW.PrintMore
set_option linter.unusedVariables false
set_option linter.unusedSimpArgs false
theorem up_rounds {α : Type} {f : Nat → Option α} (hm : ∀ k, LeO (f k) (f (k + 1))) {a : Nat} {r : α} (hr : f a = some r) : ∀ {b : Nat}, a ≤ b → f b = some r := by
 intro b hb
 induction hb with
 | refl => exact hr
 | step _ ih => exact hm _ _ ih
def shN (op : Int) : Int := if 1 ≤ op ∧ op ≤ 39 then shapesL.getD op.toNat 0 else 0
theorem shape_f (op : Int) : inst_Shape.f op = some (shN op) := rfl
theorem shN_range (op : Int) : ∃ i : Nat, i < 17 ∧ shN op = (i : Int) := by
 unfold shN
 by_cases h : 1 ≤ op ∧ op ≤ 39
 ·rw [if_pos h]
  have key : ∀ j, j < 40 → ∃ i : Nat, i < 17 ∧ shapesL.getD j 0 = (i : Int) := by
   have k2 : ∀ j, j < 40 → 0 ≤ shapesL.getD j 0 ∧ shapesL.getD j 0 < 17 := by decide
   intro j hj
   have := k2 j hj
   exact ⟨(shapesL.getD j 0).toNat, by omega, by omega⟩
  exact key _ (by omega)
 ·rw [if_neg h]
  exact ⟨0, by decide, rfl⟩
/-! ### which registers -/
def hD (s : Int) : Bool := decide (s = 1 ∨ s = 2 ∨ s = 3 ∨ s = 4 ∨ s = 5 ∨ s = 6 ∨ s = 7 ∨ s = 8 ∨ s = 9 ∨ s = 10 ∨ s = 16)
def hN (s : Int) : Bool := decide (s = 2 ∨ s = 3 ∨ s = 4 ∨ s = 5 ∨ s = 6 ∨ s = 7 ∨ s = 8 ∨ s = 13 ∨ s = 16)
def hM (s : Int) : Bool := decide (s = 4 ∨ s = 5 ∨ s = 6 ∨ s = 16)
def hA (s : Int) : Bool := decide (s = 6)
def hC (s : Int) : Bool := decide (s = 12 ∨ s = 16)
theorem has_f (op : Int) (k : Nat) (hk : 10 ≤ k) : inst_has.f k (shN op) = some (hD (shN op), hN (shN op), hM (shN op), hA (shN op)) := by
 obtain ⟨i, hi, e⟩ := shN_range op
 rw [e]
 have key : ∀ i : Nat, i < 17 → inst_has.f 10 (i : Int) = some (hD i, hN i, hM i, hA i) := by decide +kernel
 exact up_rounds (inst_has.mono _) (key i hi) hk
def regB (r : Int) (there : Bool) : Bool := if there = true then decide (0 ≤ r ∧ r ≤ 31) else r == 0
theorem reg_f (r : Int) (there : Bool) : inst_register.f r there = some (regB r there) := by
 unfold inst_register.f regB
 cases there
 ·rw [if_neg (by decide), if_neg (by decide)]
 ·rw [if_pos rfl, if_pos rfl]
  by_cases h : r ≥ 0
  ·rw [if_pos h]
   by_cases h2 : r ≤ 31
   ·rw [decide_eq_true h2, decide_eq_true ⟨h, h2⟩]
   ·rw [decide_eq_false h2, decide_eq_false (fun h => h2 h.2)]
  ·rw [if_neg h, decide_eq_false (fun h2 => h h2.1)]
/-! ### numbers -/
def wB (v lo hi b : Int) : Bool := decide (lo ≤ v ∧ v ≤ hi) && (Int.tmod v b == 0)
theorem within_f (v lo hi b : Int) (hb : b ≠ 0) : inst_within.f v lo hi b = some (wB v lo hi b) := by
 unfold inst_within.f wB
 by_cases h1 : v ≥ lo
 ·rw [if_pos h1]
  by_cases h2 : v ≤ hi
  ·rw [if_pos h2, if_neg hb, decide_eq_true ⟨h1, h2⟩, Bool.true_and]
  ·rw [if_neg h2, decide_eq_false (fun h => h2 h.2), Bool.false_and]
 ·rw [if_neg h1, decide_eq_false (fun h => h1 h.1), Bool.false_and]
def numB (s v : Int) : Bool :=
 if s = 1 ∨ s = 14 then wB v 0 65535 1 else if s = 2 ∨ s = 8 then wB v 0 4095 1 else if s = 7 then wB v 0 32760 8 else if s = 9 ∨ s = 12 then wB v (-1048576) 1048572 4 else if s = 10 then wB v (-1048576) 1048575 1 else if s = 11 then wB v (-134217728) 134217724 4 else v == 0
theorem number_f (s v : Int) (k : Nat) (hk : 4 ≤ k) : inst_number.f k s v = some (numB s v) := by
 obtain ⟨k, rfl⟩ : ∃ m, k = m + 4 := ⟨k - 4, by omega⟩
 unfold numB
 simp only [inst_number.f, inst_number.j0, inst_number.j1, inst_number.j2, within_f _ _ _ 1 (by decide), within_f _ _ _ 4 (by decide), within_f _ _ _ 8 (by decide), Option.bind_some, beq_iff_eq]
 by_cases h1 : s = 1
 ·simp [h1]
 by_cases h2 : s = 14
 ·simp [h2]
 by_cases h3 : s = 2
 ·simp [h3]
 by_cases h4 : s = 8
 ·simp [h4]
 by_cases h5 : s = 7
 ·simp [h5]
 by_cases h6 : s = 9
 ·simp [h6]
 by_cases h7 : s = 12
 ·simp [h7]
 by_cases h8 : s = 10
 ·simp [h8]
 by_cases h9 : s = 11
 ·simp [h9]
 simp [h1, h2, h3, h4, h5, h6, h7, h8, h9]
def shB (s sh : Int) : Bool := decide (sh = 0 ∨ s = 4 ∧ 0 ≤ sh ∧ sh ≤ 2 ∨ s = 5 ∧ 0 ≤ sh ∧ sh ≤ 3)
def amB (s am : Int) : Bool := if s = 1 then wB am 0 48 16 else if s = 2 then wB am 0 12 12 else if s = 4 ∨ s = 5 then wB am 0 63 1 else am == 0
theorem wB1 (v lo hi : Int) : wB v lo hi 1 = decide (lo ≤ v ∧ v ≤ hi) := by simp [wB]
theorem amount_f (s sh am : Int) : inst_amount.f s sh am = some (shB s sh && amB s am) := by
 unfold inst_amount.f amB shB
 simp only [within_f _ _ _ 16 (by decide), within_f _ _ _ 12 (by decide), within_f _ _ _ 1 (by decide), Option.bind_some, wB1]
 by_cases h1 : s = 1
 ·subst h1
  by_cases h : sh = 0 <;> simp [h]
 by_cases h2 : s = 2
 ·subst h2
  by_cases h : sh = 0 <;> simp [h]
 by_cases h4 : s = 4
 ·subst h4
  by_cases h : 0 ≤ sh ∧ sh ≤ 2
  ·simp [h]
  ·have h0 : sh ≠ 0 := by rintro rfl; exact h (by decide)
   have h' : ¬ (0 ≤ sh ∧ sh ≤ 2) := h
   rw [decide_eq_false h']
   simp [h0, h']
 by_cases h5 : s = 5
 ·subst h5
  by_cases h : 0 ≤ sh ∧ sh ≤ 3
  ·simp [h]
  ·have h0 : sh ≠ 0 := by rintro rfl; exact h (by decide)
   have h' : ¬ (0 ≤ sh ∧ sh ≤ 3) := h
   rw [decide_eq_false h']
   simp [h0, h']
 by_cases h : sh = 0 <;> simp [h1, h2, h4, h5, h]
def cnB (s co : Int) : Bool := decide (co = 0) || (hC s && decide (0 ≤ co ∧ co ≤ 13))
theorem cond_f (s co : Int) : inst_cond.f s co = some (cnB s co) := by
 unfold inst_cond.f cnB hC
 simp only [within_f _ _ _ 1 (by decide), Option.bind_some, wB1]
 by_cases h1 : s = 12
 ·by_cases h : co = 0
  ·simp [h1, h]
  ·simp [h1, h]
 by_cases h2 : s = 16
 ·by_cases h : co = 0
  ·simp [h2, h]
  ·simp [h2, h]
 by_cases h : co = 0 <;> simp [h1, h2, h]
open Classical in
noncomputable def maB (v : Nat) : Bool := decide (Mask v)
theorem mis_f {v : Nat} (hv : v < 18446744073709551616) (k : Nat) (hk : 200 ≤ k) : mask_Is.f k (v : Int) = some (maB v) := is_f hv k hk
noncomputable def mkB (s : Int) (v : Nat) : Bool := if s = 3 then maB v else decide (v = 0)
/-- An instruction is right. -/
noncomputable def isB (op d n m a im : Int) (v : Nat) (sh am co : Int) : Bool :=
 decide (shN op ≠ 0) && regB d (hD (shN op)) && regB n (hN (shN op)) && regB m (hM (shN op)) && regB a (hA (shN op)) && mkB (shN op) v && numB (shN op) im && (shB (shN op) sh && amB (shN op) am) && cnB (shN op) co
theorem is_j0 (op d n m a im : Int) (v : Nat) (hv : v < 18446744073709551616) (sh am co : Int) (k : Nat) (hk : 201 ≤ k) :
  inst_Is.j0 k (shN op) false op d n m a im v sh am co = some (mkB (shN op) v && numB (shN op) im && (shB (shN op) sh && amB (shN op) am) && cnB (shN op) co) := by
 obtain ⟨k, rfl⟩ : ∃ m, k = m + 1 := ⟨k - 1, by omega⟩
 simp only [inst_Is.j0, if_neg (show ¬ (false = true) by decide), mis_f hv k (by omega), number_f _ _ k (by omega), amount_f, cond_f, Option.bind_some, mkB]
 by_cases h3 : shN op = 3
 ·simp only [if_pos h3, h3]
  cases maB v <;> cases numB 3 im <;> cases (shB 3 sh && amB 3 am) <;> simp
 ·simp only [if_neg h3]
  by_cases h0 : v = 0
  ·rw [if_pos (by omega), decide_eq_true h0]
   cases numB (shN op) im <;> cases (shB (shN op) sh && amB (shN op) am) <;> simp
  ·rw [if_neg (by omega), decide_eq_false h0]
   simp
theorem Is_f (op d n m a im : Int) (v : Nat) (hv : v < 18446744073709551616) (sh am co : Int) (k : Nat) (hk : 210 ≤ k) :
  inst_Is.f k op d n m a im v sh am co = some (isB op d n m a im v sh am co) := by
 unfold inst_Is.f isB
 rw [shape_f, Option.bind_some]
 by_cases h0 : shN op = 0
 ·rw [if_pos h0, decide_eq_false (not_not_intro h0)]
  simp
 ·have ht : ∀ (a b c d e f g h i j : Int), inst_Is.j0 k (shN op) true a b c d e f g h i j = some false := by
   intros
   obtain ⟨k, rfl⟩ : ∃ m, k = m + 1 := ⟨k - 1, by omega⟩
   simp only [inst_Is.j0, if_true]
  rw [if_neg h0, decide_eq_true h0, has_f op k (by omega), Option.bind_some]
  simp only [reg_f, Option.bind_some, ht]
  cases regB d (hD (shN op)) <;> cases regB n (hN (shN op)) <;> cases regB m (hM (shN op)) <;> cases h4 : regB a (hA (shN op)) <;> simp [ht, is_j0 op d n m a im v hv sh am co k (by omega)]
end Go.Proofs.YtemenenkefcebaaDoor.In
