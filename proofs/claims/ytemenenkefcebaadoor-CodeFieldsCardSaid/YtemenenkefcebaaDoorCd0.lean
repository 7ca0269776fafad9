/- The tables of words: two operations have no word in common. Plain Lean. -/
import Derived.Test.YtemenenkefcebaaDoorTb05
import Derived.Test.YtemenenkefcebaaDoorKb
namespace Go.Proofs.YtemenenkefcebaaDoor.Cd
open Go.Proofs.YtemenenkefcebaaDoor.P
def bN (i : Nat) : Nat := (basesL.getD i 0).toNat
def fN (i : Nat) : Nat := (fieldsL.getD (shapesL.getD i 0).toNat 0).toNat
def mN (i j : Nat) : Nat := (4294967295 - fN i) &&& (4294967295 - fN j)
/-- x has the operation i. -/
def opT (x i : Nat) : Bool := x &&& (4294967295 - fN i) == bN i
set_option maxRecDepth 100000 in
theorem tables0 : ∀ i, i < 40 → ∀ j, j < 40 → (i = 0 ∨ j = 0 ∨ i = j ∨ bN i &&& mN i j ≠ bN j &&& mN i j) := by decide +kernel
theorem tables (i : Nat) (hi : i < 40) (j : Nat) (hj : j < 40) (h1 : 1 ≤ i) (h2 : 1 ≤ j) (h : i ≠ j) : bN i &&& mN i j ≠ bN j &&& mN i j := by
 rcases tables0 i hi j hj with e | e | e | e
 ·omega
 ·omega
 ·exact absurd e h
 ·exact e
theorem t_bound : ∀ i, i < 40 → bN i < 4294967296 ∧ fN i < 4294967296 ∧ (basesL.getD i 0) = (bN i : Int) ∧ fieldsL.getD (shapesL.getD i 0).toNat 0 = (fN i : Int) := by decide +kernel
theorem op_uniq {x i j : Nat} (hi : i < 40) (hj : j < 40) (h1 : 1 ≤ i) (h2 : 1 ≤ j) (hx : opT x i = true) (hy : opT x j = true) : i = j := by
 by_cases h : i = j
 ·exact h
 ·have t := tables i hi j hj h1 h2 h
  unfold opT at hx hy
  rw [beq_iff_eq] at hx hy
  refine absurd ?_ t
  rw [← hx, ← hy]
  unfold mN
  apply Nat.eq_of_testBit_eq
  intro k
  simp only [Nat.testBit_and]
  cases (4294967295 - fN i).testBit k <;> cases (4294967295 - fN j).testBit k <;> cases x.testBit k <;> rfl
/-- The first operation from i on that x has. -/
def opF (x : Nat) : Nat → Nat → Nat
 | 0, _ => 0
 | f + 1, i => if opT x i = true then i else opF x f (i + 1)
theorem opF_has {x j : Nat} (hj : j < 40) (h : opT x j = true) (h1 : 1 ≤ j) : ∀ f i, 1 ≤ i → i ≤ j → j < i + f → i + f ≤ 40 → opF x f i = j
 | 0, i, _, _, _, _ => by omega
 | f + 1, i, hi, hij, hjf, hf => by
  unfold opF
  by_cases ht : opT x i = true
  ·rw [if_pos ht]
   exact op_uniq (by omega) hj hi h1 ht h
  ·rw [if_neg ht]
   have : i ≠ j := by rintro rfl; exact ht h
   exact opF_has hj h h1 f (i + 1) (by omega) (by omega) (by omega) (by omega)
theorem opF_none {x : Nat} : ∀ f i, (∀ j, i ≤ j → j < i + f → opT x j = false) → opF x f i = 0
 | 0, _, _ => rfl
 | f + 1, i, h => by
  unfold opF
  rw [h i (Nat.le_refl _) (by omega), if_neg (by decide)]
  exact opF_none f (i + 1) (fun j hj hl => h j (by omega) (by omega))
theorem opF_sound {x : Nat} : ∀ f i, opF x f i ≠ 0 → i ≤ opF x f i ∧ opF x f i < i + f ∧ opT x (opF x f i) = true
 | 0, _, h => absurd rfl h
 | f + 1, i, h => by
  unfold opF at h ⊢
  by_cases ht : opT x i = true
  ·rw [if_pos ht]
   exact ⟨Nat.le_refl _, by omega, ht⟩
  ·rw [if_neg ht] at h ⊢
   obtain ⟨a, b, c⟩ := opF_sound f (i + 1) h
   exact ⟨by omega, by omega, c⟩
end Go.Proofs.YtemenenkefcebaaDoor.Cd
