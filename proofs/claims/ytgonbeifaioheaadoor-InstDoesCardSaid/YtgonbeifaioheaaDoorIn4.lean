/- What the reference says that an instruction reads and writes. -/
import Derived.Test.YtgonbeifaioheaaDoorIn3
import Derived.Test.YtgonbeifaioheaaDoorPx10
import Derived.Test.YtgonbeifaioheaaDoorPx12
import Derived.Test.YtgonbeifaioheaaDoorPx5
namespace Go.Proofs.YtgonbeifaioheaaDoor.In
open Go.RowKit Go.Proofs.YtgonbeifaioheaaDoor.P Go.Proofs.YtgonbeifaioheaaDoor.K Go.Proofs.YtgonbeifaioheaaDoor.B Go.Proofs.YtgonbeifaioheaaDoor.M Go.Proofs.YtgonbeifaioheaaDoorW.PrintWords Go.Proofs.YtgonbeifaioheaaDoorW.PrintLast Go.Proofs.YtgonbeifaioheaaDoorW.PrintMore
set_option linter.unusedVariables false
set_option linter.unusedSimpArgs false
theorem rr_j6 (op d n m a im v sh am co : Int) (l : List Int) (hl : l.length ≤ 10) (b : Bool) (k : Nat) (hk : 30 ≤ k) :
  cleatref04_Reads.j6 k l b op d n m a im v sh am co = some (addIf (decide (op = 37)) (addIf b l d) 0) := by
 obtain ⟨k, rfl⟩ : ∃ m, k = m + 1 := ⟨k - 1, by omega⟩
 simp only [cleatref04_Reads.j6]
 have h2 := withL_len d l false
 cases b
 ·rw [if_neg (by decide)]
  by_cases h : op = 37
  ·rw [if_pos h, with_f l 0 k (by omega) (by omega), decide_eq_true h]; rfl
  ·rw [if_neg h, decide_eq_false h]; rfl
 ·rw [if_pos rfl, with_f l d k (by omega) (by omega), Option.bind_some]
  by_cases h : op = 37
  ·rw [if_pos h, with_f _ 0 k (by omega) (by omega), decide_eq_true h]; rfl
  ·rw [if_neg h, decide_eq_false h]; rfl
theorem rr_j5 (op d n m a im v sh am co : Int) (l : List Int) (hl : l.length ≤ 10) (k : Nat) (hk : 31 ≤ k) :
  cleatref04_Reads.j5 k l op d n m a im v sh am co = some (addIf (decide (op = 37)) (addIf (decide (d < 31) && rDB op) l d) 0) := by
 obtain ⟨k, rfl⟩ : ∃ m, k = m + 1 := ⟨k - 1, by omega⟩
 have hj := fun b => rr_j6 op d n m a im v sh am co l hl b k (by omega)
 simp only [cleatref04_Reads.j5, hj]
 by_cases h : d < 31
 ·rw [if_pos h, decide_eq_true h, Bool.true_and]
  unfold rDB
  by_cases h1 : op = 3
  ·simp [h1]
  by_cases h2 : op = 23
  ·simp [h2]
  by_cases h3 : op = 25
  ·simp [h3]
  by_cases h4 : op = 32
  ·simp [h4]
  by_cases h5 : op = 33
  ·simp [h5]
  have h5' : (op == 33) = false := beq_eq_false_iff_ne.2 h5
  simp [h1, h2, h3, h4, h5, h5']
 ·rw [if_neg h, decide_eq_false h, Bool.false_and]
theorem rr_j4 (op d n m a im v sh am co : Int) (l : List Int) (hl : l.length ≤ 9) (b : Bool) (k : Nat) (hk : 32 ≤ k) :
  cleatref04_Reads.j4 k l b op d n m a im v sh am co = some (addIf (decide (op = 37)) (addIf (decide (d < 31) && rDB op) (addIf b l a) d) 0) := by
 obtain ⟨k, rfl⟩ : ∃ m, k = m + 1 := ⟨k - 1, by omega⟩
 simp only [cleatref04_Reads.j4]
 rw [addIf_f b l a k (by omega) (by omega)]
 have := addIf_len b l a
 exact rr_j5 op d n m a im v sh am co _ (by omega) k (by omega)
theorem rr_j3 (op d n m a im v sh am co : Int) (l : List Int) (hl : l.length ≤ 9) (k : Nat) (hk : 33 ≤ k) :
  cleatref04_Reads.j3 k (shN op) l op d n m a im v sh am co = some (addIf (decide (op = 37)) (addIf (decide (d < 31) && rDB op) (addIf (hA (shN op) && decide (a < 31)) l a) d) 0) := by
 obtain ⟨k, rfl⟩ : ∃ m, k = m + 1 := ⟨k - 1, by omega⟩
 obtain ⟨_, _, _, q, _⟩ := rhas_f op k (by omega)
 simp only [cleatref04_Reads.j3, q, Option.bind_some]
 cases hA (shN op)
 ·rw [if_neg (by decide)]; exact rr_j4 op d n m a im v sh am co l hl _ k (by omega)
 ·rw [if_pos rfl, Bool.true_and]; exact rr_j4 op d n m a im v sh am co l hl _ k (by omega)
theorem rr_j2 (op d n m a im v sh am co : Int) (l : List Int) (hl : l.length ≤ 8) (b : Bool) (k : Nat) (hk : 34 ≤ k) :
  cleatref04_Reads.j2 k (shN op) l b op d n m a im v sh am co = some (addIf (decide (op = 37)) (addIf (decide (d < 31) && rDB op) (addIf (hA (shN op) && decide (a < 31)) (addIf b l m) a) d) 0) := by
 obtain ⟨k, rfl⟩ : ∃ m, k = m + 1 := ⟨k - 1, by omega⟩
 simp only [cleatref04_Reads.j2]
 rw [addIf_f b l m k (by omega) (by omega)]
 have := addIf_len b l m
 exact rr_j3 op d n m a im v sh am co _ (by omega) k (by omega)
theorem rr_j1 (op d n m a im v sh am co : Int) (l : List Int) (hl : l.length ≤ 8) (k : Nat) (hk : 35 ≤ k) :
  cleatref04_Reads.j1 k (shN op) l op d n m a im v sh am co = some (addIf (decide (op = 37)) (addIf (decide (d < 31) && rDB op) (addIf (hA (shN op) && decide (a < 31)) (addIf (hM (shN op) && decide (m < 31)) l m) a) d) 0) := by
 obtain ⟨k, rfl⟩ : ∃ m, k = m + 1 := ⟨k - 1, by omega⟩
 obtain ⟨_, _, q, _, _⟩ := rhas_f op k (by omega)
 simp only [cleatref04_Reads.j1, q, Option.bind_some]
 cases hM (shN op)
 ·rw [if_neg (by decide)]; exact rr_j2 op d n m a im v sh am co l hl _ k (by omega)
 ·rw [if_pos rfl, Bool.true_and]; exact rr_j2 op d n m a im v sh am co l hl _ k (by omega)
theorem rr_j0 (op d n m a im v sh am co : Int) (b : Bool) (k : Nat) (hk : 36 ≤ k) :
  cleatref04_Reads.j0 k (shN op) [] b op d n m a im v sh am co = some (addIf (decide (op = 37)) (addIf (decide (d < 31) && rDB op) (addIf (hA (shN op) && decide (a < 31)) (addIf (hM (shN op) && decide (m < 31)) (addIf b [] n) m) a) d) 0) := by
 obtain ⟨k, rfl⟩ : ∃ m, k = m + 1 := ⟨k - 1, by omega⟩
 simp only [cleatref04_Reads.j0]
 rw [addIf_f b [] n k (by simp; omega) (by simp)]
 have := addIf_len b [] n
 exact rr_j1 op d n m a im v sh am co _ (by simp at this; omega) k (by omega)
theorem rReads_f (op d n m a im : Int) (v : Nat) (hv : v < 18446744073709551616) (sh am co : Int) (k : Nat) (hk : 640 ≤ k) :
  cleatref04_Reads.f k op d n m a im v sh am co = some (if isB op d n m a im v sh am co = true then readL op d n m a else []) := by
 unfold cleatref04_Reads.f
 rw [rIs_f op d n m a im v hv sh am co k (by omega), Option.bind_some]
 cases hB : isB op d n m a im v sh am co
 ·rw [if_neg (by decide), if_neg (by decide)]
 ·obtain ⟨_, q, _, _, _⟩ := rhas_f op k (by omega)
  have hj := fun b => rr_j0 op d n m a im v sh am co b k (by omega)
  simp only [if_pos, rshape_f, Option.bind_some, q, hj]
  unfold readL
  cases hN (shN op)
  ·simp
  ·rw [if_pos rfl, Bool.true_and]
   unfold sNB
   by_cases h1 : n < 31
   ·simp [h1]
   by_cases h2 : shN op = 2
   ·simp [h1, h2]
   by_cases h3 : shN op = 7
   ·simp [h1, h3]
   by_cases h4 : shN op = 8
   ·simp [h1, h4]
   have h4' : (shN op == 8) = false := beq_eq_false_iff_ne.2 h4
   simp [h1, h2, h3, h4, h4']
/-! ### Writes -/
def sDB (op : Int) : Bool := decide (op = 4 ∨ op = 5 ∨ op = 8 ∨ op = 9 ∨ op = 10)
theorem stackD_f (op : Int) : inst_stackD.f op = some (sDB op) := by
 unfold inst_stackD.f sDB
 by_cases h1 : op = 4
 ·simp [h1]
 by_cases h2 : op = 5
 ·simp [h2]
 by_cases h3 : op = 8
 ·simp [h3]
 by_cases h4 : op = 9
 ·simp [h4]
 by_cases h5 : op = 10
 ·simp [h5]
 simp [h1, h2, h3, h4, h5]
/-- What an instruction writes. -/
def writeR (op d : Int) : Int × Bool :=
 if op = 30 ∨ op = 35 then (30, true) else if hD (shN op) = true ∧ (op = 3 ∨ rDB op = false) then (if d = 31 ∧ sDB op = false then (0, false) else (d, true)) else (0, false)
theorem Writes_f (op d n m a im : Int) (v : Nat) (hv : v < 18446744073709551616) (sh am co : Int) (k : Nat) (hk : 220 ≤ k) :
  inst_Writes.f k op d n m a im v sh am co = some (if isB op d n m a im v sh am co = true then writeR op d else (0, false)) := by
 unfold inst_Writes.f
 rw [Is_f op d n m a im v hv sh am co k (by omega), Option.bind_some]
 cases hB : isB op d n m a im v sh am co
 ·rw [if_neg (by decide), if_neg (by decide)]
 ·rw [if_pos rfl, if_pos rfl]
  obtain ⟨k, rfl⟩ : ∃ m, k = m + 2 := ⟨k - 2, by omega⟩
  have hh := has_f op (k + 1) (by omega)
  unfold writeR
  simp only [inst_Writes.j0, inst_Writes.j1, shape_f, hh, readsD_f, stackD_f, Option.bind_some]
  by_cases h1 : op = 30
  ·simp [h1]
  by_cases h2 : op = 35
  ·simp [h2]
  have h2' : (op == 35) = false := beq_eq_false_iff_ne.2 h2
  simp only [if_neg h1, h2', if_neg (show ¬ (op = 30 ∨ op = 35) by omega)]
  cases hD (shN op)
  ·simp
  ·by_cases h3 : op = 3
   ·subst h3
    by_cases h4 : d = 31
    ·subst h4
     cases sDB 3 <;> simp
    ·simp [h4]
   ·cases rDB op
    ·by_cases h4 : d = 31
     ·subst h4
      cases sDB op <;> simp [h3]
     ·simp [h3, h4]
    ·simp [h3]
theorem rWrites_f (op d n m a im : Int) (v : Nat) (hv : v < 18446744073709551616) (sh am co : Int) (k : Nat) (hk : 640 ≤ k) :
  cleatref04_Writes.f k op d n m a im v sh am co = some (if isB op d n m a im v sh am co = true then writeR op d else (0, false)) := by
 unfold cleatref04_Writes.f
 rw [rIs_f op d n m a im v hv sh am co k (by omega), Option.bind_some]
 obtain ⟨k, rfl⟩ : ∃ m, k = m + 3 := ⟨k - 3, by omega⟩
 obtain ⟨q, _, _, _, _⟩ := rhas_f op k (by omega)
 simp only [cleatref04_Writes.j0, cleatref04_Writes.j1, cleatref04_Writes.j2, rshape_f, q, Option.bind_some]
 cases hB : isB op d n m a im v sh am co
 ·simp
 ·rw [if_pos rfl, if_pos rfl]
  unfold writeR rDB sDB
  by_cases h1 : op = 23
  ·subst h1; simp
  by_cases h2 : op = 25
  ·subst h2; simp
  by_cases h3 : op = 32
  ·subst h3; simp
  by_cases h4 : op = 33
  ·subst h4; simp
  have h4' : (op == 33) = false := beq_eq_false_iff_ne.2 h4
  by_cases h5 : op = 30
  ·subst h5; simp
  by_cases h6 : op = 35
  ·subst h6; simp
  have h6' : (op == 35) = false := beq_eq_false_iff_ne.2 h6
  simp only [if_neg h1, if_neg h2, if_neg h3, h4', if_neg h5, h6', if_neg (show ¬ (op = 30 ∨ op = 35) by omega)]
  have hr : (op = 3 ∨ decide (op = 3 ∨ op = 23 ∨ op = 25 ∨ op = 32 ∨ op = 33) = false) := by
   by_cases h : op = 3
   ·exact Or.inl h
   ·exact Or.inr (decide_eq_false (by omega))
  cases hD (shN op)
  ·simp
  ·rw [if_pos (show true = true ∧ _ from ⟨rfl, hr⟩)]
   by_cases g1 : op = 4
   ·subst g1; by_cases h : d = 31 <;> simp [h]
   by_cases g2 : op = 5
   ·subst g2; by_cases h : d = 31 <;> simp [h]
   by_cases g3 : op = 8
   ·subst g3; by_cases h : d = 31 <;> simp [h]
   by_cases g4 : op = 9
   ·subst g4; by_cases h : d = 31 <;> simp [h]
   by_cases g5 : op = 10
   ·subst g5; by_cases h : d = 31 <;> simp [h]
   have g5' : (op == 10) = false := beq_eq_false_iff_ne.2 g5
   by_cases h : d = 31 <;> simp [g1, g2, g3, g4, g5, g5', h]
end Go.Proofs.YtgonbeifaioheaaDoor.In
