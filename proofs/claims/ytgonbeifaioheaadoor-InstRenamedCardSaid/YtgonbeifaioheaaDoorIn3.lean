/- What an instruction reads and writes: the program's answer and the reference's are one. -/
import Derived.Test.YtgonbeifaioheaaDoorIn1
import Derived.Test.YtgonbeifaioheaaDoorPx10
import Derived.Test.YtgonbeifaioheaaDoorPx11
import Derived.Test.YtgonbeifaioheaaDoorPx5
namespace Go.Proofs.YtgonbeifaioheaaDoor.In
open Go.RowKit Go.Proofs.YtgonbeifaioheaaDoor.P Go.Proofs.YtgonbeifaioheaaDoor.K Go.Proofs.YtgonbeifaioheaaDoor.B Go.Proofs.YtgonbeifaioheaaDoor.M Go.Proofs.YtgonbeifaioheaaDoorW.PrintWords Go.Proofs.YtgonbeifaioheaaDoorW.PrintLast Go.Proofs.YtgonbeifaioheaaDoorW.PrintMore
set_option linter.unusedVariables false
set_option linter.unusedSimpArgs false
/-! ### lists that rise -/
theorem eq_of_mem : ∀ {l m : List Int}, l.Pairwise (· < ·) → m.Pairwise (· < ·) → (∀ x, x ∈ l ↔ x ∈ m) → l = m
 | [], [], _, _, _ => rfl
 | [], y :: m, _, _, h => by have := (h y).2 List.mem_cons_self; simp at this
 | x :: l, [], _, _, h => by have := (h x).1 List.mem_cons_self; simp at this
 | x :: l, y :: m, hl, hm, h => by
  rw [List.pairwise_cons] at hl hm
  have hxy : x = y := by
   have h1 := (h x).1 List.mem_cons_self
   have h2 := (h y).2 List.mem_cons_self
   rcases List.mem_cons.1 h1 with h1 | h1
   ·exact h1
   ·rcases List.mem_cons.1 h2 with h2 | h2
    ·exact h2.symm
    ·have := hl.1 y h2; have := hm.1 x h1; omega
  subst hxy
  rw [eq_of_mem hl.2 hm.2 (fun z => ?_)]
  have hz := h z
  simp only [List.mem_cons] at hz
  constructor
  ·intro hz1
   rcases hz.1 (Or.inr hz1) with e | e
   ·have := hl.1 z hz1; omega
   ·exact e
  ·intro hz1
   rcases hz.2 (Or.inr hz1) with e | e
   ·have := hm.1 z hz1; omega
   ·exact e
/-- A number put into its place, behind done: it is there. -/
def withL : List Int → Int → Bool → List Int
 | [], v, done => if done = true then [] else [v]
 | x :: r, v, done => (if done = false ∧ v < x then [v] else []) ++ x :: withL r v (done || decide (v ≤ x))
theorem withL_true : ∀ (l : List Int) (v : Int), withL l v true = l
 | [], v => rfl
 | x :: r, v => by rw [withL, Bool.true_or, withL_true r v]; simp
theorem withL_mem (v : Int) : ∀ (l : List Int), l.Pairwise (· < ·) → ∀ x, x ∈ withL l v false ↔ x ∈ l ∨ x = v
 | [], _, x => by simp [withL]
 | y :: r, hl, x => by
  rw [List.pairwise_cons] at hl
  rw [withL, Bool.false_or]
  by_cases h1 : v < y
  ·rw [if_pos ⟨rfl, h1⟩, decide_eq_true (by omega), withL_true]
   simp
   constructor
   ·rintro (h | h | h) <;> simp [h]
   ·rintro ((h | h) | h) <;> simp [h]
  ·rw [if_neg (fun h => h1 h.2)]
   by_cases h2 : v = y
   ·rw [decide_eq_true (by omega), withL_true]
    subst h2
    simp
    intro h
    exact Or.inl h
   ·rw [decide_eq_false (by omega)]
    have := withL_mem v r hl.2 x
    simp [this, or_assoc]
theorem withL_sorted (v : Int) : ∀ (l : List Int), l.Pairwise (· < ·) → (withL l v false).Pairwise (· < ·)
 | [], _ => by simp [withL]
 | y :: r, hl => by
  have hl' := hl
  rw [List.pairwise_cons] at hl
  rw [withL, Bool.false_or]
  by_cases h1 : v < y
  ·rw [if_pos ⟨rfl, h1⟩, decide_eq_true (by omega), withL_true, List.singleton_append, List.pairwise_cons]
   refine ⟨fun z hz => ?_, hl'⟩
   rcases List.mem_cons.1 hz with rfl | hz
   ·exact h1
   ·have := hl.1 z hz; omega
  ·rw [if_neg (fun h => h1 h.2), List.nil_append]
   by_cases h2 : v = y
   ·rw [decide_eq_true (by omega), withL_true]
    exact hl'
   ·rw [decide_eq_false (by omega), List.pairwise_cons]
    refine ⟨fun z hz => ?_, withL_sorted v r hl.2⟩
    rcases (withL_mem v r hl.2 z).1 hz with hz | rfl
    ·exact hl.1 z hz
    ·omega
theorem withL_len (v : Int) : ∀ (l : List Int) (b : Bool), (withL l v b).length ≤ l.length + 1
 | [], b => by cases b <;> simp [withL]
 | y :: r, b => by
  rw [withL]
  cases b
  ·rw [Bool.false_or]
   by_cases h1 : v < y
   ·rw [if_pos ⟨rfl, h1⟩, decide_eq_true (by omega), withL_true]; simp
   ·rw [if_neg (fun h => h1 h.2)]
    have := withL_len v r (decide (v ≤ y))
    simp; omega
  ·rw [if_neg (fun h => by simp at h)]
   have := withL_len v r (true || decide (v ≤ y))
   simp at this ⊢; omega
theorem with_l (v : Int) : ∀ (rest pre out : List Int) (done : Bool) (k : Nat), rest.length < k → out.length + 2 * rest.length ≤ 1000000 → pre.length + rest.length ≤ 1000000 →
  cleatref04_with.l0 k (pre ++ rest) v out done (pre.length : Int) = some (out ++ withL rest v done)
 | [], pre, out, done, k, hk, ho, hp => by
  obtain ⟨k, rfl⟩ : ∃ m, k = m + 1 := ⟨k - 1, by omega⟩
  simp only [List.length_nil, Nat.mul_zero, Nat.add_zero] at ho
  simp only [cleatref04_with.l0]
  rw [if_neg (by simp)]
  cases done
  ·rw [if_neg (by decide), if_pos (by omega)]; rfl
  ·rw [if_pos rfl]; simp [withL]
 | x :: r, pre, out, done, k, hk, ho, hp => by
  obtain ⟨k, rfl⟩ : ∃ m, k = m + 1 := ⟨k - 1, by omega⟩
  simp only [List.length_cons] at hk ho hp
  have hrd : rd (pre ++ x :: r) (pre.length : Int) = x := by simp [rd, List.getD_eq_getElem?_getD]
  have hn : wrap64 ((pre.length : Int) + 1) = ((pre ++ [x]).length : Int) := by
   rw [w64_in ⟨by omega, by omega⟩]; simp
  have hl : pre ++ x :: r = (pre ++ [x]) ++ r := by simp
  have ih := fun out done h => with_l v r (pre ++ [x]) out done k (by omega) h (by simp; omega)
  simp only [cleatref04_with.l0]
  rw [if_pos (by simp; omega)]
  simp only [hrd, hn]
  rw [hl]
  cases done
  ·rw [if_neg (by decide), if_pos (by omega), withL, Bool.false_or]
   by_cases h1 : v < x
   ·rw [if_pos h1, if_pos (by omega), Option.bind_some, if_pos (by simp; omega), ih _ _ (by simp; omega), if_pos ⟨rfl, h1⟩]
    simp
   ·rw [if_neg h1, if_pos (by omega), ih _ _ (by simp; omega), if_neg (fun h => h1 h.2)]
    simp
  ·rw [if_pos rfl, if_pos (by omega), if_pos (by omega), ih _ _ (by simp; omega), withL, Bool.true_or, if_neg (fun h => by simp at h)]
   simp
theorem with_f (l : List Int) (v : Int) (k : Nat) (h : l.length < k) (hl : l.length ≤ 1000) : cleatref04_with.f k l v = some (withL l v false) := by
 have := with_l v l [] [] false k h (by simp; omega) (by simp; omega)
 simpa [cleatref04_with.f] using this
def addIf (c : Bool) (l : List Int) (v : Int) : List Int := if c = true then withL l v false else l
theorem addIf_mem {c : Bool} {l : List Int} {v : Int} (h : l.Pairwise (· < ·)) (x : Int) : x ∈ addIf c l v ↔ x ∈ l ∨ (c = true ∧ x = v) := by
 unfold addIf
 cases c
 ·simp
 ·rw [if_pos rfl, withL_mem v l h]; simp
theorem addIf_sorted {c : Bool} {l : List Int} {v : Int} (h : l.Pairwise (· < ·)) : (addIf c l v).Pairwise (· < ·) := by
 unfold addIf
 cases c
 ·exact h
 ·exact withL_sorted v l h
theorem addIf_len (c : Bool) (l : List Int) (v : Int) : (addIf c l v).length ≤ l.length + 1 := by
 unfold addIf
 cases c
 ·simp
 ·exact withL_len v l false
theorem addIf_f {α : Type} (c : Bool) (l : List Int) (v : Int) (k : Nat) (h : l.length < k) (hl : l.length ≤ 1000) (g : List Int → Option α) :
  (if c = true then (cleatref04_with.f k l v).bind g else g l) = g (addIf c l v) := by
 unfold addIf
 cases c
 ·rw [if_neg (by decide), if_neg (by decide)]
 ·rw [if_pos rfl, if_pos rfl, with_f l v k h hl, Option.bind_some]
/-! ### sets of registers -/
theorem regsUp_mem (s : List Bool) (i : Nat) (x : Int) : x ∈ regsUp s i ↔ ∃ j : Nat, j < i ∧ s.getD j false = true ∧ x = (j : Int) := by
 unfold regsUp
 simp only [List.mem_map, List.mem_filter, List.mem_range]
 constructor
 ·rintro ⟨j, ⟨h1, h2⟩, rfl⟩; exact ⟨j, h1, h2, rfl⟩
 ·rintro ⟨j, h1, h2, rfl⟩; exact ⟨j, ⟨h1, h2⟩, rfl⟩
theorem regsUp_sorted (s : List Bool) (i : Nat) : (regsUp s i).Pairwise (· < ·) := by
 unfold regsUp
 rw [List.pairwise_map]
 exact ((List.pairwise_lt_range (n := i)).filter _).imp (fun h => by omega)
theorem gather_some (s : List Bool) (r : Int) (there stack : Bool) (h : there = true → 0 ≤ r ∧ r ≤ 31) : ∃ s', gatherO s r there stack = some s' := by
 unfold gatherO
 by_cases hc : there = true ∧ (r ≠ 31 ∨ stack = true)
 ·have := h hc.1
  rw [if_pos hc, if_pos (by omega)]
  exact ⟨_, rfl⟩
 ·rw [if_neg hc]; exact ⟨_, rfl⟩
theorem gather_mem {s s' : List Bool} {r : Int} {there stack : Bool} (hs : s.length = 32) (h : gatherO s r there stack = some s') (x : Int) :
  x ∈ regsUp s' 32 ↔ x ∈ regsUp s 32 ∨ ((there = true ∧ (r ≠ 31 ∨ stack = true)) ∧ x = r) := by
 unfold gatherO at h
 by_cases hc : there = true ∧ (r ≠ 31 ∨ stack = true)
 ·rw [if_pos hc] at h
  by_cases hr : 0 ≤ r ∧ r < 32
  ·rw [if_pos hr] at h
   obtain rfl := Option.some.inj h
   simp only [regsUp_mem]
   constructor
   ·rintro ⟨j, hj, hg, rfl⟩
    by_cases e : j = r.toNat
    ·exact Or.inr ⟨hc, by omega⟩
    ·refine Or.inl ⟨j, hj, ?_, rfl⟩
     rw [List.getD_eq_getElem?_getD, List.getElem?_set_ne (fun h => e h.symm), ← List.getD_eq_getElem?_getD] at hg
     exact hg
   ·rintro (⟨j, hj, hg, rfl⟩ | ⟨_, rfl⟩)
    ·refine ⟨j, hj, ?_, rfl⟩
     by_cases e : j = r.toNat
     ·rw [e, List.getD_eq_getElem?_getD, List.getElem?_set_self (by omega)]; rfl
     ·rw [List.getD_eq_getElem?_getD, List.getElem?_set_ne (fun h => e h.symm), ← List.getD_eq_getElem?_getD]; exact hg
    ·refine ⟨x.toNat, by omega, ?_, by omega⟩
     rw [List.getD_eq_getElem?_getD, List.getElem?_set_self (by omega)]; rfl
  ·rw [if_neg hr] at h; cases h
 ·rw [if_neg hc] at h
  obtain rfl := Option.some.inj h
  simp [hc]
/-! ### Reads -/
def rDB (op : Int) : Bool := decide (op = 3 ∨ op = 23 ∨ op = 25 ∨ op = 32 ∨ op = 33)
theorem readsD_f (op : Int) : inst_readsD.f op = some (rDB op) := by
 unfold inst_readsD.f rDB
 by_cases h1 : op = 3
 ·simp [h1]
 by_cases h2 : op = 23
 ·simp [h2]
 by_cases h3 : op = 25
 ·simp [h3]
 by_cases h4 : op = 32
 ·simp [h4]
 by_cases h5 : op = 33
 ·simp [h5]
 simp [h1, h2, h3, h4, h5]
def sNB (s : Int) : Bool := decide (s = 2 ∨ s = 7 ∨ s = 8)
theorem stackN_f (s : Int) : inst_stackN.f s = some (sNB s) := by
 unfold inst_stackN.f sNB
 by_cases h1 : s = 2
 ·simp [h1]
 by_cases h2 : s = 7
 ·simp [h2]
 by_cases h3 : s = 8
 ·simp [h3]
 simp [h1, h2, h3]
theorem rD_hD (op : Int) (h : rDB op = true) : hD (shN op) = true := by
 unfold rDB at h
 rw [decide_eq_true_iff] at h
 rcases h with rfl | rfl | rfl | rfl | rfl <;> decide
/-- What an instruction reads. -/
def readL (op d n m a : Int) : List Int :=
 addIf (decide (op = 37)) (addIf (decide (d < 31) && rDB op) (addIf (hA (shN op) && decide (a < 31)) (addIf (hM (shN op) && decide (m < 31)) (addIf (hN (shN op) && (decide (n < 31) || sNB (shN op))) [] n) m) a) d) 0
theorem readL_sorted (op d n m a : Int) : (readL op d n m a).Pairwise (· < ·) := addIf_sorted (addIf_sorted (addIf_sorted (addIf_sorted (addIf_sorted (by simp)))))
theorem isB_regs {op d n m a im : Int} {v : Nat} {sh am co : Int} (h : isB op d n m a im v sh am co = true) :
  shN op ≠ 0 ∧ regB d (hD (shN op)) = true ∧ regB n (hN (shN op)) = true ∧ regB m (hM (shN op)) = true ∧ regB a (hA (shN op)) = true := by
 unfold isB at h
 simp only [Bool.and_eq_true, decide_eq_true_iff] at h
 obtain ⟨⟨⟨⟨⟨⟨⟨⟨h0, h1⟩, h2⟩, h3⟩, h4⟩, _⟩, _⟩, _⟩, _⟩ := h
 exact ⟨h0, h1, h2, h3, h4⟩
theorem regB_in {r : Int} {there : Bool} (h : regB r there = true) (ht : there = true) : 0 ≤ r ∧ r ≤ 31 := by
 unfold regB at h
 rw [if_pos ht, decide_eq_true_iff] at h
 exact h
theorem Reads_f (op d n m a im : Int) (v : Nat) (hv : v < 18446744073709551616) (sh am co : Int) (k : Nat) (hk : 210 ≤ k) :
  inst_Reads.f k op d n m a im v sh am co = some (if isB op d n m a im v sh am co = true then readL op d n m a else []) := by
 unfold inst_Reads.f
 rw [Is_f op d n m a im v hv sh am co k hk, Option.bind_some]
 cases hB : isB op d n m a im v sh am co
 ·rw [if_neg (by decide), if_neg (by decide)]
 ·rw [if_pos rfl, if_pos rfl, shape_f, Option.bind_some, has_f op k (by omega), Option.bind_some, readsD_f, Option.bind_some]
  obtain ⟨h0, h1, h2, h3, h4⟩ := isB_regs hB
  obtain ⟨s1, e1⟩ := gather_some (List.replicate 32 false) d (rDB op) false (fun h => regB_in h1 (rD_hD op h))
  rw [e1, Option.bind_some, stackN_f, Option.bind_some]
  obtain ⟨s2, e2⟩ := gather_some s1 n (hN (shN op)) (sNB (shN op)) (regB_in h2)
  rw [e2, Option.bind_some]
  obtain ⟨s3, e3⟩ := gather_some s2 m (hM (shN op)) false (regB_in h3)
  rw [e3, Option.bind_some]
  obtain ⟨s4, e4⟩ := gather_some s3 a (hA (shN op)) false (regB_in h4)
  rw [e4, Option.bind_some]
  obtain ⟨s5, e5⟩ := gather_some s4 0 (op == 37) false (fun _ => by decide)
  rw [e5, Option.bind_some]
  have l1 := gatherO_len e1
  have l2 := gatherO_len e2
  have l3 := gatherO_len e3
  have l4 := gatherO_len e4
  rw [List.length_replicate] at l1
  congr 1
  refine eq_of_mem (regsUp_sorted _ _) (readL_sorted _ _ _ _ _) (fun x => ?_)
  have z0 : x ∈ regsUp (List.replicate 32 false) 32 ↔ False := by
   rw [regsUp_mem]
   constructor
   ·rintro ⟨j, hj, hg, _⟩
    rw [List.getD_eq_getElem?_getD, List.getElem?_replicate, if_pos hj] at hg
    cases hg
   ·exact False.elim
  rw [gather_mem (by omega) e5, gather_mem (by omega) e4, gather_mem (by omega) e3, gather_mem (by omega) e2, gather_mem (by simp) e1, z0]
  unfold readL
  rw [addIf_mem (addIf_sorted (addIf_sorted (addIf_sorted (addIf_sorted (by simp))))), addIf_mem (addIf_sorted (addIf_sorted (addIf_sorted (by simp)))), addIf_mem (addIf_sorted (addIf_sorted (by simp))), addIf_mem (addIf_sorted (by simp)), addIf_mem (by simp)]
  simp only [List.not_mem_nil, Bool.and_eq_true, Bool.or_eq_true, decide_eq_true_iff, beq_iff_eq, Bool.false_eq_true, or_false, false_or]
  have r1 := fun h => regB_in h1 (rD_hD op h)
  have r2 := regB_in h2
  have r3 := regB_in h3
  have r4 := regB_in h4
  constructor
  ·rintro ((((⟨⟨p, q⟩, e⟩ | ⟨⟨p, q⟩, e⟩) | ⟨⟨p, q⟩, e⟩) | ⟨⟨p, q⟩, e⟩) | ⟨⟨p, q⟩, e⟩)
   ·have := r1 p
    exact Or.inl (Or.inr ⟨⟨by omega, p⟩, e⟩)
   ·have := r2 p
    refine Or.inl (Or.inl (Or.inl (Or.inl ⟨⟨p, ?_⟩, e⟩)))
    rcases q with q | q
    ·exact Or.inl (by omega)
    ·exact Or.inr q
   ·have := r3 p
    exact Or.inl (Or.inl (Or.inl (Or.inr ⟨⟨p, by omega⟩, e⟩)))
   ·have := r4 p
    exact Or.inl (Or.inl (Or.inr ⟨⟨p, by omega⟩, e⟩))
   ·exact Or.inr ⟨p, e⟩
  ·rintro ((((⟨⟨p, q⟩, e⟩ | ⟨⟨p, q⟩, e⟩) | ⟨⟨p, q⟩, e⟩) | ⟨⟨q, p⟩, e⟩) | ⟨p, e⟩)
   ·refine Or.inl (Or.inl (Or.inl (Or.inr ⟨⟨p, ?_⟩, e⟩)))
    rcases q with q | q
    ·exact Or.inl (by omega)
    ·exact Or.inr q
   ·exact Or.inl (Or.inl (Or.inr ⟨⟨p, by omega⟩, e⟩))
   ·exact Or.inl (Or.inr ⟨⟨p, by omega⟩, e⟩)
   ·exact Or.inl (Or.inl (Or.inl (Or.inl ⟨⟨p, by omega⟩, e⟩)))
   ·exact Or.inr ⟨⟨p, by omega⟩, e⟩
def sDB (op : Int) : Bool := decide (op = 4 ∨ op = 5 ∨ op = 8 ∨ op = 9 ∨ op = 10)
theorem stackD_f (op : Int) : inst_stackD.f op = some (sDB op) := by
 unfold inst_stackD.f sDB
 by_cases h1 : op = 4
 ·simp [h1]
 by_cases h2 : op = 5
 ·simp [h2]
 by_cases h3 : op = 8
 ·simp [h3]
 by_cases h4 : op = 9
 ·simp [h4]
 by_cases h5 : op = 10
 ·simp [h5]
 simp [h1, h2, h3, h4, h5]
/-- What an instruction writes. -/
def writeR (op d : Int) : Int × Bool :=
 if op = 30 ∨ op = 35 then (30, true) else if hD (shN op) = true ∧ (op = 3 ∨ rDB op = false) then (if d = 31 ∧ sDB op = false then (0, false) else (d, true)) else (0, false)
theorem Writes_f (op d n m a im : Int) (v : Nat) (hv : v < 18446744073709551616) (sh am co : Int) (k : Nat) (hk : 220 ≤ k) :
  inst_Writes.f k op d n m a im v sh am co = some (if isB op d n m a im v sh am co = true then writeR op d else (0, false)) := by
 unfold inst_Writes.f
 rw [Is_f op d n m a im v hv sh am co k (by omega), Option.bind_some]
 cases hB : isB op d n m a im v sh am co
 ·rw [if_neg (by decide), if_neg (by decide)]
 ·rw [if_pos rfl, if_pos rfl]
  obtain ⟨k, rfl⟩ : ∃ m, k = m + 2 := ⟨k - 2, by omega⟩
  have hh := has_f op (k + 1) (by omega)
  unfold writeR
  simp only [inst_Writes.j0, inst_Writes.j1, shape_f, hh, readsD_f, stackD_f, Option.bind_some]
  by_cases h1 : op = 30
  ·simp [h1]
  by_cases h2 : op = 35
  ·simp [h2]
  have h2' : (op == 35) = false := beq_eq_false_iff_ne.2 h2
  simp only [if_neg h1, h2', if_neg (show ¬ (op = 30 ∨ op = 35) by omega)]
  cases hD (shN op)
  ·simp
  ·by_cases h3 : op = 3
   ·subst h3
    by_cases h4 : d = 31
    ·subst h4
     cases sDB 3 <;> simp
    ·simp [h4]
   ·cases rDB op
    ·by_cases h4 : d = 31
     ·subst h4
      cases sDB op <;> simp [h3]
     ·simp [h3, h4]
    ·simp [h3]
end Go.Proofs.YtgonbeifaioheaaDoor.In
