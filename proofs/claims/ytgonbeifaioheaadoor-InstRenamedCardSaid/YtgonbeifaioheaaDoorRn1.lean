/- InstRenamed, as plain Lean: two registers that change places. -/
import Derived.Test.YtgonbeifaioheaaDoorIn5
namespace Go.Proofs.YtgonbeifaioheaaDoor.In
open Go.RowKit Go.Proofs.YtgonbeifaioheaaDoor.P Go.Proofs.YtgonbeifaioheaaDoor.K Go.Proofs.YtgonbeifaioheaaDoorW.PrintWords Go.Proofs.YtgonbeifaioheaaDoorW.PrintLast Go.Proofs.YtgonbeifaioheaaDoorW.PrintMore
theorem readL_len (op d n m a : Int) : (readL op d n m a).length ≤ 5 := by
 unfold readL
 refine Nat.le_trans (addIf_len _ _ _) (Nat.succ_le_succ ?_)
 refine Nat.le_trans (addIf_len _ _ _) (Nat.succ_le_succ ?_)
 refine Nat.le_trans (addIf_len _ _ _) (Nat.succ_le_succ ?_)
 refine Nat.le_trans (addIf_len _ _ _) (Nat.succ_le_succ ?_)
 exact addIf_len _ _ _
def sg (p q v : Int) : Int := if v = p then q else if v = q then p else v
def Low (p : Int) : Prop := 0 ≤ p ∧ p ≤ 30
theorem sg_sg (p q v : Int) : sg p q (sg p q v) = v := by
 unfold sg
 by_cases h : v = p
 ·rw [if_pos h]
  by_cases g : q = p
  ·rw [if_pos g]; omega
  ·rw [if_neg g, if_pos rfl]; exact h.symm
 ·rw [if_neg h]
  by_cases g : v = q
  ·rw [if_pos g, if_pos rfl]; exact g.symm
  ·rw [if_neg g, if_neg h, if_neg g]
theorem sg_31 {p q : Int} (hp : Low p) (hq : Low q) (v : Int) : sg p q v < 31 ↔ v < 31 := by
 unfold Low at hp hq
 unfold sg
 split
 ·omega
 ·split <;> omega
theorem sg_is31 {p q : Int} (hp : Low p) (hq : Low q) (v : Int) : sg p q v = 31 ↔ v = 31 := by
 unfold Low at hp hq
 unfold sg
 split
 ·omega
 ·split <;> omega
/-- A register's number behind the change, where the shape has it. -/
def sw (p q : Int) (c : Bool) (v : Int) : Int := if c = true then sg p q v else v
theorem regB_sw {p q : Int} (hp : Low p) (hq : Low q) (c : Bool) (v : Int) : regB (sw p q c v) c = regB v c := by
 unfold regB sw
 cases c
 ·rfl
 ·simp only [if_true]
  unfold Low at hp hq
  unfold sg
  refine decide_eq_decide.2 ?_
  split
  ·omega
  ·split <;> omega
theorem isB_sw {op d n m a im : Int} {v : Nat} {sh am co p q : Int} (hp : Low p) (hq : Low q) :
  isB op (sw p q (hD (shN op)) d) (sw p q (hN (shN op)) n) (sw p q (hM (shN op)) m) (sw p q (hA (shN op)) a) im v sh am co = isB op d n m a im v sh am co := by
 unfold isB
 rw [regB_sw hp hq, regB_sw hp hq, regB_sw hp hq, regB_sw hp hq]
theorem mem_readL {op d n m a x : Int} : x ∈ readL op d n m a ↔ (hN (shN op) = true ∧ (n < 31 ∨ sNB (shN op) = true) ∧ x = n) ∨ (hM (shN op) = true ∧ m < 31 ∧ x = m) ∨ (hA (shN op) = true ∧ a < 31 ∧ x = a) ∨ (rDB op = true ∧ d < 31 ∧ x = d) ∨ (op = 37 ∧ x = 0) := by
 unfold readL
 rw [addIf_mem (addIf_sorted (addIf_sorted (addIf_sorted (addIf_sorted (by simp))))), addIf_mem (addIf_sorted (addIf_sorted (addIf_sorted (by simp)))), addIf_mem (addIf_sorted (addIf_sorted (by simp))), addIf_mem (addIf_sorted (by simp)), addIf_mem (by simp)]
 simp only [List.not_mem_nil, false_or, Bool.and_eq_true, Bool.or_eq_true, decide_eq_true_iff]
 constructor
 ·rintro ((((⟨⟨h1, h2⟩, h3⟩ | ⟨⟨h1, h2⟩, h3⟩) | ⟨⟨h1, h2⟩, h3⟩) | ⟨⟨h1, h2⟩, h3⟩) | ⟨h1, h3⟩)
  ·exact Or.inl ⟨h1, h2, h3⟩
  ·exact Or.inr (Or.inl ⟨h1, h2, h3⟩)
  ·exact Or.inr (Or.inr (Or.inl ⟨h1, h2, h3⟩))
  ·exact Or.inr (Or.inr (Or.inr (Or.inl ⟨h2, h1, h3⟩)))
  ·exact Or.inr (Or.inr (Or.inr (Or.inr ⟨h1, h3⟩)))
 ·rintro (⟨h1, h2, h3⟩ | ⟨h1, h2, h3⟩ | ⟨h1, h2, h3⟩ | ⟨h1, h2, h3⟩ | ⟨h1, h3⟩)
  ·exact Or.inl (Or.inl (Or.inl (Or.inl ⟨⟨h1, h2⟩, h3⟩)))
  ·exact Or.inl (Or.inl (Or.inl (Or.inr ⟨⟨h1, h2⟩, h3⟩)))
  ·exact Or.inl (Or.inl (Or.inr ⟨⟨h1, h2⟩, h3⟩))
  ·exact Or.inl (Or.inr ⟨⟨h2, h1⟩, h3⟩)
  ·exact Or.inr ⟨h1, h3⟩
theorem sw_on {p q : Int} {c : Bool} (h : c = true) (v : Int) : sw p q c v = sg p q v := by rw [h]; rfl
theorem ren_mem {op d n m a p q : Int} (hp : Low p) (hq : Low q) (h37 : ¬ op = 37) {x : Int} (h : x ∈ readL op d n m a) :
  sg p q x ∈ readL op (sw p q (hD (shN op)) d) (sw p q (hN (shN op)) n) (sw p q (hM (shN op)) m) (sw p q (hA (shN op)) a) := by
 rw [mem_readL] at h ⊢
 rcases h with ⟨h1, h2, h3⟩ | ⟨h1, h2, h3⟩ | ⟨h1, h2, h3⟩ | ⟨h1, h2, h3⟩ | ⟨h1, h3⟩
 ·rw [sw_on h1, sg_31 hp hq]; exact Or.inl ⟨h1, h2, by rw [h3]⟩
 ·rw [sw_on h1, sg_31 hp hq]; exact Or.inr (Or.inl ⟨h1, h2, by rw [h3]⟩)
 ·rw [sw_on h1, sg_31 hp hq]; exact Or.inr (Or.inr (Or.inl ⟨h1, h2, by rw [h3]⟩))
 ·rw [sw_on (rD_hD op h1), sg_31 hp hq]; exact Or.inr (Or.inr (Or.inr (Or.inl ⟨h1, h2, by rw [h3]⟩)))
 ·exact absurd h1 h37
theorem sw_sw (p q : Int) (c : Bool) (v : Int) : sw p q c (sw p q c v) = v := by
 cases c
 ·rfl
 ·exact sg_sg p q v
theorem ren_len {op d n m a p q : Int} (hp : Low p) (hq : Low q) (h37 : ¬ op = 37) :
  (readL op (sw p q (hD (shN op)) d) (sw p q (hN (shN op)) n) (sw p q (hM (shN op)) m) (sw p q (hA (shN op)) a)).length = (readL op d n m a).length := by
 have nd : ∀ {l : List Int}, l.Pairwise (· < ·) → l.Nodup := fun h => h.imp (fun h => by omega)
 have h1 := nd (readL_sorted op (sw p q (hD (shN op)) d) (sw p q (hN (shN op)) n) (sw p q (hM (shN op)) m) (sw p q (hA (shN op)) a))
 have h2 : ((readL op d n m a).map (sg p q)).Nodup := by
  unfold List.Nodup
  rw [List.pairwise_map]
  exact (nd (readL_sorted op d n m a)).imp (fun {x y} h e => h (by have := congrArg (sg p q) e; rwa [sg_sg, sg_sg] at this))
 have := (List.perm_ext_iff_of_nodup h1 h2).2 (fun y => by
  rw [List.mem_map]
  constructor
  ·intro hy
   refine ⟨sg p q y, ?_, sg_sg p q y⟩
   have := ren_mem hp hq h37 hy
   rwa [sw_sw, sw_sw, sw_sw, sw_sw] at this
  ·rintro ⟨x, hx, rfl⟩
   exact ren_mem hp hq h37 hx)
 rw [this.length_eq, List.length_map]
theorem ren_write {op d p q : Int} (hp : Low p) (hq : Low q) (h30 : ¬ op = 30) (h35 : ¬ op = 35) :
  (writeR op (sw p q (hD (shN op)) d)).2 = (writeR op d).2 ∧ ((writeR op d).2 = true → (writeR op (sw p q (hD (shN op)) d)).1 = sg p q (writeR op d).1) := by
 unfold writeR
 have h0 : ¬ (op = 30 ∨ op = 35) := fun e => e.elim h30 h35
 rw [if_neg h0, if_neg h0]
 by_cases h1 : hD (shN op) = true ∧ (op = 3 ∨ rDB op = false)
 ·rw [if_pos h1, if_pos h1, sw_on h1.1]
  by_cases h2 : d = 31 ∧ sDB op = false
  ·rw [if_pos h2, if_pos ⟨(sg_is31 hp hq d).2 h2.1, h2.2⟩]
   exact ⟨rfl, fun e => by cases e⟩
  ·rw [if_neg h2, if_neg (fun e => h2 ⟨(sg_is31 hp hq d).1 e.1, e.2⟩)]
   exact ⟨rfl, fun _ => rfl⟩
 ·rw [if_neg h1, if_neg h1]
  exact ⟨rfl, fun e => by cases e⟩
end Go.Proofs.YtgonbeifaioheaaDoor.In
