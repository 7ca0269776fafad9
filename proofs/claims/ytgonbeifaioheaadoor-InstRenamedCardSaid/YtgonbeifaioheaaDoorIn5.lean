/- What InstOwn and InstRenamed want of the plain instruction: what is read is one of its registers; membership by the loop. -/
import Derived.Test.YtgonbeifaioheaaDoorIn3
import Derived.Test.YtgonbeifaioheaaDoorPx13
namespace Go.Proofs.YtgonbeifaioheaaDoor.In
open Go.RowKit Go.Proofs.YtgonbeifaioheaaDoor.P Go.Proofs.YtgonbeifaioheaaDoor.K Go.Proofs.YtgonbeifaioheaaDoorW.PrintWords Go.Proofs.YtgonbeifaioheaaDoorW.PrintLast Go.Proofs.YtgonbeifaioheaaDoorW.PrintMore
theorem regB_31 {r : Int} {there : Bool} (h : regB r there = true) : 0 ≤ r ∧ r ≤ 31 := by
 unfold regB at h
 cases there
 ·rw [if_neg (by decide)] at h
  have := beq_iff_eq.1 h
  omega
 ·rw [if_pos rfl] at h
  exact of_decide_eq_true h
theorem readL_own {op d n m a im : Int} {v : Nat} {sh am co : Int} (h : isB op d n m a im v sh am co = true) {x : Int} (hx : x ∈ readL op d n m a) : 0 ≤ x ∧ x ≤ 31 ∧ (x ∈ [d, n, m, a] ∨ (op = 37 ∧ x = 0)) := by
 obtain ⟨_, h1, h2, h3, h4⟩ := isB_regs h
 have h1 := regB_31 h1
 have h2 := regB_31 h2
 have h3 := regB_31 h3
 have h4 := regB_31 h4
 unfold readL at hx
 rw [addIf_mem (addIf_sorted (addIf_sorted (addIf_sorted (addIf_sorted (by simp))))), addIf_mem (addIf_sorted (addIf_sorted (addIf_sorted (by simp)))), addIf_mem (addIf_sorted (addIf_sorted (by simp))), addIf_mem (addIf_sorted (by simp)), addIf_mem (by simp)] at hx
 rcases hx with ((((hx | ⟨_, rfl⟩) | ⟨_, rfl⟩) | ⟨_, rfl⟩) | ⟨_, rfl⟩) | ⟨g, rfl⟩
 ·simp at hx
 ·exact ⟨h2.1, h2.2, Or.inl (by simp)⟩
 ·exact ⟨h3.1, h3.2, Or.inl (by simp)⟩
 ·exact ⟨h4.1, h4.2, Or.inl (by simp)⟩
 ·exact ⟨h1.1, h1.2, Or.inl (by simp)⟩
 ·exact ⟨by omega, by omega, Or.inr ⟨of_decide_eq_true g, rfl⟩⟩
theorem rise_at {l : List Int} (h : l.Pairwise (· < ·)) (i : Nat) (hi : i + 1 < l.length) : l.getD i 0 < l.getD (i + 1) 0 := by
 rw [List.pairwise_iff_getElem] at h
 have := h i (i + 1) (by omega) hi (by omega)
 rw [List.getD_eq_getElem?_getD, List.getD_eq_getElem?_getD, List.getElem?_eq_getElem (by omega), List.getElem?_eq_getElem hi]
 exact this
theorem getD_mem (l : List Int) (i : Nat) (h : i < l.length) : l.getD i 0 ∈ l := by
 rw [List.getD_eq_getElem?_getD, List.getElem?_eq_getElem h]
 exact List.getElem_mem h
theorem rd_nat (l : List Int) (i : Nat) : rd l (i : Int) = l.getD i 0 := rfl
theorem rd_mem (l : List Int) (x : Int) (h0 : 0 ≤ x) (h1 : x < l.length) : rd l x ∈ l := by
 obtain ⟨i, rfl⟩ := Int.eq_ofNat_of_zero_le h0
 rw [rd_nat]
 exact getD_mem l i (by omega)
theorem rd_rise {l : List Int} (h : l.Pairwise (· < ·)) (x : Int) (h0 : 0 < x) (h1 : x < l.length) : rd l (x - 1) < rd l x := by
 obtain ⟨i, rfl⟩ : ∃ i : Nat, x = ((i + 1 : Nat) : Int) := ⟨(x - 1).toNat, by omega⟩
 rw [show ((i + 1 : Nat) : Int) - 1 = (i : Int) by omega, rd_nat, rd_nat]
 exact rise_at h i (by omega)
theorem has_l0 (l : List Int) (v : Int) (hl : l.length ≤ 1000) : ∀ (d k i : Nat), i + d = l.length → d < k → cleatlaw04_has.l0 k l v (i : Int) = some (decide (v ∈ l.drop i)) := by
 intro d
 induction d with
 | zero =>
  intro k i h hk
  obtain ⟨k, rfl⟩ : ∃ m, k = m + 1 := ⟨k - 1, by omega⟩
  simp only [cleatlaw04_has.l0]
  rw [if_neg (by omega), List.drop_eq_nil_of_le (by omega)]
  rfl
 | succ d ih =>
  intro k i h hk
  obtain ⟨k, rfl⟩ : ∃ m, k = m + 1 := ⟨k - 1, by omega⟩
  have hd : l.drop i = l.getD i 0 :: l.drop (i + 1) := by
   rw [List.drop_eq_getElem_cons (by omega), List.getD_eq_getElem?_getD, List.getElem?_eq_getElem (by omega)]
   rfl
  have hnx : wrap64 ((i : Int) + 1) = ((i + 1 : Nat) : Int) := by rw [w64_in ⟨by omega, by omega⟩]; rfl
  simp only [cleatlaw04_has.l0]
  rw [if_pos (by omega), if_pos (by omega), rd_nat, hnx, ih k (i + 1) (by omega) (by omega), hd]
  by_cases q : l.getD i 0 = v
  ·rw [if_pos q, decide_eq_true (by rw [q]; exact List.mem_cons_self)]
  ·rw [if_neg q]
   have q : ¬ v = l.getD i 0 := fun e => q e.symm
   exact congrArg some (decide_eq_decide.2 ⟨fun h => List.mem_cons_of_mem _ h, fun h => (List.mem_cons.1 h).resolve_left q⟩)
theorem has_f4 (l : List Int) (v : Int) (hl : l.length ≤ 8) : cleatlaw04_has.f 10 l v = some (decide (v ∈ l)) := by
 unfold cleatlaw04_has.f
 exact has_l0 l v (by omega) l.length 10 0 (by omega) (by omega)
end Go.Proofs.YtgonbeifaioheaaDoor.In
