/- InstBack, as plain Lean: each operation is one of those of its name; those of a name rise, and have it. -/
import Derived.Test.YtgonbeifaioheaaDoorQInstBack
import Derived.Test.YtgonbeifaioheaaDoorIn1
import Derived.Test.YtgonbeifaioheaaDoorPx12
import Derived.Test.YtgonbeifaioheaaDoorPx16
namespace Go.Proofs.YtgonbeifaioheaaDoor.Nb
open Go.RowKit Go.Proofs.YtgonbeifaioheaaDoor.P Go.Proofs.YtgonbeifaioheaaDoor.K Go.Proofs.YtgonbeifaioheaaDoor.In Go.Proofs.YtgonbeifaioheaaDoor.Q Go.Proofs.YtgonbeifaioheaaDoorW.PrintWords Go.Proofs.YtgonbeifaioheaaDoorW.PrintLast Go.Proofs.YtgonbeifaioheaaDoorW.PrintMore
theorem ops_mem (s : ByteArray) (v : Int) : v ∈ opsFrom s 40 ↔ ∃ i : Nat, i < 40 ∧ 1 ≤ i ∧ (namesL.getD i ByteArray.empty).toList = s.toList ∧ v = (i : Int) := by
  unfold opsFrom
  rw [List.mem_map]
  constructor
  · rintro ⟨i, hi, rfl⟩
    rw [List.mem_filter, List.mem_range, Bool.and_eq_true, decide_eq_true_eq, beq_iff_eq] at hi
    exact ⟨i, hi.1, hi.2.1, hi.2.2, rfl⟩
  · rintro ⟨i, h1, h2, h3, rfl⟩
    refine ⟨i, ?_, rfl⟩
    rw [List.mem_filter, List.mem_range, Bool.and_eq_true, decide_eq_true_eq, beq_iff_eq]
    exact ⟨h1, h2, h3⟩
theorem ops_rise (s : ByteArray) : (opsFrom s 40).Pairwise (· < ·) := by
  unfold opsFrom
  rw [List.pairwise_map]
  exact (List.Pairwise.filter _ List.pairwise_lt_range).imp (fun h => by omega)
theorem rise_at {l : List Int} (h : l.Pairwise (· < ·)) (i : Nat) (hi : i + 1 < l.length) : l.getD i 0 < l.getD (i + 1) 0 := by
  rw [List.pairwise_iff_getElem] at h
  have := h i (i + 1) (by omega) hi (by omega)
  rw [List.getD_eq_getElem?_getD, List.getD_eq_getElem?_getD, List.getElem?_eq_getElem (by omega), List.getElem?_eq_getElem hi]
  exact this
theorem getD_mem (l : List Int) (i : Nat) (h : i < l.length) : l.getD i 0 ∈ l := by
  rw [List.getD_eq_getElem?_getD, List.getElem?_eq_getElem h]
  exact List.getElem_mem h
theorem rd_nat (l : List Int) (i : Nat) : rd l (i : Int) = l.getD i 0 := rfl
theorem l0_run (op : Int) (s : ByteArray) (L : List Int) (hL : L.length ≤ 1000) : ∀ (d k i : Nat) (b : Bool), i + d = L.length →
    cleatlaw04_InstBack.l0 (k + d + 1) op s b L (i : Int) = cleatlaw04_InstBack.l1 k op s (b || (L.drop i).any (· == op)) (opsFrom s 40) 0 := by
  intro d
  induction d with
  | zero =>
    intro k i b h
    simp only [cleatlaw04_InstBack.l0]
    rw [if_neg (by omega), List.drop_eq_nil_of_le (by omega), List.any_nil, Bool.or_false]
    rfl
  | succ d ih =>
    intro k i b h
    have hd : L.drop i = L.getD i 0 :: L.drop (i + 1) := by
      rw [List.drop_eq_getElem_cons (by omega), List.getD_eq_getElem?_getD, List.getElem?_eq_getElem (by omega)]
      rfl
    rw [show k + (d + 1) + 1 = (k + d + 1) + 1 by omega]
    have this := fun b => ih k (i + 1) b (by omega)
    generalize k + d + 1 = K at this ⊢
    simp only [cleatlaw04_InstBack.l0]
    have hw : wrap64 ((i : Int) + 1) = ((i + 1 : Nat) : Int) := by rw [w64_in ⟨by omega, by omega⟩]; rfl
    rw [if_pos (by omega), hd, List.any_cons, hw, rd_nat]
    cases b
    · rw [if_neg (by decide), if_pos (by omega)]
      refine (this _).trans ?_
      rw [Bool.false_or]
    · rw [if_pos rfl]
      refine (this _).trans ?_
      rw [Bool.true_or, Bool.true_or]
theorem name_in (s : ByteArray) (i : Nat) (hi : i < (opsFrom s 40).length) : ∃ t : ByteArray, inst_Name.f ((opsFrom s 40).getD i 0) = some (t, 0) ∧ t.toList = s.toList := by
  obtain ⟨j, h1, h2, h3, h4⟩ := (ops_mem s _).1 (getD_mem _ i hi)
  rw [h4]
  refine ⟨namesL.getD j ByteArray.empty, ?_, h3⟩
  unfold inst_Name.f
  rw [if_neg (fun e => (shape_zero _).1 e ⟨by omega, by omega⟩)]
  rfl
theorem sh_16 (op : Int) : shN op ≤ 16 := by
  obtain ⟨i, h, e⟩ := shN_range op
  omega
theorem l1_run (op : Int) (s : ByteArray) (h1 : 1 ≤ shN op) : ∀ (d k i : Nat), i + d = (opsFrom s 40).length →
    cleatlaw04_InstBack.l1 (k + d + 1) op s true (opsFrom s 40) (i : Int) = some true := by
  have hlen := opsFrom_len s 40
  intro d
  induction d with
  | zero =>
    intro k i h
    simp only [cleatlaw04_InstBack.l1]
    rw [if_neg (by omega), show cleatlaw04_shaped.f = some true from rfl, Option.bind_some, if_pos rfl, if_pos trivial, shape_f, Option.bind_some, if_pos h1, Option.bind_some, decide_eq_true (sh_16 op)]
  | succ d ih =>
    intro k i h
    obtain ⟨t, ht, hts⟩ := name_in s i (by omega)
    have ih := ih k (i + 1) (by omega)
    have hnx : wrap64 ((i : Int) + 1) = ((i + 1 : Nat) : Int) := by rw [w64_in ⟨by omega, by omega⟩]; rfl
    rw [show k + (d + 1) + 1 = (k + d + 1) + 1 by omega]
    generalize k + d + 1 = K at ih ⊢
    simp only [cleatlaw04_InstBack.l1]
    rw [if_pos (by omega), if_pos (by omega), rd_nat, ht, Option.bind_some, if_pos rfl, if_pos hts, hnx, ih]
    by_cases h0 : (i : Int) > 0
    · rw [if_pos h0, w64_in ⟨by omega, by omega⟩, if_pos (by omega), if_pos (by omega)]
      obtain ⟨i, rfl⟩ : ∃ j, i = j + 1 := ⟨i - 1, by omega⟩
      rw [show ((i + 1 : Nat) : Int) - 1 = (i : Int) by omega, rd_nat]
      have := rise_at (ops_rise s) i (by omega)
      rw [if_neg (by omega)]
    · rw [if_neg h0]
end Go.Proofs.YtgonbeifaioheaaDoor.Nb
namespace Go.Proofs.YtgonbeifaioheaaDoor.Pure
open Go.RowKit Go.Proofs.YtgonbeifaioheaaDoor.P Go.Proofs.YtgonbeifaioheaaDoor.K Go.Proofs.YtgonbeifaioheaaDoor.In Go.Proofs.YtgonbeifaioheaaDoor.Nb Go.Proofs.YtgonbeifaioheaaDoor.Q Go.Proofs.YtgonbeifaioheaaDoorW.PrintWords Go.Proofs.YtgonbeifaioheaaDoorW.PrintLast Go.Proofs.YtgonbeifaioheaaDoorW.PrintMore
theorem InstBack : cleatlaw04_InstBack.Pure := by
  intro op s _ _
  unfold cleatlaw04_InstBack.f
  by_cases hr : 1 ≤ op ∧ op ≤ 39
  · have hz : ¬ shN op = 0 := fun e => (shape_zero op).1 e hr
    have hn : inst_Name.f op = some (namesL.getD op.toNat ByteArray.empty, 0) := by
      unfold inst_Name.f
      rw [if_neg (fun e => (shape_zero _).1 e hr)]
    obtain ⟨i, hi, e⟩ := shN_range op
    have hl := opsFrom_len (namesL.getD op.toNat ByteArray.empty) 40
    refine ⟨(0 + (opsFrom s 40).length + 1) + (opsFrom (namesL.getD op.toNat ByteArray.empty) 40).length + 1, ?_⟩
    rw [hn, Option.bind_some, if_pos rfl, show inst_Ops.f (namesL.getD op.toNat ByteArray.empty) = some (opsFrom (namesL.getD op.toNat ByteArray.empty) 40) from rfl, Option.bind_some]
    refine (l0_run op s _ (by omega) _ _ 0 false (by omega)).trans ?_
    have hany : ((opsFrom (namesL.getD op.toNat ByteArray.empty) 40).drop 0).any (· == op) = true := by
      rw [List.drop_zero, List.any_eq_true]
      exact ⟨op, (ops_mem _ _).2 ⟨op.toNat, by omega, by omega, rfl, by omega⟩, beq_self_eq_true op⟩
    rw [hany, Bool.or_true]
    exact l1_run op s (by omega) _ 0 0 (by omega)
  · have hz : shN op = 0 := (shape_zero op).2 hr
    have hn : inst_Name.f op = some ((⟨#[]⟩ : ByteArray), 1) := by
      unfold inst_Name.f
      rw [if_pos ((shape_zero op).2 hr)]
    refine ⟨0, ?_⟩
    rw [hn, Option.bind_some, if_neg (by decide), show cleatlaw04_shaped.f = some true from rfl, Option.bind_some, if_pos rfl, if_pos (by decide +kernel), shape_f, Option.bind_some, if_pos hz]
    by_cases h1 : op < 1
    · rw [if_pos h1]
    · rw [if_neg h1, decide_eq_true (by omega)]
end Go.Proofs.YtgonbeifaioheaaDoor.Pure
