/- InstNamed, as plain Lean: names, shapes and the operations of a name are the reference's. -/
import Derived.Test.YtgonbeifaioheaaDoorQInstNamed
import Derived.Test.YtgonbeifaioheaaDoorIn1
import Derived.Test.YtgonbeifaioheaaDoorPx12
import Derived.Test.YtgonbeifaioheaaDoorPx16
namespace Go.Proofs.YtgonbeifaioheaaDoor.Nm
open Go.RowKit Go.Proofs.YtgonbeifaioheaaDoor.P Go.Proofs.YtgonbeifaioheaaDoor.K Go.Proofs.YtgonbeifaioheaaDoor.In Go.Proofs.YtgonbeifaioheaaDoor.Q Go.Proofs.YtgonbeifaioheaaDoorW.PrintWords Go.Proofs.YtgonbeifaioheaaDoorW.PrintLast Go.Proofs.YtgonbeifaioheaaDoorW.PrintMore
theorem same_l (l : List Int) : ∀ (d k i : Nat), i + d = l.length → d < k → l.length ≤ 1000000 → cleatref04_Same.l0 k l l (i : Int) = some true := by
  intro d
  induction d with
  | zero =>
    intro k i h hk hl
    obtain ⟨k, rfl⟩ : ∃ m, k = m + 1 := ⟨k - 1, by omega⟩
    simp only [cleatref04_Same.l0]
    rw [if_neg (by omega)]
  | succ d ih =>
    intro k i h hk hl
    obtain ⟨k, rfl⟩ : ∃ m, k = m + 1 := ⟨k - 1, by omega⟩
    simp only [cleatref04_Same.l0]
    rw [if_pos (by omega), if_pos (by omega), if_pos (by omega), if_pos trivial, w64_in ⟨by omega, by omega⟩]
    exact ih k (i + 1) (by omega) (by omega) hl
theorem same_f (l : List Int) (k : Nat) (hk : l.length < k) (hl : l.length ≤ 1000000) : cleatref04_Same.f k l l = some true := by
  unfold cleatref04_Same.f
  rw [if_pos rfl]
  exact same_l l l.length k 0 (by omega) hk hl
theorem rnames_f : cleatref04_names.f = some namesL := rfl
theorem rName_f (op : Int) : cleatref04_Name.f op = inst_Name.f op := by
  unfold cleatref04_Name.f inst_Name.f
  rw [rshape_f, Option.bind_some, rnames_f, Option.bind_some]
  show _ = some (if shN op = 0 then _ else _)
  by_cases h : shN op = 0
  · rw [if_pos h, if_pos h]
  · rw [if_neg h, if_neg h]
    have hr : 1 ≤ op ∧ op ≤ 39 := Classical.not_not.1 (fun e => h ((shape_zero op).2 e))
    have hl : ((namesL.length : Nat) : Int) = 40 := by decide
    rw [if_pos (by omega), if_pos (by omega)]
    rfl
theorem ops_l (s : ByteArray) : ∀ (d k i : Nat), 1 ≤ i → i + d = 40 → d < k → cleatref04_Ops.l0 k s (opsFrom s i) namesL (i : Int) = some (opsFrom s 40) := by
  intro d
  induction d with
  | zero =>
    intro k i h1 h hk
    obtain ⟨k, rfl⟩ : ∃ m, k = m + 1 := ⟨k - 1, by omega⟩
    obtain rfl : i = 40 := by omega
    simp only [cleatref04_Ops.l0]
    rw [if_neg (by omega)]
  | succ d ih =>
    intro k i h1 h hk
    obtain ⟨k, rfl⟩ : ∃ m, k = m + 1 := ⟨k - 1, by omega⟩
    have hl : ((namesL.length : Nat) : Int) = 40 := by decide
    have hn : wrap64 ((i : Int) + 1) = ((i + 1 : Nat) : Int) := by rw [w64_in ⟨by omega, by omega⟩]; omega
    have hlen := opsFrom_len s i
    have hrd : rdOf ByteArray.empty namesL (i : Int) = namesL.getD i ByteArray.empty := rfl
    have ih := ih k (i + 1) (by omega) (by omega) (by omega)
    rw [opsFrom_succ s i h1] at ih
    simp only [cleatref04_Ops.l0]
    rw [if_pos (by omega), if_pos (by omega), if_pos (by omega), hrd, hn]
    by_cases q : (namesL.getD i ByteArray.empty).toList = s.toList
    · rw [if_pos q, if_pos (by omega)]
      rw [if_pos (beq_iff_eq.2 q)] at ih
      exact ih
    · rw [if_neg q]
      rw [if_neg (fun e => q (beq_iff_eq.1 e))] at ih
      exact ih
theorem rOps_f (s : ByteArray) (k : Nat) (hk : 50 ≤ k) : cleatref04_Ops.f k s = some (opsFrom s 40) := by
  unfold cleatref04_Ops.f
  rw [rnames_f, Option.bind_some]
  have := ops_l s 39 k 1 (by omega) (by omega) (by omega)
  have e : opsFrom s 1 = [] := by simp [opsFrom]
  rw [e] at this
  exact this
end Go.Proofs.YtgonbeifaioheaaDoor.Nm
namespace Go.Proofs.YtgonbeifaioheaaDoor.Pure
open Go.RowKit Go.Proofs.YtgonbeifaioheaaDoor.P Go.Proofs.YtgonbeifaioheaaDoor.K Go.Proofs.YtgonbeifaioheaaDoor.In Go.Proofs.YtgonbeifaioheaaDoor.Nm Go.Proofs.YtgonbeifaioheaaDoor.Q Go.Proofs.YtgonbeifaioheaaDoorW.PrintWords Go.Proofs.YtgonbeifaioheaaDoorW.PrintLast Go.Proofs.YtgonbeifaioheaaDoorW.PrintMore
theorem InstNamed : cleatlaw04_InstNamed.Pure := by
  intro op s _ _
  refine ⟨100, ?_⟩
  unfold cleatlaw04_InstNamed.f
  rw [rName_f]
  obtain ⟨p, hp⟩ : ∃ p, inst_Name.f op = some p := ⟨_, rfl⟩
  rw [hp, Option.bind_some, Option.bind_some, show cleatlaw04_shaped.f = some true from rfl, Option.bind_some, if_pos rfl, shape_f, Option.bind_some, rshape_f, Option.bind_some, if_pos rfl, if_pos rfl, if_pos rfl,
    show inst_Ops.f s = some (opsFrom s 40) from rfl, Option.bind_some, rOps_f s 100 (by decide), Option.bind_some, same_f _ 100 (by have := opsFrom_len s 40; omega) (by have := opsFrom_len s 40; omega), Option.bind_some]
end Go.Proofs.YtgonbeifaioheaaDoor.Pure
