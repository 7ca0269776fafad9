-- printed by wip/tools/myprint.py out of the translation. Not trusted: Lean checks it.
import Derived.Test.YteachdhnoakgeaaPx0
import Derived.Test.YteachdhnoakgeaaPx2
import Derived.Test.YteachdhnoakgeaaPx5
import Derived.Test.YteachdhnoakgeaaPx6
namespace Go.Proofs.Yteachdhnoakgeaa.P
open Go.RowKit Go.Proofs.YteachdhnoakgeaaW.PrintWords Go.Proofs.YteachdhnoakgeaaW.PrintLast Go.Proofs.YteachdhnoakgeaaW.PrintMore
attribute [local go_sem] max2_int min2_int max_two min_two max_three min_three max_four min_four   -- for this text's walks alone
set_option linter.unusedVariables false
set_option linter.unusedSimpArgs false

/-! ### cleatlaw02_MaskRow: function 6 -/
mutual
def cleatlaw02_MaskRow.j0 : Nat → Int → Int → Int → Bool → Option (Bool)
  | 0, _, _, _, _ => none
  | k + 1, x0, x1, x2, x40 => if x40 = true then ((cleatlaw02_masked.f k).bind fun t219 => (some t219)) else ((bits_Low.f 18446744073709551615 x0).bind fun t220 => (cleatlaw02_MaskRow.l0 k x0 x1 x2 t220 t220 x1))
def cleatlaw02_MaskRow.l0 : Nat → Int → Int → Int → Int → Int → Int → Option (Bool)
  | 0, _, _, _, _, _, _ => none
  | k + 1, x0, x1, x2, x7, x8, x9 => if x9 < 64 then (if 0 ≤ x9 then (cleatlaw02_MaskRow.l0 k x0 x1 x2 x7 (IntKind.u64.wrap (x8 + (IntKind.u64.wrap (x8 * (shl .u64 1 x9))))) (wrap64 (2 * x9))) else (none)) else ((mask_Is.f k x8).bind fun t221 => (if x0 > 0 then (if (t221 != (decide (x0 < x1))) = true then (cleatlaw02_MaskRow.j2 k x0 x1 x2 x7 true) else ((mask_Is.f k x7).bind fun t222 => (cleatlaw02_MaskRow.j2 k x0 x1 x2 x7 (t222 != (decide (x0 < 64)))))) else (if (t221 != false) = true then (cleatlaw02_MaskRow.j2 k x0 x1 x2 x7 true) else ((mask_Is.f k x7).bind fun t223 => (cleatlaw02_MaskRow.j2 k x0 x1 x2 x7 (t223 != false))))))
def cleatlaw02_MaskRow.j2 : Nat → Int → Int → Int → Int → Bool → Option (Bool)
  | 0, _, _, _, _, _ => none
  | k + 1, x0, x1, x2, x7, x76 => if x76 = true then (some false) else (if x1 < 64 then (cleatlaw02_MaskRow.j3 k x0 x2 x7 true) else (if x0 < 2 then (cleatlaw02_MaskRow.j3 k x0 x2 x7 true) else (if x0 > 60 then (cleatlaw02_MaskRow.j3 k x0 x2 x7 true) else (if x2 ≤ x0 then (cleatlaw02_MaskRow.j3 k x0 x2 x7 true) else (cleatlaw02_MaskRow.j3 k x0 x2 x7 (decide (x2 ≥ 63)))))))
def cleatlaw02_MaskRow.j3 : Nat → Int → Int → Int → Bool → Option (Bool)
  | 0, _, _, _, _ => none
  | k + 1, x0, x2, x7, x95 => if x95 = true then ((cleatlaw02_masked.f k).bind fun t224 => (some t224)) else ((cleatlaw02_masked.f k).bind fun t225 => (if t225 = true then (if 0 ≤ x2 then ((mask_Is.f k (IntKind.u64.wrap (x7 + (shl .u64 1 x2)))).bind fun t226 => (if t226 = true then (some false) else ((mask_Ones.f k (IntKind.u64.wrap (x7 + (shl .u64 1 x2)))).bind fun t227 => (some (t227 == (wrap64 (x0 + 1))))))) else (none)) else (some false)))
end
def cleatlaw02_MaskRow.f (k : Nat) (a0 : Int) (a1 : Int) (a2 : Int) : Option (Bool) := if a1 = 2 then (if a0 < 0 then (cleatlaw02_MaskRow.j0 k a0 a1 a2 true) else (cleatlaw02_MaskRow.j0 k a0 a1 a2 (decide (a0 > a1)))) else (if a1 = 4 then (if a0 < 0 then (cleatlaw02_MaskRow.j0 k a0 a1 a2 true) else (cleatlaw02_MaskRow.j0 k a0 a1 a2 (decide (a0 > a1)))) else (if a1 = 8 then (if a0 < 0 then (cleatlaw02_MaskRow.j0 k a0 a1 a2 true) else (cleatlaw02_MaskRow.j0 k a0 a1 a2 (decide (a0 > a1)))) else (if a1 = 16 then (if a0 < 0 then (cleatlaw02_MaskRow.j0 k a0 a1 a2 true) else (cleatlaw02_MaskRow.j0 k a0 a1 a2 (decide (a0 > a1)))) else (if a1 = 32 then (if a0 < 0 then (cleatlaw02_MaskRow.j0 k a0 a1 a2 true) else (cleatlaw02_MaskRow.j0 k a0 a1 a2 (decide (a0 > a1)))) else (if a1 = 64 then (if a0 < 0 then (cleatlaw02_MaskRow.j0 k a0 a1 a2 true) else (cleatlaw02_MaskRow.j0 k a0 a1 a2 (decide (a0 > a1)))) else (cleatlaw02_MaskRow.j0 k a0 a1 a2 true))))))
theorem cleatlaw02_MaskRow.mono_l : ∀ k, (∀ y0 y1 y2 y3, LeO (cleatlaw02_MaskRow.j0 k y0 y1 y2 y3) (cleatlaw02_MaskRow.j0 (k + 1) y0 y1 y2 y3)) ∧ (∀ y0 y1 y2 y3 y4 y5, LeO (cleatlaw02_MaskRow.l0 k y0 y1 y2 y3 y4 y5) (cleatlaw02_MaskRow.l0 (k + 1) y0 y1 y2 y3 y4 y5)) ∧ (∀ y0 y1 y2 y3 y4, LeO (cleatlaw02_MaskRow.j2 k y0 y1 y2 y3 y4) (cleatlaw02_MaskRow.j2 (k + 1) y0 y1 y2 y3 y4)) ∧ (∀ y0 y1 y2 y3, LeO (cleatlaw02_MaskRow.j3 k y0 y1 y2 y3) (cleatlaw02_MaskRow.j3 (k + 1) y0 y1 y2 y3))
  | 0 => ⟨fun _ _ _ _ r h => by simp [cleatlaw02_MaskRow.j0] at h, fun _ _ _ _ _ _ r h => by simp [cleatlaw02_MaskRow.l0] at h, fun _ _ _ _ _ r h => by simp [cleatlaw02_MaskRow.j2] at h, fun _ _ _ _ r h => by simp [cleatlaw02_MaskRow.j3] at h⟩
  | k + 1 => by
    obtain ⟨ih0, ih1, ih2, ih3⟩ := cleatlaw02_MaskRow.mono_l k
    refine ⟨?_, ?_, ?_, ?_⟩
    · intro y0 y1 y2 y3
      unfold cleatlaw02_MaskRow.j0
      repeat' first
      | (with_reducible exact ih0 _ _ _ _)
      | (with_reducible exact ih1 _ _ _ _ _ _)
      | (with_reducible exact ih2 _ _ _ _ _)
      | (with_reducible exact ih3 _ _ _ _)
      | (with_reducible exact cleatlaw02_masked.mono _)
      | (with_reducible exact mask_Is.mono _ _)
      | (with_reducible exact mask_Ones.mono _ _)
      | (with_reducible exact LeO.refl _)
      | (with_reducible exact LeO.none _)
      | (with_reducible refine LeO.ite ?_ ?_)
      | (with_reducible refine LeO.bind ?_ (fun _ => ?_))
      | exact ih0 _ _ _ _
      | exact ih1 _ _ _ _ _ _
      | exact ih2 _ _ _ _ _
      | exact ih3 _ _ _ _
      | exact cleatlaw02_masked.mono _
      | exact mask_Is.mono _ _
      | exact mask_Ones.mono _ _
      | exact LeO.none _
      | refine LeO.ite ?_ ?_
      | refine LeO.bind ?_ (fun _ => ?_)
    · intro y0 y1 y2 y3 y4 y5
      unfold cleatlaw02_MaskRow.l0
      repeat' first
      | (with_reducible exact ih0 _ _ _ _)
      | (with_reducible exact ih1 _ _ _ _ _ _)
      | (with_reducible exact ih2 _ _ _ _ _)
      | (with_reducible exact ih3 _ _ _ _)
      | (with_reducible exact cleatlaw02_masked.mono _)
      | (with_reducible exact mask_Is.mono _ _)
      | (with_reducible exact mask_Ones.mono _ _)
      | (with_reducible exact LeO.refl _)
      | (with_reducible exact LeO.none _)
      | (with_reducible refine LeO.ite ?_ ?_)
      | (with_reducible refine LeO.bind ?_ (fun _ => ?_))
      | exact ih0 _ _ _ _
      | exact ih1 _ _ _ _ _ _
      | exact ih2 _ _ _ _ _
      | exact ih3 _ _ _ _
      | exact cleatlaw02_masked.mono _
      | exact mask_Is.mono _ _
      | exact mask_Ones.mono _ _
      | exact LeO.none _
      | refine LeO.ite ?_ ?_
      | refine LeO.bind ?_ (fun _ => ?_)
    · intro y0 y1 y2 y3 y4
      unfold cleatlaw02_MaskRow.j2
      repeat' first
      | (with_reducible exact ih0 _ _ _ _)
      | (with_reducible exact ih1 _ _ _ _ _ _)
      | (with_reducible exact ih2 _ _ _ _ _)
      | (with_reducible exact ih3 _ _ _ _)
      | (with_reducible exact cleatlaw02_masked.mono _)
      | (with_reducible exact mask_Is.mono _ _)
      | (with_reducible exact mask_Ones.mono _ _)
      | (with_reducible exact LeO.refl _)
      | (with_reducible exact LeO.none _)
      | (with_reducible refine LeO.ite ?_ ?_)
      | (with_reducible refine LeO.bind ?_ (fun _ => ?_))
      | exact ih0 _ _ _ _
      | exact ih1 _ _ _ _ _ _
      | exact ih2 _ _ _ _ _
      | exact ih3 _ _ _ _
      | exact cleatlaw02_masked.mono _
      | exact mask_Is.mono _ _
      | exact mask_Ones.mono _ _
      | exact LeO.none _
      | refine LeO.ite ?_ ?_
      | refine LeO.bind ?_ (fun _ => ?_)
    · intro y0 y1 y2 y3
      unfold cleatlaw02_MaskRow.j3
      repeat' first
      | (with_reducible exact ih0 _ _ _ _)
      | (with_reducible exact ih1 _ _ _ _ _ _)
      | (with_reducible exact ih2 _ _ _ _ _)
      | (with_reducible exact ih3 _ _ _ _)
      | (with_reducible exact cleatlaw02_masked.mono _)
      | (with_reducible exact mask_Is.mono _ _)
      | (with_reducible exact mask_Ones.mono _ _)
      | (with_reducible exact LeO.refl _)
      | (with_reducible exact LeO.none _)
      | (with_reducible refine LeO.ite ?_ ?_)
      | (with_reducible refine LeO.bind ?_ (fun _ => ?_))
      | exact ih0 _ _ _ _
      | exact ih1 _ _ _ _ _ _
      | exact ih2 _ _ _ _ _
      | exact ih3 _ _ _ _
      | exact cleatlaw02_masked.mono _
      | exact mask_Is.mono _ _
      | exact mask_Ones.mono _ _
      | exact LeO.none _
      | refine LeO.ite ?_ ?_
      | refine LeO.bind ?_ (fun _ => ?_)
theorem cleatlaw02_MaskRow.mono : ∀ a0 a1 a2 k, LeO (cleatlaw02_MaskRow.f k a0 a1 a2) (cleatlaw02_MaskRow.f (k + 1) a0 a1 a2) := by
  intro a0 a1 a2 k
  obtain ⟨ih0, ih1, ih2, ih3⟩ := cleatlaw02_MaskRow.mono_l k
  unfold cleatlaw02_MaskRow.f
  repeat' first
      | (with_reducible exact ih0 _ _ _ _)
      | (with_reducible exact ih1 _ _ _ _ _ _)
      | (with_reducible exact ih2 _ _ _ _ _)
      | (with_reducible exact ih3 _ _ _ _)
      | (with_reducible exact cleatlaw02_masked.mono _)
      | (with_reducible exact mask_Is.mono _ _)
      | (with_reducible exact mask_Ones.mono _ _)
      | (with_reducible exact LeO.refl _)
      | (with_reducible exact LeO.none _)
      | (with_reducible refine LeO.ite ?_ ?_)
      | (with_reducible refine LeO.bind ?_ (fun _ => ?_))
      | exact ih0 _ _ _ _
      | exact ih1 _ _ _ _ _ _
      | exact ih2 _ _ _ _ _
      | exact ih3 _ _ _ _
      | exact cleatlaw02_masked.mono _
      | exact mask_Is.mono _ _
      | exact mask_Ones.mono _ _
      | exact LeO.none _
      | refine LeO.ite ?_ ?_
      | refine LeO.bind ?_ (fun _ => ?_)
set_option maxHeartbeats 8000000 in
set_option maxRecDepth 100000 in
theorem cleatlaw02_MaskRow.calls (k : Nat) (a0 : Int) (a1 : Int) (a2 : Int) (r : Bool) (w : World) (h : cleatlaw02_MaskRow.f k a0 a1 a2 = some r) :
    Calls Try.prog 6 #[.int .i64 a0, .int .i64 a1, .int .i64 a2] w fun e w' => e = .returned (.bool r) ∧ Below w.heap.size w w' := by
  have HB := Aside0.mk (Below.refl w.heap.size w)
  have H : (if a1 = 2 then (if a0 < 0 then (cleatlaw02_MaskRow.j0 k a0 a1 a2 true) else (cleatlaw02_MaskRow.j0 k a0 a1 a2 (decide (a0 > a1)))) else (if a1 = 4 then (if a0 < 0 then (cleatlaw02_MaskRow.j0 k a0 a1 a2 true) else (cleatlaw02_MaskRow.j0 k a0 a1 a2 (decide (a0 > a1)))) else (if a1 = 8 then (if a0 < 0 then (cleatlaw02_MaskRow.j0 k a0 a1 a2 true) else (cleatlaw02_MaskRow.j0 k a0 a1 a2 (decide (a0 > a1)))) else (if a1 = 16 then (if a0 < 0 then (cleatlaw02_MaskRow.j0 k a0 a1 a2 true) else (cleatlaw02_MaskRow.j0 k a0 a1 a2 (decide (a0 > a1)))) else (if a1 = 32 then (if a0 < 0 then (cleatlaw02_MaskRow.j0 k a0 a1 a2 true) else (cleatlaw02_MaskRow.j0 k a0 a1 a2 (decide (a0 > a1)))) else (if a1 = 64 then (if a0 < 0 then (cleatlaw02_MaskRow.j0 k a0 a1 a2 true) else (cleatlaw02_MaskRow.j0 k a0 a1 a2 (decide (a0 > a1)))) else (cleatlaw02_MaskRow.j0 k a0 a1 a2 true))))))) = some r := h
  clear h
  have HC4 := Aside0.mk H
  clear H
  go_enter Try.func6, Try.ntmps6
  go_upto_region 1 with (fail)
  go_cut [40] (fun v40 wc => ∃ (kq : Nat) (x40_3 : Bool), v40 = .bool x40_3 ∧ Aside0 (cleatlaw02_MaskRow.j0 kq a0 a1 a2 x40_3 = some r) ∧ Aside0 (kq ≤ k) ∧ Aside0 (Below w.heap.size w wc))
  case first =>
    have H := HC4.out
    clear HC4
    by_cases c5 : a1 = 2
    · rw [if_pos c5] at H
      have c5b0 : (a1 == 2) = true := beq_iff_eq.mpr c5
      have c5b1 : (a1 != 2) = false := bne_eq_false_iff_eq.mpr c5
      clear c5
      (first | rw [c5b0] | (simp only [i64_w, i32_w]; rw [c5b0]) | skip)
      by_cases c6 : a0 < 0
      · rw [if_pos c6] at H
        have c6b0 : decide (a0 < 0) = true := decide_eq_true c6
        clear c6
        have H' := Aside0.mk H
        clear H
        go_wp2
        go_meet
        case rel => exact ⟨_, (true), (by first | rfl | (simp; done) | (simp [*]; done)), H', ⟨by first | omega | exact Nat.le_refl _⟩, ⟨by repeat (first | (with_reducible first | exact HB.out | apply below_alloc | apply pw_below_drewN | apply below_drew1) | exact HB.out)⟩⟩
      · rw [if_neg c6] at H
        have c6b0 : decide (a0 < 0) = false := decide_eq_false c6
        clear c6
        have H' := Aside0.mk H
        clear H
        go_wp2
        go_meet
        case rel => exact ⟨_, (decide (a0 > a1)), (by first | rfl | (simp; done) | (simp [*]; done)), H', ⟨by first | omega | exact Nat.le_refl _⟩, ⟨by repeat (first | (with_reducible first | exact HB.out | apply below_alloc | apply pw_below_drewN | apply below_drew1) | exact HB.out)⟩⟩
    · rw [if_neg c5] at H
      have c5b0 : (a1 == 2) = false := beq_eq_false_iff_ne.mpr c5
      have c5b1 : (a1 != 2) = true := bne_iff_ne.mpr c5
      (first | rw [c5b0] | (simp only [i64_w, i32_w]; rw [c5b0]) | skip)
      by_cases c7 : a1 = 4
      · rw [if_pos c7] at H
        have c7b0 : (a1 == 4) = true := beq_iff_eq.mpr c7
        have c7b1 : (a1 != 4) = false := bne_eq_false_iff_eq.mpr c7
        clear c7
        by_cases c8 : a0 < 0
        · rw [if_pos c8] at H
          have c8b0 : decide (a0 < 0) = true := decide_eq_true c8
          clear c8
          have H' := Aside0.mk H
          clear H
          go_wp2
          go_meet
          case rel => exact ⟨_, (true), (by first | rfl | (simp; done) | (simp [*]; done)), H', ⟨by first | omega | exact Nat.le_refl _⟩, ⟨by repeat (first | (with_reducible first | exact HB.out | apply below_alloc | apply pw_below_drewN | apply below_drew1) | exact HB.out)⟩⟩
        · rw [if_neg c8] at H
          have c8b0 : decide (a0 < 0) = false := decide_eq_false c8
          clear c8
          have H' := Aside0.mk H
          clear H
          go_wp2
          go_meet
          case rel => exact ⟨_, (decide (a0 > a1)), (by first | rfl | (simp; done) | (simp [*]; done)), H', ⟨by first | omega | exact Nat.le_refl _⟩, ⟨by repeat (first | (with_reducible first | exact HB.out | apply below_alloc | apply pw_below_drewN | apply below_drew1) | exact HB.out)⟩⟩
      · rw [if_neg c7] at H
        have c7b0 : (a1 == 4) = false := beq_eq_false_iff_ne.mpr c7
        have c7b1 : (a1 != 4) = true := bne_iff_ne.mpr c7
        by_cases c9 : a1 = 8
        · rw [if_pos c9] at H
          have c9b0 : (a1 == 8) = true := beq_iff_eq.mpr c9
          have c9b1 : (a1 != 8) = false := bne_eq_false_iff_eq.mpr c9
          clear c9
          by_cases c10 : a0 < 0
          · rw [if_pos c10] at H
            have c10b0 : decide (a0 < 0) = true := decide_eq_true c10
            clear c10
            have H' := Aside0.mk H
            clear H
            go_wp2
            go_meet
            case rel => exact ⟨_, (true), (by first | rfl | (simp; done) | (simp [*]; done)), H', ⟨by first | omega | exact Nat.le_refl _⟩, ⟨by repeat (first | (with_reducible first | exact HB.out | apply below_alloc | apply pw_below_drewN | apply below_drew1) | exact HB.out)⟩⟩
          · rw [if_neg c10] at H
            have c10b0 : decide (a0 < 0) = false := decide_eq_false c10
            clear c10
            have H' := Aside0.mk H
            clear H
            go_wp2
            go_meet
            case rel => exact ⟨_, (decide (a0 > a1)), (by first | rfl | (simp; done) | (simp [*]; done)), H', ⟨by first | omega | exact Nat.le_refl _⟩, ⟨by repeat (first | (with_reducible first | exact HB.out | apply below_alloc | apply pw_below_drewN | apply below_drew1) | exact HB.out)⟩⟩
        · rw [if_neg c9] at H
          have c9b0 : (a1 == 8) = false := beq_eq_false_iff_ne.mpr c9
          have c9b1 : (a1 != 8) = true := bne_iff_ne.mpr c9
          by_cases c11 : a1 = 16
          · rw [if_pos c11] at H
            have c11b0 : (a1 == 16) = true := beq_iff_eq.mpr c11
            have c11b1 : (a1 != 16) = false := bne_eq_false_iff_eq.mpr c11
            clear c11
            by_cases c12 : a0 < 0
            · rw [if_pos c12] at H
              have c12b0 : decide (a0 < 0) = true := decide_eq_true c12
              clear c12
              have H' := Aside0.mk H
              clear H
              go_wp2
              go_meet
              case rel => exact ⟨_, (true), (by first | rfl | (simp; done) | (simp [*]; done)), H', ⟨by first | omega | exact Nat.le_refl _⟩, ⟨by repeat (first | (with_reducible first | exact HB.out | apply below_alloc | apply pw_below_drewN | apply below_drew1) | exact HB.out)⟩⟩
            · rw [if_neg c12] at H
              have c12b0 : decide (a0 < 0) = false := decide_eq_false c12
              clear c12
              have H' := Aside0.mk H
              clear H
              go_wp2
              go_meet
              case rel => exact ⟨_, (decide (a0 > a1)), (by first | rfl | (simp; done) | (simp [*]; done)), H', ⟨by first | omega | exact Nat.le_refl _⟩, ⟨by repeat (first | (with_reducible first | exact HB.out | apply below_alloc | apply pw_below_drewN | apply below_drew1) | exact HB.out)⟩⟩
          · rw [if_neg c11] at H
            have c11b0 : (a1 == 16) = false := beq_eq_false_iff_ne.mpr c11
            have c11b1 : (a1 != 16) = true := bne_iff_ne.mpr c11
            by_cases c13 : a1 = 32
            · rw [if_pos c13] at H
              have c13b0 : (a1 == 32) = true := beq_iff_eq.mpr c13
              have c13b1 : (a1 != 32) = false := bne_eq_false_iff_eq.mpr c13
              clear c13
              by_cases c14 : a0 < 0
              · rw [if_pos c14] at H
                have c14b0 : decide (a0 < 0) = true := decide_eq_true c14
                clear c14
                have H' := Aside0.mk H
                clear H
                go_wp2
                go_meet
                case rel => exact ⟨_, (true), (by first | rfl | (simp; done) | (simp [*]; done)), H', ⟨by first | omega | exact Nat.le_refl _⟩, ⟨by repeat (first | (with_reducible first | exact HB.out | apply below_alloc | apply pw_below_drewN | apply below_drew1) | exact HB.out)⟩⟩
              · rw [if_neg c14] at H
                have c14b0 : decide (a0 < 0) = false := decide_eq_false c14
                clear c14
                have H' := Aside0.mk H
                clear H
                go_wp2
                go_meet
                case rel => exact ⟨_, (decide (a0 > a1)), (by first | rfl | (simp; done) | (simp [*]; done)), H', ⟨by first | omega | exact Nat.le_refl _⟩, ⟨by repeat (first | (with_reducible first | exact HB.out | apply below_alloc | apply pw_below_drewN | apply below_drew1) | exact HB.out)⟩⟩
            · rw [if_neg c13] at H
              have c13b0 : (a1 == 32) = false := beq_eq_false_iff_ne.mpr c13
              have c13b1 : (a1 != 32) = true := bne_iff_ne.mpr c13
              by_cases c15 : a1 = 64
              · rw [if_pos c15] at H
                have c15b0 : (a1 == 64) = true := beq_iff_eq.mpr c15
                have c15b1 : (a1 != 64) = false := bne_eq_false_iff_eq.mpr c15
                clear c15
                by_cases c16 : a0 < 0
                · rw [if_pos c16] at H
                  have c16b0 : decide (a0 < 0) = true := decide_eq_true c16
                  clear c16
                  have H' := Aside0.mk H
                  clear H
                  go_wp2
                  go_meet
                  case rel => exact ⟨_, (true), (by first | rfl | (simp; done) | (simp [*]; done)), H', ⟨by first | omega | exact Nat.le_refl _⟩, ⟨by repeat (first | (with_reducible first | exact HB.out | apply below_alloc | apply pw_below_drewN | apply below_drew1) | exact HB.out)⟩⟩
                · rw [if_neg c16] at H
                  have c16b0 : decide (a0 < 0) = false := decide_eq_false c16
                  clear c16
                  have H' := Aside0.mk H
                  clear H
                  go_wp2
                  go_meet
                  case rel => exact ⟨_, (decide (a0 > a1)), (by first | rfl | (simp; done) | (simp [*]; done)), H', ⟨by first | omega | exact Nat.le_refl _⟩, ⟨by repeat (first | (with_reducible first | exact HB.out | apply below_alloc | apply pw_below_drewN | apply below_drew1) | exact HB.out)⟩⟩
              · rw [if_neg c15] at H
                have c15b0 : (a1 == 64) = false := beq_eq_false_iff_ne.mpr c15
                have c15b1 : (a1 != 64) = true := bne_iff_ne.mpr c15
                have H' := Aside0.mk H
                clear H
                go_wp2
                go_meet
                case rel => exact ⟨_, (true), (by first | rfl | (simp; done) | (simp [*]; done)), H', ⟨by first | omega | exact Nat.le_refl _⟩, ⟨by repeat (first | (with_reducible first | exact HB.out | apply below_alloc | apply pw_below_drewN | apply below_drew1) | exact HB.out)⟩⟩
  case rest =>
    clear HC4
    try clear c1
    try clear p2
    try clear c5
    try clear c5b0
    try clear c5b1
    try clear c6
    try clear c6b0
    try clear c7
    try clear c7b0
    try clear c7b1
    try clear c8
    try clear c8b0
    try clear c9
    try clear c9b0
    try clear c9b1
    try clear c10
    try clear c10b0
    try clear c11
    try clear c11b0
    try clear c11b1
    try clear c12
    try clear c12b0
    try clear c13
    try clear c13b0
    try clear c13b1
    try clear c14
    try clear c14b0
    try clear c15
    try clear c15b0
    try clear c15b1
    try clear c16
    try clear c16b0
    obtain ⟨kq, x40_3, rfl, HA, HJ3, HB⟩ := hcut
    cases kq with
    | zero => exact absurd HA.out (by simp [cleatlaw02_MaskRow.j0])
    | succ kj3 =>
      have H := HA.out
      clear HA
      simp only [cleatlaw02_MaskRow.j0] at H
      by_cases c17 : x40_3 = true
      · subst c17
        have H1 : ((cleatlaw02_masked.f kj3).bind fun t219 => (some t219)) = some r := by rw [if_pos rfl] at H; exact H
        clear H
        have H := H1
        clear H1
        replace H := Option.bind_eq_some_iff.mp H
        obtain ⟨t219, A180, H⟩ := H
        replace H : (some t219) = some r := H
        have A18 := Aside0.mk A180
        clear A180
        obtain rfl := Option.some.inj H
        go_wp2_with (first | ((with_reducible refine gate_callee (f := 12) rfl ?_); refine goesL_ (some 41) rfl rfl Try.func12 (by kernel_rfl) rfl #[] rfl (by (try simp only [List.map_toArray, List.map_cons, List.map_nil]); first | done | rfl | (simp only [List.length_drop, List.length_take]; rfl)) ?_; (with_reducible refine (cleatlaw02_masked.calls kj3  t219 _ A18.out).mono ?_); rintro e w19 ⟨rfl, hb⟩; refine ⟨_, rfl, ?_⟩; have n0_ := Aside0.mk (below_step (by repeat (first | (with_reducible first | exact HB.out | apply below_alloc | apply pw_below_drewN | apply below_drew1) | exact HB.out)) hb); clear HB; have HB := n0_; clear n0_; (try clear hb); (try clear hb2); (try clear hk); (try clear hi)))
        go_ret
        exact ⟨by first | rfl | (simp [errW_none, errW_some] <;> rfl) | (simp [*, errW_none, errW_some] <;> rfl), by repeat (first | (with_reducible first | exact HB.out | apply below_alloc | apply pw_below_drewN | apply below_drew1) | exact HB.out)⟩
      · replace c17 := Bool.eq_false_iff.mpr c17
        subst c17
        have H1 : ((bits_Low.f 18446744073709551615 a0).bind fun t220 => (cleatlaw02_MaskRow.l0 kj3 a0 a1 a2 t220 t220 a1)) = some r := by rw [if_neg (show ¬ (false = true) by decide)] at H; exact H
        clear H
        have H := H1
        clear H1
        replace H := Option.bind_eq_some_iff.mp H
        obtain ⟨t220, A200, H⟩ := H
        replace H : (cleatlaw02_MaskRow.l0 kj3 a0 a1 a2 t220 t220 a1) = some r := H
        have A20 := Aside0.mk A200
        clear A200
        have H' := Aside0.mk H
        clear H
        go_wp2_with (first | ((with_reducible refine gate_callee (f := 20) rfl ?_); refine goesL_ (some 43) rfl rfl Try.func20 (by kernel_rfl) rfl #[.int .u64 18446744073709551615, .int .i64 a0] rfl (by (try simp only [List.map_toArray, List.map_cons, List.map_nil]); first | done | rfl | (simp only [List.length_drop, List.length_take]; rfl)) ?_; (with_reducible refine (bits_Low.calls 18446744073709551615 a0 t220 _ A20.out).mono ?_); rintro e w' ⟨rfl, ⟨nd, rfl⟩⟩; refine ⟨_, rfl, ?_⟩))
        go_loopg [8, 9] kj3 (fun kq v8 v9 w' => ∃ (x8_2 : Int) (x9_2 : Int), v8 = .int .u64 x8_2 ∧ v9 = .int .i64 x9_2 ∧ Aside0 (cleatlaw02_MaskRow.l0 kq a0 a1 a2 t220 x8_2 x9_2 = some r) ∧ Aside0 (kq ≤ kj3) ∧ Aside0 (Below w.heap.size w w'))
        case atStart => exact ⟨(t220), (a1), (by first | rfl | (simp; done) | (simp [*]; done)), (by first | rfl | (simp; done) | (simp [*]; done)), H', ⟨Nat.le_refl _⟩, ⟨by repeat (first | (with_reducible first | exact HB.out | apply below_alloc | apply pw_below_drewN | apply below_drew1) | exact HB.out)⟩⟩
        case round =>
          clear H'
          try clear c1
          try clear c2
          try clear p2
          try clear c5
          try clear c5b0
          try clear c5b1
          try clear c6
          try clear c6b0
          try clear c7
          try clear c7b0
          try clear c7b1
          try clear c8
          try clear c8b0
          try clear c9
          try clear c9b0
          try clear c9b1
          try clear c10
          try clear c10b0
          try clear c11
          try clear c11b0
          try clear c11b1
          try clear c12
          try clear c12b0
          try clear c13
          try clear c13b0
          try clear c13b1
          try clear c14
          try clear c14b0
          try clear c15
          try clear c15b0
          try clear c15b1
          try clear c16
          try clear c16b0
          try clear c17
          try clear c20
          try clear p2
          obtain ⟨x8_2, x9_2, rfl, rfl, HA, HK2, HB⟩ := hrel
          cases gk with
          | zero => exact absurd HA.out (by simp [cleatlaw02_MaskRow.l0])
          | succ k2 =>
            have H := HA.out
            clear HA
            simp only [cleatlaw02_MaskRow.l0] at H
            by_cases c21 : x9_2 < 64
            · rw [if_pos c21] at H
              have c21b0 : decide (x9_2 < 64) = true := decide_eq_true c21
              clear c21
              by_cases c22 : 0 ≤ x9_2
              · rw [if_pos c22] at H
                have c22b0 := eq_true c22
                have c22b1 : decide (0 ≤ x9_2) = true := decide_eq_true c22
                clear c22
                obtain ⟨ji23, hji23⟩ : ∃ j_ : Int, (shl .u64 1 x9_2) = j_ := ⟨_, rfl⟩
                replace H : (cleatlaw02_MaskRow.l0 k2 a0 a1 a2 t220 (IntKind.u64.wrap (x8_2 + (IntKind.u64.wrap (x8_2 * (ji23))))) (wrap64 (2 * x9_2))) = some r := by first | (rw [hji23] at H; exact H) | (simp only [hji23] at H ⊢; exact H)
                have hji23_ : (IntKind.u64.wrap (1 * 2 ^ min x9_2.toNat 64)) = ji23 := hji23
                have hji23z : x9_2 ≤ 64 → (IntKind.u64.wrap (1 * 2 ^ x9_2.toNat)) = ji23 := shl_small hji23
                have hji23u : (IntKind.u64.wrap (2 ^ min x9_2.toNat 64)) = ji23 := by have h_ := hji23_; rw [Int.one_mul] at h_; exact h_
                have hji23v : x9_2 ≤ 64 → (IntKind.u64.wrap (2 ^ x9_2.toNat)) = ji23 := fun hle_ => by have h_ := hji23z hle_; rw [Int.one_mul] at h_; exact h_
                have H' := Aside0.mk H
                clear H
                go_wp2
                go_roundg k2
                case measure => have := HJ3.out; have := HK2.out; omega
                case rel => exact ⟨(IntKind.u64.wrap (x8_2 + (IntKind.u64.wrap (x8_2 * (ji23))))), (wrap64 (2 * x9_2)), (by first | rfl | (simp; done) | (simp only [← hji23] <;> (first | rfl | simp)) | (simp [*]; done)), (by first | rfl | (simp; done) | (simp [*]; done)), H', ⟨by have := HJ3.out; have := HK2.out; omega⟩, ⟨by repeat (first | (with_reducible first | exact HB.out | apply below_alloc | apply pw_below_drewN | apply below_drew1) | exact HB.out)⟩⟩
              · rw [if_neg c22] at H
                exact absurd H (by simp)
            · rw [if_neg c21] at H
              have c21b0 : decide (x9_2 < 64) = false := decide_eq_false c21
              clear c21
              have HC24 := Aside0.mk H
              clear H
              go_upto_region 9 with (fail)
              go_cut [76] (fun v76 wc => ∃ (kq : Nat) (x76_23 : Bool), v76 = .bool x76_23 ∧ Aside0 (cleatlaw02_MaskRow.j2 kq a0 a1 a2 t220 x76_23 = some r) ∧ Aside0 (kq ≤ k2) ∧ Aside0 (Below w.heap.size w wc))
              case first =>
                have H := HC24.out
                clear HC24
                replace H := Option.bind_eq_some_iff.mp H
                obtain ⟨t221, A250, H⟩ := H
                replace H : (if a0 > 0 then (if (t221 != (decide (a0 < a1))) = true then (cleatlaw02_MaskRow.j2 k2 a0 a1 a2 t220 true) else ((mask_Is.f k2 t220).bind fun t222 => (cleatlaw02_MaskRow.j2 k2 a0 a1 a2 t220 (t222 != (decide (a0 < 64)))))) else (if (t221 != false) = true then (cleatlaw02_MaskRow.j2 k2 a0 a1 a2 t220 true) else ((mask_Is.f k2 t220).bind fun t223 => (cleatlaw02_MaskRow.j2 k2 a0 a1 a2 t220 (t223 != false))))) = some r := H
                have A25 := Aside0.mk A250
                clear A250
                by_cases c26 : a0 > 0
                · rw [if_pos c26] at H
                  have c26b0 : decide (0 < a0) = true := decide_eq_true c26
                  clear c26
                  (first | rw [c26b0] | (simp only [i64_w, i32_w]; rw [c26b0]) | skip)
                  by_cases c27 : (t221 != (decide (a0 < a1))) = true
                  · rw [if_pos c27] at H
                    have c27b0 : (t221 != (decide (a0 < a1))) = true := c27
                    (try (have c27b1 : decide (t221 = (decide (a0 < a1))) = false := by simpa using c27))
                    (try (have c27b2 : (t221 == (decide (a0 < a1))) = false := by simpa using c27))
                    (try (have c27b3 : ¬ (t221 = (decide (a0 < a1))) := by simpa using c27))
                    clear c27
                    have H' := Aside0.mk H
                    clear H
                    go_wp2_with (first | ((with_reducible refine gate_callee (f := 13) rfl ?_); refine goesL_ (some 57) rfl rfl Try.func13 (by kernel_rfl) rfl #[.int .u64 x8_2] rfl (by (try simp only [List.map_toArray, List.map_cons, List.map_nil]); first | done | rfl | (simp only [List.length_drop, List.length_take]; rfl)) ?_; (with_reducible refine (mask_Is.calls k2 x8_2 t221 _ A25.out).mono ?_); rintro e w28 ⟨rfl, hb⟩; refine ⟨_, rfl, ?_⟩; have n0_ := Aside0.mk (below_step (by repeat (first | (with_reducible first | exact HB.out | apply below_alloc | apply pw_below_drewN | apply below_drew1) | exact HB.out)) hb); clear HB; have HB := n0_; clear n0_; (try clear hb); (try clear hb2); (try clear hk); (try clear hi)))
                    go_meet
                    case rel => exact ⟨_, (true), (by first | rfl | (simp; done) | (simp [*]; done)), H', ⟨by have := HJ3.out; have := HK2.out; first | omega | exact Nat.le_refl _⟩, ⟨by repeat (first | (with_reducible first | exact HB.out | apply below_alloc | apply pw_below_drewN | apply below_drew1) | exact HB.out)⟩⟩
                  · rw [if_neg c27] at H
                    have c27b0 : (t221 != (decide (a0 < a1))) = false := by simpa using c27
                    (try (have c27b1 : decide (t221 = (decide (a0 < a1))) = true := by simpa using c27))
                    (try (have c27b2 : (t221 == (decide (a0 < a1))) = true := by simpa using c27))
                    clear c27
                    replace H := Option.bind_eq_some_iff.mp H
                    obtain ⟨t222, A290, H⟩ := H
                    replace H : (cleatlaw02_MaskRow.j2 k2 a0 a1 a2 t220 (t222 != (decide (a0 < 64)))) = some r := H
                    have A29 := Aside0.mk A290
                    clear A290
                    have H' := Aside0.mk H
                    clear H
                    go_wp2_with (first | ((with_reducible refine gate_callee (f := 13) rfl ?_); refine goesL_ (some 57) rfl rfl Try.func13 (by kernel_rfl) rfl #[.int .u64 x8_2] rfl (by (try simp only [List.map_toArray, List.map_cons, List.map_nil]); first | done | rfl | (simp only [List.length_drop, List.length_take]; rfl)) ?_; (with_reducible refine (mask_Is.calls k2 x8_2 t221 _ A25.out).mono ?_); rintro e w30 ⟨rfl, hb⟩; refine ⟨_, rfl, ?_⟩; have n0_ := Aside0.mk (below_step (by repeat (first | (with_reducible first | exact HB.out | apply below_alloc | apply pw_below_drewN | apply below_drew1) | exact HB.out)) hb); clear HB; have HB := n0_; clear n0_; (try clear hb); (try clear hb2); (try clear hk); (try clear hi)) | (go_at_call 13; (with_reducible refine (mask_Is.calls k2 t220 t222 _ A29.out).mono ?_); rintro e w31 ⟨rfl, hb⟩; have n0_ := Aside0.mk (below_step (by repeat (first | (with_reducible first | exact HB.out | apply below_alloc | apply pw_below_drewN | apply below_drew1) | exact HB.out)) hb); clear HB; have HB := n0_; clear n0_; (try clear hb); (try clear hb2); (try clear hk); (try clear hi)))
                    go_meet
                    case rel => exact ⟨_, ((t222 != (decide (a0 < 64)))), (by first | rfl | (simp; done) | (simp [*]; done)), H', ⟨by have := HJ3.out; have := HK2.out; first | omega | exact Nat.le_refl _⟩, ⟨by repeat (first | (with_reducible first | exact HB.out | apply below_alloc | apply pw_below_drewN | apply below_drew1) | exact HB.out)⟩⟩
                · rw [if_neg c26] at H
                  have c26b0 : decide (0 < a0) = false := decide_eq_false c26
                  clear c26
                  (first | rw [c26b0] | (simp only [i64_w, i32_w]; rw [c26b0]) | skip)
                  by_cases c32 : (t221 != false) = true
                  · rw [if_pos c32] at H
                    have c32b0 : (t221 != false) = true := c32
                    (try (have c32b1 : decide (t221 = false) = false := by simpa using c32))
                    (try (have c32b2 : (t221 == false) = false := by simpa using c32))
                    (try (have c32b3 : ¬ (t221 = false) := by simpa using c32))
                    clear c32
                    have H' := Aside0.mk H
                    clear H
                    go_wp2_with (first | ((with_reducible refine gate_callee (f := 13) rfl ?_); refine goesL_ (some 57) rfl rfl Try.func13 (by kernel_rfl) rfl #[.int .u64 x8_2] rfl (by (try simp only [List.map_toArray, List.map_cons, List.map_nil]); first | done | rfl | (simp only [List.length_drop, List.length_take]; rfl)) ?_; (with_reducible refine (mask_Is.calls k2 x8_2 t221 _ A25.out).mono ?_); rintro e w33 ⟨rfl, hb⟩; refine ⟨_, rfl, ?_⟩; have n0_ := Aside0.mk (below_step (by repeat (first | (with_reducible first | exact HB.out | apply below_alloc | apply pw_below_drewN | apply below_drew1) | exact HB.out)) hb); clear HB; have HB := n0_; clear n0_; (try clear hb); (try clear hb2); (try clear hk); (try clear hi)))
                    go_meet
                    case rel => exact ⟨_, (true), (by first | rfl | (simp; done) | (simp [*]; done)), H', ⟨by have := HJ3.out; have := HK2.out; first | omega | exact Nat.le_refl _⟩, ⟨by repeat (first | (with_reducible first | exact HB.out | apply below_alloc | apply pw_below_drewN | apply below_drew1) | exact HB.out)⟩⟩
                  · rw [if_neg c32] at H
                    have c32b0 : (t221 != false) = false := by simpa using c32
                    (try (have c32b1 : decide (t221 = false) = true := by simpa using c32))
                    (try (have c32b2 : (t221 == false) = true := by simpa using c32))
                    clear c32
                    replace H := Option.bind_eq_some_iff.mp H
                    obtain ⟨t223, A340, H⟩ := H
                    replace H : (cleatlaw02_MaskRow.j2 k2 a0 a1 a2 t220 (t223 != false)) = some r := H
                    have A34 := Aside0.mk A340
                    clear A340
                    have H' := Aside0.mk H
                    clear H
                    go_wp2_with (first | ((with_reducible refine gate_callee (f := 13) rfl ?_); refine goesL_ (some 57) rfl rfl Try.func13 (by kernel_rfl) rfl #[.int .u64 x8_2] rfl (by (try simp only [List.map_toArray, List.map_cons, List.map_nil]); first | done | rfl | (simp only [List.length_drop, List.length_take]; rfl)) ?_; (with_reducible refine (mask_Is.calls k2 x8_2 t221 _ A25.out).mono ?_); rintro e w35 ⟨rfl, hb⟩; refine ⟨_, rfl, ?_⟩; have n0_ := Aside0.mk (below_step (by repeat (first | (with_reducible first | exact HB.out | apply below_alloc | apply pw_below_drewN | apply below_drew1) | exact HB.out)) hb); clear HB; have HB := n0_; clear n0_; (try clear hb); (try clear hb2); (try clear hk); (try clear hi)) | (go_at_call 13; (with_reducible refine (mask_Is.calls k2 t220 t223 _ A34.out).mono ?_); rintro e w36 ⟨rfl, hb⟩; have n0_ := Aside0.mk (below_step (by repeat (first | (with_reducible first | exact HB.out | apply below_alloc | apply pw_below_drewN | apply below_drew1) | exact HB.out)) hb); clear HB; have HB := n0_; clear n0_; (try clear hb); (try clear hb2); (try clear hk); (try clear hi)))
                    go_meet
                    case rel => exact ⟨_, ((t223 != false)), (by first | rfl | (simp; done) | (simp [*]; done)), H', ⟨by have := HJ3.out; have := HK2.out; first | omega | exact Nat.le_refl _⟩, ⟨by repeat (first | (with_reducible first | exact HB.out | apply below_alloc | apply pw_below_drewN | apply below_drew1) | exact HB.out)⟩⟩
              case rest =>
                clear HC24
                try clear c1
                try clear c2
                try clear p2
                try clear c3
                try clear c5
                try clear c5b0
                try clear c5b1
                try clear c6
                try clear c6b0
                try clear p6
                try clear c7
                try clear c7b0
                try clear c7b1
                try clear c8
                try clear c8b0
                try clear c9
                try clear c9b0
                try clear c9b1
                try clear c10
                try clear c10b0
                try clear c11
                try clear c11b0
                try clear c11b1
                try clear c12
                try clear c12b0
                try clear c13
                try clear c13b0
                try clear c13b1
                try clear c14
                try clear c14b0
                try clear c15
                try clear c15b0
                try clear c15b1
                try clear c16
                try clear c16b0
                try clear c17
                try clear c20
                try clear c21
                try clear c21b0
                try clear c22
                try clear c22b0
                try clear c22b1
                try clear c26
                try clear c26b0
                try clear c27
                try clear c27b0
                try clear c27b1
                try clear c27b2
                try clear c32
                try clear c32b0
                try clear c32b1
                try clear c32b2
                try clear p2
                obtain ⟨kq, x76_23, rfl, HA, HJ23, HB⟩ := hcut
                cases kq with
                | zero => exact absurd HA.out (by simp [cleatlaw02_MaskRow.j2])
                | succ kj23 =>
                  have H := HA.out
                  clear HA
                  simp only [cleatlaw02_MaskRow.j2] at H
                  by_cases c37 : x76_23 = true
                  · subst c37
                    have H1 : (some false) = some r := by rw [if_pos rfl] at H; exact H
                    clear H
                    have H := H1
                    clear H1
                    obtain rfl := Option.some.inj H
                    go_wp2
                    go_ret
                    exact ⟨by first | rfl | (simp [errW_none, errW_some] <;> rfl) | (simp [*, errW_none, errW_some] <;> rfl), by repeat (first | (with_reducible first | exact HB.out | apply below_alloc | apply pw_below_drewN | apply below_drew1) | exact HB.out)⟩
                  · replace c37 := Bool.eq_false_iff.mpr c37
                    subst c37
                    have H1 : (if a1 < 64 then (cleatlaw02_MaskRow.j3 kj23 a0 a2 t220 true) else (if a0 < 2 then (cleatlaw02_MaskRow.j3 kj23 a0 a2 t220 true) else (if a0 > 60 then (cleatlaw02_MaskRow.j3 kj23 a0 a2 t220 true) else (if a2 ≤ a0 then (cleatlaw02_MaskRow.j3 kj23 a0 a2 t220 true) else (cleatlaw02_MaskRow.j3 kj23 a0 a2 t220 (decide (a2 ≥ 63))))))) = some r := by rw [if_neg (show ¬ (false = true) by decide)] at H; exact H
                    clear H
                    have H := H1
                    clear H1
                    have HC38 := Aside0.mk H
                    clear H
                    go_upto_region 11 with (fail)
                    go_cut [95] (fun v95 wc => ∃ (kq : Nat) (x95_37 : Bool), v95 = .bool x95_37 ∧ Aside0 (cleatlaw02_MaskRow.j3 kq a0 a2 t220 x95_37 = some r) ∧ Aside0 (kq ≤ kj23) ∧ Aside0 (Below w.heap.size w wc))
                    case first =>
                      have H := HC38.out
                      clear HC38
                      by_cases c39 : a1 < 64
                      · rw [if_pos c39] at H
                        have c39b0 : decide (a1 < 64) = true := decide_eq_true c39
                        clear c39
                        (first | rw [c39b0] | (simp only [i64_w, i32_w]; rw [c39b0]) | skip)
                        have H' := Aside0.mk H
                        clear H
                        go_wp2
                        go_meet
                        case rel => exact ⟨_, (true), (by first | rfl | (simp; done) | (simp [*]; done)), H', ⟨by have := HJ3.out; have := HK2.out; have := HJ23.out; first | omega | exact Nat.le_refl _⟩, ⟨by repeat (first | (with_reducible first | exact HB.out | apply below_alloc | apply pw_below_drewN | apply below_drew1) | exact HB.out)⟩⟩
                      · rw [if_neg c39] at H
                        have c39b0 : decide (a1 < 64) = false := decide_eq_false c39
                        clear c39
                        (first | rw [c39b0] | (simp only [i64_w, i32_w]; rw [c39b0]) | skip)
                        by_cases c40 : a0 < 2
                        · rw [if_pos c40] at H
                          have c40b0 : decide (a0 < 2) = true := decide_eq_true c40
                          clear c40
                          have H' := Aside0.mk H
                          clear H
                          go_wp2
                          go_meet
                          case rel => exact ⟨_, (true), (by first | rfl | (simp; done) | (simp [*]; done)), H', ⟨by have := HJ3.out; have := HK2.out; have := HJ23.out; first | omega | exact Nat.le_refl _⟩, ⟨by repeat (first | (with_reducible first | exact HB.out | apply below_alloc | apply pw_below_drewN | apply below_drew1) | exact HB.out)⟩⟩
                        · rw [if_neg c40] at H
                          have c40b0 : decide (a0 < 2) = false := decide_eq_false c40
                          clear c40
                          by_cases c41 : a0 > 60
                          · rw [if_pos c41] at H
                            have c41b0 : decide (60 < a0) = true := decide_eq_true c41
                            clear c41
                            have H' := Aside0.mk H
                            clear H
                            go_wp2
                            go_meet
                            case rel => exact ⟨_, (true), (by first | rfl | (simp; done) | (simp [*]; done)), H', ⟨by have := HJ3.out; have := HK2.out; have := HJ23.out; first | omega | exact Nat.le_refl _⟩, ⟨by repeat (first | (with_reducible first | exact HB.out | apply below_alloc | apply pw_below_drewN | apply below_drew1) | exact HB.out)⟩⟩
                          · rw [if_neg c41] at H
                            have c41b0 : decide (60 < a0) = false := decide_eq_false c41
                            clear c41
                            by_cases c42 : a2 ≤ a0
                            · rw [if_pos c42] at H
                              have c42b0 : decide (a2 ≤ a0) = true := decide_eq_true c42
                              clear c42
                              have H' := Aside0.mk H
                              clear H
                              go_wp2
                              go_meet
                              case rel => exact ⟨_, (true), (by first | rfl | (simp; done) | (simp [*]; done)), H', ⟨by have := HJ3.out; have := HK2.out; have := HJ23.out; first | omega | exact Nat.le_refl _⟩, ⟨by repeat (first | (with_reducible first | exact HB.out | apply below_alloc | apply pw_below_drewN | apply below_drew1) | exact HB.out)⟩⟩
                            · rw [if_neg c42] at H
                              have c42b0 : decide (a2 ≤ a0) = false := decide_eq_false c42
                              clear c42
                              have H' := Aside0.mk H
                              clear H
                              go_wp2
                              go_meet
                              case rel => exact ⟨_, (decide (a2 ≥ 63)), (by first | rfl | (simp; done) | (simp [*]; done)), H', ⟨by have := HJ3.out; have := HK2.out; have := HJ23.out; first | omega | exact Nat.le_refl _⟩, ⟨by repeat (first | (with_reducible first | exact HB.out | apply below_alloc | apply pw_below_drewN | apply below_drew1) | exact HB.out)⟩⟩
                    case rest =>
                      clear HC38
                      try clear c1
                      try clear c2
                      try clear p2
                      try clear c3
                      try clear c4
                      try clear c5
                      try clear c5b0
                      try clear c5b1
                      try clear c6
                      try clear c6b0
                      try clear p6
                      try clear c7
                      try clear c7b0
                      try clear c7b1
                      try clear c8
                      try clear c8b0
                      try clear c9
                      try clear c9b0
                      try clear c9b1
                      try clear c10
                      try clear c10b0
                      try clear c11
                      try clear c11b0
                      try clear c11b1
                      try clear c12
                      try clear c12b0
                      try clear c13
                      try clear c13b0
                      try clear c13b1
                      try clear c14
                      try clear c14b0
                      try clear c15
                      try clear c15b0
                      try clear c15b1
                      try clear c16
                      try clear c16b0
                      try clear c17
                      try clear c20
                      try clear c21
                      try clear c21b0
                      try clear c22
                      try clear c22b0
                      try clear c22b1
                      try clear c26
                      try clear c26b0
                      try clear c27
                      try clear c27b0
                      try clear c27b1
                      try clear c27b2
                      try clear c32
                      try clear c32b0
                      try clear c32b1
                      try clear c32b2
                      try clear c37
                      try clear c39
                      try clear c39b0
                      try clear c40
                      try clear c40b0
                      try clear c41
                      try clear c41b0
                      try clear c42
                      try clear c42b0
                      try clear p2
                      try clear p6
                      obtain ⟨kq, x95_37, rfl, HA, HJ37, HB⟩ := hcut
                      cases kq with
                      | zero => exact absurd HA.out (by simp [cleatlaw02_MaskRow.j3])
                      | succ kj37 =>
                        have H := HA.out
                        clear HA
                        simp only [cleatlaw02_MaskRow.j3] at H
                        by_cases c43 : x95_37 = true
                        · subst c43
                          have H1 : ((cleatlaw02_masked.f kj37).bind fun t224 => (some t224)) = some r := by rw [if_pos rfl] at H; exact H
                          clear H
                          have H := H1
                          clear H1
                          replace H := Option.bind_eq_some_iff.mp H
                          obtain ⟨t224, A440, H⟩ := H
                          replace H : (some t224) = some r := H
                          have A44 := Aside0.mk A440
                          clear A440
                          obtain rfl := Option.some.inj H
                          go_wp2_with (first | ((with_reducible refine gate_callee (f := 12) rfl ?_); refine goesL_ (some 96) rfl rfl Try.func12 (by kernel_rfl) rfl #[] rfl (by (try simp only [List.map_toArray, List.map_cons, List.map_nil]); first | done | rfl | (simp only [List.length_drop, List.length_take]; rfl)) ?_; (with_reducible refine (cleatlaw02_masked.calls kj37  t224 _ A44.out).mono ?_); rintro e w45 ⟨rfl, hb⟩; refine ⟨_, rfl, ?_⟩; have n0_ := Aside0.mk (below_step (by repeat (first | (with_reducible first | exact HB.out | apply below_alloc | apply pw_below_drewN | apply below_drew1) | exact HB.out)) hb); clear HB; have HB := n0_; clear n0_; (try clear hb); (try clear hb2); (try clear hk); (try clear hi)))
                          go_ret
                          exact ⟨by first | rfl | (simp [errW_none, errW_some] <;> rfl) | (simp [*, errW_none, errW_some] <;> rfl), by repeat (first | (with_reducible first | exact HB.out | apply below_alloc | apply pw_below_drewN | apply below_drew1) | exact HB.out)⟩
                        · replace c43 := Bool.eq_false_iff.mpr c43
                          subst c43
                          have H1 : ((cleatlaw02_masked.f kj37).bind fun t225 => (if t225 = true then (if 0 ≤ a2 then ((mask_Is.f kj37 (IntKind.u64.wrap (t220 + (shl .u64 1 a2)))).bind fun t226 => (if t226 = true then (some false) else ((mask_Ones.f kj37 (IntKind.u64.wrap (t220 + (shl .u64 1 a2)))).bind fun t227 => (some (t227 == (wrap64 (a0 + 1))))))) else (none)) else (some false))) = some r := by rw [if_neg (show ¬ (false = true) by decide)] at H; exact H
                          clear H
                          have H := H1
                          clear H1
                          replace H := Option.bind_eq_some_iff.mp H
                          obtain ⟨t225, A460, H⟩ := H
                          replace H : (if t225 = true then (if 0 ≤ a2 then ((mask_Is.f kj37 (IntKind.u64.wrap (t220 + (shl .u64 1 a2)))).bind fun t226 => (if t226 = true then (some false) else ((mask_Ones.f kj37 (IntKind.u64.wrap (t220 + (shl .u64 1 a2)))).bind fun t227 => (some (t227 == (wrap64 (a0 + 1))))))) else (none)) else (some false)) = some r := H
                          have A46 := Aside0.mk A460
                          clear A460
                          by_cases c47 : t225 = true
                          · subst c47
                            have H1 : (if 0 ≤ a2 then ((mask_Is.f kj37 (IntKind.u64.wrap (t220 + (shl .u64 1 a2)))).bind fun t226 => (if t226 = true then (some false) else ((mask_Ones.f kj37 (IntKind.u64.wrap (t220 + (shl .u64 1 a2)))).bind fun t227 => (some (t227 == (wrap64 (a0 + 1))))))) else (none)) = some r := by rw [if_pos rfl] at H; exact H
                            clear H
                            have H := H1
                            clear H1
                            by_cases c48 : 0 ≤ a2
                            · rw [if_pos c48] at H
                              have c48b0 := eq_true c48
                              have c48b1 : decide (0 ≤ a2) = true := decide_eq_true c48
                              clear c48
                              obtain ⟨ji49, hji49⟩ : ∃ j_ : Int, (shl .u64 1 a2) = j_ := ⟨_, rfl⟩
                              replace H : ((mask_Is.f kj37 (IntKind.u64.wrap (t220 + (ji49)))).bind fun t226 => (if t226 = true then (some false) else ((mask_Ones.f kj37 (IntKind.u64.wrap (t220 + (ji49)))).bind fun t227 => (some (t227 == (wrap64 (a0 + 1))))))) = some r := by first | (rw [hji49] at H; exact H) | (simp only [hji49] at H ⊢; exact H)
                              (try rw [hji49] at A46)
                              have hji49_ : (IntKind.u64.wrap (1 * 2 ^ min a2.toNat 64)) = ji49 := hji49
                              have hji49z : a2 ≤ 64 → (IntKind.u64.wrap (1 * 2 ^ a2.toNat)) = ji49 := shl_small hji49
                              have hji49u : (IntKind.u64.wrap (2 ^ min a2.toNat 64)) = ji49 := by have h_ := hji49_; rw [Int.one_mul] at h_; exact h_
                              have hji49v : a2 ≤ 64 → (IntKind.u64.wrap (2 ^ a2.toNat)) = ji49 := fun hle_ => by have h_ := hji49z hle_; rw [Int.one_mul] at h_; exact h_
                              replace H := Option.bind_eq_some_iff.mp H
                              obtain ⟨t226, A500, H⟩ := H
                              replace H : (if t226 = true then (some false) else ((mask_Ones.f kj37 (IntKind.u64.wrap (t220 + (ji49)))).bind fun t227 => (some (t227 == (wrap64 (a0 + 1)))))) = some r := H
                              have A50 := Aside0.mk A500
                              clear A500
                              by_cases c51 : t226 = true
                              · subst c51
                                have H1 : (some false) = some r := by rw [if_pos rfl] at H; exact H
                                clear H
                                have H := H1
                                clear H1
                                obtain rfl := Option.some.inj H
                                go_wp2_with (first | ((with_reducible refine gate_callee (f := 12) rfl ?_); refine goesL_ (some 97) rfl rfl Try.func12 (by kernel_rfl) rfl #[] rfl (by (try simp only [List.map_toArray, List.map_cons, List.map_nil]); first | done | rfl | (simp only [List.length_drop, List.length_take]; rfl)) ?_; (with_reducible refine (cleatlaw02_masked.calls kj37  true _ A46.out).mono ?_); rintro e w52 ⟨rfl, hb⟩; refine ⟨_, rfl, ?_⟩; have n0_ := Aside0.mk (below_step (by repeat (first | (with_reducible first | exact HB.out | apply below_alloc | apply pw_below_drewN | apply below_drew1) | exact HB.out)) hb); clear HB; have HB := n0_; clear n0_; (try clear hb); (try clear hb2); (try clear hk); (try clear hi)) | (go_at_call 13; (with_reducible refine (mask_Is.calls kj37 (IntKind.u64.wrap (t220 + (ji49))) true _ A50.out).mono ?_); rintro e w53 ⟨rfl, hb⟩; have n0_ := Aside0.mk (below_step (by repeat (first | (with_reducible first | exact HB.out | apply below_alloc | apply pw_below_drewN | apply below_drew1) | exact HB.out)) hb); clear HB; have HB := n0_; clear n0_; (try clear hb); (try clear hb2); (try clear hk); (try clear hi)))
                                go_ret
                                exact ⟨by first | rfl | (simp [errW_none, errW_some] <;> rfl) | (simp only [← hji49]; first | rfl | (simp [errW_none, errW_some] <;> rfl)) | (simp [*, errW_none, errW_some] <;> rfl), by repeat (first | (with_reducible first | exact HB.out | apply below_alloc | apply pw_below_drewN | apply below_drew1) | exact HB.out)⟩
                              · replace c51 := Bool.eq_false_iff.mpr c51
                                subst c51
                                have H1 : ((mask_Ones.f kj37 (IntKind.u64.wrap (t220 + (ji49)))).bind fun t227 => (some (t227 == (wrap64 (a0 + 1))))) = some r := by rw [if_neg (show ¬ (false = true) by decide)] at H; exact H
                                clear H
                                have H := H1
                                clear H1
                                have c54b0 := eq_true (of_decide_eq_true (by first | (with_reducible assumption) | assumption) : 0 ≤ a2)
                                replace H := Option.bind_eq_some_iff.mp H
                                obtain ⟨t227, A560, H⟩ := H
                                replace H : (some (t227 == (wrap64 (a0 + 1)))) = some r := H
                                have A56 := Aside0.mk A560
                                clear A560
                                obtain rfl := Option.some.inj H
                                go_wp2_with (first | ((with_reducible refine gate_callee (f := 12) rfl ?_); refine goesL_ (some 97) rfl rfl Try.func12 (by kernel_rfl) rfl #[] rfl (by (try simp only [List.map_toArray, List.map_cons, List.map_nil]); first | done | rfl | (simp only [List.length_drop, List.length_take]; rfl)) ?_; (with_reducible refine (cleatlaw02_masked.calls kj37  true _ A46.out).mono ?_); rintro e w57 ⟨rfl, hb⟩; refine ⟨_, rfl, ?_⟩; have n0_ := Aside0.mk (below_step (by repeat (first | (with_reducible first | exact HB.out | apply below_alloc | apply pw_below_drewN | apply below_drew1) | exact HB.out)) hb); clear HB; have HB := n0_; clear n0_; (try clear hb); (try clear hb2); (try clear hk); (try clear hi)) | (go_at_call 13; (with_reducible refine (mask_Is.calls kj37 (IntKind.u64.wrap (t220 + (ji49))) false _ A50.out).mono ?_); rintro e w58 ⟨rfl, hb⟩; have n0_ := Aside0.mk (below_step (by repeat (first | (with_reducible first | exact HB.out | apply below_alloc | apply pw_below_drewN | apply below_drew1) | exact HB.out)) hb); clear HB; have HB := n0_; clear n0_; (try clear hb); (try clear hb2); (try clear hk); (try clear hi)) | (go_at_call 17; (with_reducible refine (mask_Ones.calls kj37 (IntKind.u64.wrap (t220 + (ji49))) t227 _ A56.out).mono ?_); rintro e w' ⟨rfl, ⟨nd, rfl⟩⟩))
                                go_ret
                                exact ⟨by first | rfl | (simp [errW_none, errW_some] <;> rfl) | (simp only [← hji49]; first | rfl | (simp [errW_none, errW_some] <;> rfl)) | (simp [*, errW_none, errW_some] <;> rfl), by repeat (first | (with_reducible first | exact HB.out | apply below_alloc | apply pw_below_drewN | apply below_drew1) | exact HB.out)⟩
                            · rw [if_neg c48] at H
                              exact absurd H (by simp)
                          · replace c47 := Bool.eq_false_iff.mpr c47
                            subst c47
                            have H1 : (some false) = some r := by rw [if_neg (show ¬ (false = true) by decide)] at H; exact H
                            clear H
                            have H := H1
                            clear H1
                            obtain rfl := Option.some.inj H
                            go_wp2_with (first | ((with_reducible refine gate_callee (f := 12) rfl ?_); refine goesL_ (some 97) rfl rfl Try.func12 (by kernel_rfl) rfl #[] rfl (by (try simp only [List.map_toArray, List.map_cons, List.map_nil]); first | done | rfl | (simp only [List.length_drop, List.length_take]; rfl)) ?_; (with_reducible refine (cleatlaw02_masked.calls kj37  false _ A46.out).mono ?_); rintro e w59 ⟨rfl, hb⟩; refine ⟨_, rfl, ?_⟩; have n0_ := Aside0.mk (below_step (by repeat (first | (with_reducible first | exact HB.out | apply below_alloc | apply pw_below_drewN | apply below_drew1) | exact HB.out)) hb); clear HB; have HB := n0_; clear n0_; (try clear hb); (try clear hb2); (try clear hk); (try clear hi)))
                            go_ret
                            exact ⟨by first | rfl | (simp [errW_none, errW_some] <;> rfl) | (simp [*, errW_none, errW_some] <;> rfl), by repeat (first | (with_reducible first | exact HB.out | apply below_alloc | apply pw_below_drewN | apply below_drew1) | exact HB.out)⟩

/-- THE ONE PURE STATEMENT of cleatlaw02_MaskRow: yours. -/
def cleatlaw02_MaskRow.Pure : Prop := ∀ (a0 : Int) (a1 : Int) (a2 : Int), (Lit.int .i64 a0).wf = true → (Lit.int .i64 a1).wf = true → (Lit.int .i64 a2).wf = true → ∃ k, cleatlaw02_MaskRow.f k a0 a1 a2 = some true
theorem cleatlaw02_MaskRow.walk (P : cleatlaw02_MaskRow.Pure) (a0 : Int) (a1 : Int) (a2 : Int) (w : World) (w0 : (Lit.int .i64 a0).wf = true) (w1 : (Lit.int .i64 a1).wf = true) (w2 : (Lit.int .i64 a2).wf = true) :
    Calls Try.prog 6 #[.int .i64 a0, .int .i64 a1, .int .i64 a2] w fun e w' => e = .returned (.bool true) ∧ Below w.heap.size w w' := by
  obtain ⟨k, h⟩ := P a0 a1 a2 w0 w1 w2
  refine (cleatlaw02_MaskRow.calls k a0 a1 a2 true w h).mono ?_
  rintro e w' ⟨rfl, hd⟩
  exact ⟨rfl, hd⟩

end Go.Proofs.Yteachdhnoakgeaa.P
