-- printed by wip/tools/myprint.py out of the translation. Not trusted: Lean checks it.
import Derived.Test.YtgonbeifaioheaaDoorPx0
import Derived.Test.YtgonbeifaioheaaDoorPx6
namespace Go.Proofs.YtgonbeifaioheaaDoor.P
open Go.RowKit Go.Proofs.YtgonbeifaioheaaDoorW.PrintWords Go.Proofs.YtgonbeifaioheaaDoorW.PrintLast Go.Proofs.YtgonbeifaioheaaDoorW.PrintMore
attribute [local go_sem] max2_int min2_int max_two min_two max_three min_three max_four min_four   -- for this text's walks alone
set_option linter.unusedVariables false
set_option linter.unusedSimpArgs false

/-! ### cleatref01_Rotate: function 59 -/
mutual
def cleatref01_Rotate.j0 : Nat → Int → Int → Int → Bool → Option (Int × Int)
 | 0, _, _, _, _ => none
 | k + 1, x0, x1, x2, x40 => if x40 = true then (some (0, 1)) else ((cleatref01_Small.f k x0 x2).bind fun t173 => (if t173 = true then (cleatref01_Rotate.l0 k x0 x1 x2 0 0) else (some (0, 4))))
def cleatref01_Rotate.l0 : Nat → Int → Int → Int → Int → Int → Option (Int × Int)
 | 0, _, _, _, _, _ => none
 | k + 1, x0, x1, x2, x8, x9 => if x9 < x2 then (if x2 = 0 then (none) else ((cleatref01_Bit.f k x0 (Int.tmod (wrap64 (x9 + x1)) x2)).bind fun t174 => (if t174 = true then ((cleatref01_Power.f k x9).bind fun t175 => (cleatref01_Rotate.l0 k x0 x1 x2 (IntKind.u64.wrap (x8 + t175)) (wrap64 (x9 + 1)))) else (cleatref01_Rotate.l0 k x0 x1 x2 x8 (wrap64 (x9 + 1)))))) else (some (x8, 0))
end
def cleatref01_Rotate.f (k : Nat) (a0 : Int) (a1 : Int) (a2 : Int) : Option (Int × Int) := if a2 = 2 then (if a1 < 0 then (cleatref01_Rotate.j0 k a0 a1 a2 true) else (cleatref01_Rotate.j0 k a0 a1 a2 (decide (a1 ≥ a2)))) else (if a2 = 4 then (if a1 < 0 then (cleatref01_Rotate.j0 k a0 a1 a2 true) else (cleatref01_Rotate.j0 k a0 a1 a2 (decide (a1 ≥ a2)))) else (if a2 = 8 then (if a1 < 0 then (cleatref01_Rotate.j0 k a0 a1 a2 true) else (cleatref01_Rotate.j0 k a0 a1 a2 (decide (a1 ≥ a2)))) else (if a2 = 16 then (if a1 < 0 then (cleatref01_Rotate.j0 k a0 a1 a2 true) else (cleatref01_Rotate.j0 k a0 a1 a2 (decide (a1 ≥ a2)))) else (if a2 = 32 then (if a1 < 0 then (cleatref01_Rotate.j0 k a0 a1 a2 true) else (cleatref01_Rotate.j0 k a0 a1 a2 (decide (a1 ≥ a2)))) else (if a2 = 64 then (if a1 < 0 then (cleatref01_Rotate.j0 k a0 a1 a2 true) else (cleatref01_Rotate.j0 k a0 a1 a2 (decide (a1 ≥ a2)))) else (cleatref01_Rotate.j0 k a0 a1 a2 true))))))
theorem cleatref01_Rotate.mono_l : ∀ k, (∀ y0 y1 y2 y3, LeO (cleatref01_Rotate.j0 k y0 y1 y2 y3) (cleatref01_Rotate.j0 (k + 1) y0 y1 y2 y3)) ∧ (∀ y0 y1 y2 y3 y4, LeO (cleatref01_Rotate.l0 k y0 y1 y2 y3 y4) (cleatref01_Rotate.l0 (k + 1) y0 y1 y2 y3 y4))
 | 0 => ⟨fun _ _ _ _ r h => by simp [cleatref01_Rotate.j0] at h, fun _ _ _ _ _ r h => by simp [cleatref01_Rotate.l0] at h⟩
 | k + 1 => by
  obtain ⟨ih0, ih1⟩ := cleatref01_Rotate.mono_l k
  refine ⟨?_, ?_⟩
  ·intro y0 y1 y2 y3
   unfold cleatref01_Rotate.j0
   repeat' first
   | (with_reducible exact ih0 _ _ _ _)
   | (with_reducible exact ih1 _ _ _ _ _)
   | (with_reducible exact cleatref01_Bit.mono _ _ _)
   | (with_reducible exact cleatref01_Power.mono _ _)
   | (with_reducible exact cleatref01_Small.mono _ _ _)
   | (with_reducible exact LeO.refl _)
   | (with_reducible exact LeO.none _)
   | (with_reducible refine LeO.ite ?_ ?_)
   | (with_reducible refine LeO.bind ?_ (fun _ => ?_))
   | exact ih0 _ _ _ _
   | exact ih1 _ _ _ _ _
   | exact cleatref01_Bit.mono _ _ _
   | exact cleatref01_Power.mono _ _
   | exact cleatref01_Small.mono _ _ _
   | exact LeO.none _
   | refine LeO.ite ?_ ?_
   | refine LeO.bind ?_ (fun _ => ?_)
  ·intro y0 y1 y2 y3 y4
   unfold cleatref01_Rotate.l0
   repeat' first
   | (with_reducible exact ih0 _ _ _ _)
   | (with_reducible exact ih1 _ _ _ _ _)
   | (with_reducible exact cleatref01_Bit.mono _ _ _)
   | (with_reducible exact cleatref01_Power.mono _ _)
   | (with_reducible exact cleatref01_Small.mono _ _ _)
   | (with_reducible exact LeO.refl _)
   | (with_reducible exact LeO.none _)
   | (with_reducible refine LeO.ite ?_ ?_)
   | (with_reducible refine LeO.bind ?_ (fun _ => ?_))
   | exact ih0 _ _ _ _
   | exact ih1 _ _ _ _ _
   | exact cleatref01_Bit.mono _ _ _
   | exact cleatref01_Power.mono _ _
   | exact cleatref01_Small.mono _ _ _
   | exact LeO.none _
   | refine LeO.ite ?_ ?_
   | refine LeO.bind ?_ (fun _ => ?_)
theorem cleatref01_Rotate.mono : ∀ a0 a1 a2 k, LeO (cleatref01_Rotate.f k a0 a1 a2) (cleatref01_Rotate.f (k + 1) a0 a1 a2) := by
 intro a0 a1 a2 k
 obtain ⟨ih0, ih1⟩ := cleatref01_Rotate.mono_l k
 unfold cleatref01_Rotate.f
 repeat' first
   | (with_reducible exact ih0 _ _ _ _)
   | (with_reducible exact ih1 _ _ _ _ _)
   | (with_reducible exact cleatref01_Bit.mono _ _ _)
   | (with_reducible exact cleatref01_Power.mono _ _)
   | (with_reducible exact cleatref01_Small.mono _ _ _)
   | (with_reducible exact LeO.refl _)
   | (with_reducible exact LeO.none _)
   | (with_reducible refine LeO.ite ?_ ?_)
   | (with_reducible refine LeO.bind ?_ (fun _ => ?_))
   | exact ih0 _ _ _ _
   | exact ih1 _ _ _ _ _
   | exact cleatref01_Bit.mono _ _ _
   | exact cleatref01_Power.mono _ _
   | exact cleatref01_Small.mono _ _ _
   | exact LeO.none _
   | refine LeO.ite ?_ ?_
   | refine LeO.bind ?_ (fun _ => ?_)
set_option maxHeartbeats 8000000 in
set_option maxRecDepth 100000 in
theorem cleatref01_Rotate.calls (k : Nat) (a0 : Int) (a1 : Int) (a2 : Int) (r1 : Int) (r2 : Int) (w : World) (h : cleatref01_Rotate.f k a0 a1 a2 = some (r1, r2)) :
  Calls Tryd.prog 59 #[.int .u64 a0, .int .i64 a1, .int .i64 a2] w fun e w' => e = .returned (.tuple #[.int .u64 r1, .int .i64 r2]) ∧ Drawn0 w w' := by
 have H : (if a2 = 2 then (if a1 < 0 then (cleatref01_Rotate.j0 k a0 a1 a2 true) else (cleatref01_Rotate.j0 k a0 a1 a2 (decide (a1 ≥ a2)))) else (if a2 = 4 then (if a1 < 0 then (cleatref01_Rotate.j0 k a0 a1 a2 true) else (cleatref01_Rotate.j0 k a0 a1 a2 (decide (a1 ≥ a2)))) else (if a2 = 8 then (if a1 < 0 then (cleatref01_Rotate.j0 k a0 a1 a2 true) else (cleatref01_Rotate.j0 k a0 a1 a2 (decide (a1 ≥ a2)))) else (if a2 = 16 then (if a1 < 0 then (cleatref01_Rotate.j0 k a0 a1 a2 true) else (cleatref01_Rotate.j0 k a0 a1 a2 (decide (a1 ≥ a2)))) else (if a2 = 32 then (if a1 < 0 then (cleatref01_Rotate.j0 k a0 a1 a2 true) else (cleatref01_Rotate.j0 k a0 a1 a2 (decide (a1 ≥ a2)))) else (if a2 = 64 then (if a1 < 0 then (cleatref01_Rotate.j0 k a0 a1 a2 true) else (cleatref01_Rotate.j0 k a0 a1 a2 (decide (a1 ≥ a2)))) else (cleatref01_Rotate.j0 k a0 a1 a2 true))))))) = some (r1, r2) := h
 clear h
 have HC4 := Aside0.mk H
 clear H
 go_enter Tryd.func59, Tryd.ntmps59
 go_upto_region 1 with (fail)
 go_cut [40] (fun v40 wc => ∃ (kq : Nat) (x40_3 : Bool), v40 = .bool x40_3 ∧ Aside0 (cleatref01_Rotate.j0 kq a0 a1 a2 x40_3 = some (r1, r2)) ∧ Aside0 (kq ≤ k) ∧ Drawn0 w wc)
 case first =>
  have H := HC4.out
  clear HC4
  by_cases c5 : a2 = 2
  ·rw [if_pos c5] at H
   have c5b0 : (a2 == 2) = true := beq_iff_eq.mpr c5
   have c5b1 : (a2 != 2) = false := bne_eq_false_iff_eq.mpr c5
   clear c5
   (first | rw [c5b0] | (simp only [i64_w, i32_w]; rw [c5b0]) | skip)
   by_cases c6 : a1 < 0
   ·rw [if_pos c6] at H
    have c6b0 : decide (a1 < 0) = true := decide_eq_true c6
    clear c6
    have H' := Aside0.mk H
    clear H
    go_wp2
    go_meet
    case rel => exact ⟨_, (true), (by first | rfl | (simp; done) | (simp [*]; done)), H', ⟨by first | omega | exact Nat.le_refl _⟩, by repeat (first | exact Drawn0.refl _ | apply Drawn0.step)⟩
   ·rw [if_neg c6] at H
    have c6b0 : decide (a1 < 0) = false := decide_eq_false c6
    clear c6
    have H' := Aside0.mk H
    clear H
    go_wp2
    go_meet
    case rel => exact ⟨_, (decide (a1 ≥ a2)), (by first | rfl | (simp; done) | (simp [*]; done)), H', ⟨by first | omega | exact Nat.le_refl _⟩, by repeat (first | exact Drawn0.refl _ | apply Drawn0.step)⟩
  ·rw [if_neg c5] at H
   have c5b0 : (a2 == 2) = false := beq_eq_false_iff_ne.mpr c5
   have c5b1 : (a2 != 2) = true := bne_iff_ne.mpr c5
   (first | rw [c5b0] | (simp only [i64_w, i32_w]; rw [c5b0]) | skip)
   by_cases c7 : a2 = 4
   ·rw [if_pos c7] at H
    have c7b0 : (a2 == 4) = true := beq_iff_eq.mpr c7
    have c7b1 : (a2 != 4) = false := bne_eq_false_iff_eq.mpr c7
    clear c7
    by_cases c8 : a1 < 0
    ·rw [if_pos c8] at H
     have c8b0 : decide (a1 < 0) = true := decide_eq_true c8
     clear c8
     have H' := Aside0.mk H
     clear H
     go_wp2
     go_meet
     case rel => exact ⟨_, (true), (by first | rfl | (simp; done) | (simp [*]; done)), H', ⟨by first | omega | exact Nat.le_refl _⟩, by repeat (first | exact Drawn0.refl _ | apply Drawn0.step)⟩
    ·rw [if_neg c8] at H
     have c8b0 : decide (a1 < 0) = false := decide_eq_false c8
     clear c8
     have H' := Aside0.mk H
     clear H
     go_wp2
     go_meet
     case rel => exact ⟨_, (decide (a1 ≥ a2)), (by first | rfl | (simp; done) | (simp [*]; done)), H', ⟨by first | omega | exact Nat.le_refl _⟩, by repeat (first | exact Drawn0.refl _ | apply Drawn0.step)⟩
   ·rw [if_neg c7] at H
    have c7b0 : (a2 == 4) = false := beq_eq_false_iff_ne.mpr c7
    have c7b1 : (a2 != 4) = true := bne_iff_ne.mpr c7
    by_cases c9 : a2 = 8
    ·rw [if_pos c9] at H
     have c9b0 : (a2 == 8) = true := beq_iff_eq.mpr c9
     have c9b1 : (a2 != 8) = false := bne_eq_false_iff_eq.mpr c9
     clear c9
     by_cases c10 : a1 < 0
     ·rw [if_pos c10] at H
      have c10b0 : decide (a1 < 0) = true := decide_eq_true c10
      clear c10
      have H' := Aside0.mk H
      clear H
      go_wp2
      go_meet
      case rel => exact ⟨_, (true), (by first | rfl | (simp; done) | (simp [*]; done)), H', ⟨by first | omega | exact Nat.le_refl _⟩, by repeat (first | exact Drawn0.refl _ | apply Drawn0.step)⟩
     ·rw [if_neg c10] at H
      have c10b0 : decide (a1 < 0) = false := decide_eq_false c10
      clear c10
      have H' := Aside0.mk H
      clear H
      go_wp2
      go_meet
      case rel => exact ⟨_, (decide (a1 ≥ a2)), (by first | rfl | (simp; done) | (simp [*]; done)), H', ⟨by first | omega | exact Nat.le_refl _⟩, by repeat (first | exact Drawn0.refl _ | apply Drawn0.step)⟩
    ·rw [if_neg c9] at H
     have c9b0 : (a2 == 8) = false := beq_eq_false_iff_ne.mpr c9
     have c9b1 : (a2 != 8) = true := bne_iff_ne.mpr c9
     by_cases c11 : a2 = 16
     ·rw [if_pos c11] at H
      have c11b0 : (a2 == 16) = true := beq_iff_eq.mpr c11
      have c11b1 : (a2 != 16) = false := bne_eq_false_iff_eq.mpr c11
      clear c11
      by_cases c12 : a1 < 0
      ·rw [if_pos c12] at H
       have c12b0 : decide (a1 < 0) = true := decide_eq_true c12
       clear c12
       have H' := Aside0.mk H
       clear H
       go_wp2
       go_meet
       case rel => exact ⟨_, (true), (by first | rfl | (simp; done) | (simp [*]; done)), H', ⟨by first | omega | exact Nat.le_refl _⟩, by repeat (first | exact Drawn0.refl _ | apply Drawn0.step)⟩
      ·rw [if_neg c12] at H
       have c12b0 : decide (a1 < 0) = false := decide_eq_false c12
       clear c12
       have H' := Aside0.mk H
       clear H
       go_wp2
       go_meet
       case rel => exact ⟨_, (decide (a1 ≥ a2)), (by first | rfl | (simp; done) | (simp [*]; done)), H', ⟨by first | omega | exact Nat.le_refl _⟩, by repeat (first | exact Drawn0.refl _ | apply Drawn0.step)⟩
     ·rw [if_neg c11] at H
      have c11b0 : (a2 == 16) = false := beq_eq_false_iff_ne.mpr c11
      have c11b1 : (a2 != 16) = true := bne_iff_ne.mpr c11
      by_cases c13 : a2 = 32
      ·rw [if_pos c13] at H
       have c13b0 : (a2 == 32) = true := beq_iff_eq.mpr c13
       have c13b1 : (a2 != 32) = false := bne_eq_false_iff_eq.mpr c13
       clear c13
       by_cases c14 : a1 < 0
       ·rw [if_pos c14] at H
        have c14b0 : decide (a1 < 0) = true := decide_eq_true c14
        clear c14
        have H' := Aside0.mk H
        clear H
        go_wp2
        go_meet
        case rel => exact ⟨_, (true), (by first | rfl | (simp; done) | (simp [*]; done)), H', ⟨by first | omega | exact Nat.le_refl _⟩, by repeat (first | exact Drawn0.refl _ | apply Drawn0.step)⟩
       ·rw [if_neg c14] at H
        have c14b0 : decide (a1 < 0) = false := decide_eq_false c14
        clear c14
        have H' := Aside0.mk H
        clear H
        go_wp2
        go_meet
        case rel => exact ⟨_, (decide (a1 ≥ a2)), (by first | rfl | (simp; done) | (simp [*]; done)), H', ⟨by first | omega | exact Nat.le_refl _⟩, by repeat (first | exact Drawn0.refl _ | apply Drawn0.step)⟩
      ·rw [if_neg c13] at H
       have c13b0 : (a2 == 32) = false := beq_eq_false_iff_ne.mpr c13
       have c13b1 : (a2 != 32) = true := bne_iff_ne.mpr c13
       by_cases c15 : a2 = 64
       ·rw [if_pos c15] at H
        have c15b0 : (a2 == 64) = true := beq_iff_eq.mpr c15
        have c15b1 : (a2 != 64) = false := bne_eq_false_iff_eq.mpr c15
        clear c15
        by_cases c16 : a1 < 0
        ·rw [if_pos c16] at H
         have c16b0 : decide (a1 < 0) = true := decide_eq_true c16
         clear c16
         have H' := Aside0.mk H
         clear H
         go_wp2
         go_meet
         case rel => exact ⟨_, (true), (by first | rfl | (simp; done) | (simp [*]; done)), H', ⟨by first | omega | exact Nat.le_refl _⟩, by repeat (first | exact Drawn0.refl _ | apply Drawn0.step)⟩
        ·rw [if_neg c16] at H
         have c16b0 : decide (a1 < 0) = false := decide_eq_false c16
         clear c16
         have H' := Aside0.mk H
         clear H
         go_wp2
         go_meet
         case rel => exact ⟨_, (decide (a1 ≥ a2)), (by first | rfl | (simp; done) | (simp [*]; done)), H', ⟨by first | omega | exact Nat.le_refl _⟩, by repeat (first | exact Drawn0.refl _ | apply Drawn0.step)⟩
       ·rw [if_neg c15] at H
        have c15b0 : (a2 == 64) = false := beq_eq_false_iff_ne.mpr c15
        have c15b1 : (a2 != 64) = true := bne_iff_ne.mpr c15
        have H' := Aside0.mk H
        clear H
        go_wp2
        go_meet
        case rel => exact ⟨_, (true), (by first | rfl | (simp; done) | (simp [*]; done)), H', ⟨by first | omega | exact Nat.le_refl _⟩, by repeat (first | exact Drawn0.refl _ | apply Drawn0.step)⟩
 case rest =>
  clear HC4
  try clear c1
  try clear p2
  try clear c5
  try clear c5b0
  try clear c5b1
  try clear c6
  try clear c6b0
  try clear c7
  try clear c7b0
  try clear c7b1
  try clear c8
  try clear c8b0
  try clear c9
  try clear c9b0
  try clear c9b1
  try clear c10
  try clear c10b0
  try clear c11
  try clear c11b0
  try clear c11b1
  try clear c12
  try clear c12b0
  try clear c13
  try clear c13b0
  try clear c13b1
  try clear c14
  try clear c14b0
  try clear c15
  try clear c15b0
  try clear c15b1
  try clear c16
  try clear c16b0
  obtain ⟨kq, x40_3, rfl, HA, HJ3, ⟨mc3, rfl⟩⟩ := hcut
  cases kq with
  | zero => exact absurd HA.out (by simp [cleatref01_Rotate.j0])
  | succ kj3 =>
   have H := HA.out
   clear HA
   simp only [cleatref01_Rotate.j0] at H
   by_cases c17 : x40_3 = true
   ·subst c17
    rw [if_pos rfl] at H
    simp only [Option.some.injEq, Prod.mk.injEq] at H
    obtain ⟨rfl, rfl⟩ := H
    go_wp2
    go_ret2
    exact ⟨by first | rfl | (simp; done) | (simp [*]; done), by repeat (first | exact Drawn0.refl _ | apply Drawn0.step)⟩
   ·replace c17 := Bool.eq_false_iff.mpr c17
    subst c17
    rw [if_neg (show ¬ (false = true) by decide)] at H
    replace H := Option.bind_eq_some_iff.mp H
    obtain ⟨t173, A180, H⟩ := H
    replace H : (if t173 = true then (cleatref01_Rotate.l0 kj3 a0 a1 a2 0 0) else (some (0, 4))) = some (r1, r2) := H
    have A18 := Aside0.mk A180
    clear A180
    by_cases c19 : t173 = true
    ·subst c19
     rw [if_pos rfl] at H
     have H' := Aside0.mk H
     clear H
     go_wp2_with (first | ((with_reducible refine gate_callee (f := 61) rfl ?_); refine goesL_ (some 43) rfl rfl Tryd.func61 (by kernel_rfl) rfl #[.int .u64 a0, .int .i64 a2] rfl (by (try simp only [List.map_toArray, List.map_cons, List.map_nil]); first | done | rfl | (simp only [List.length_drop, List.length_take]; rfl)) ?_; (with_reducible refine (cleatref01_Small.calls kj3 a0 a2 true _ A18.out).mono ?_); rintro e w' ⟨rfl, ⟨nd, rfl⟩⟩; refine ⟨_, rfl, ?_⟩))
     go_loopg [8, 9] kj3 (fun kq v8 v9 w' => ∃ (x8_2 : Int) (x9_2 : Int), v8 = .int .u64 x8_2 ∧ v9 = .int .i64 x9_2 ∧ Aside0 (cleatref01_Rotate.l0 kq a0 a1 a2 x8_2 x9_2 = some (r1, r2)) ∧ Aside0 (kq ≤ kj3) ∧ Drawn0 w w')
     case atStart => exact ⟨(0), (0), (by first | rfl | (simp; done) | (simp [*]; done)), (by first | rfl | (simp; done) | (simp [*]; done)), H', ⟨Nat.le_refl _⟩, by repeat (first | exact Drawn0.refl _ | apply Drawn0.step)⟩
     case round =>
      clear H'
      try clear c1
      try clear p2
      try clear c3
      try clear c5
      try clear c5b0
      try clear c5b1
      try clear c6
      try clear c6b0
      try clear c7
      try clear c7b0
      try clear c7b1
      try clear c8
      try clear c8b0
      try clear c9
      try clear c9b0
      try clear c9b1
      try clear c10
      try clear c10b0
      try clear c11
      try clear c11b0
      try clear c11b1
      try clear c12
      try clear c12b0
      try clear c13
      try clear c13b0
      try clear c13b1
      try clear c14
      try clear c14b0
      try clear c15
      try clear c15b0
      try clear c15b1
      try clear c16
      try clear c16b0
      try clear c17
      try clear c19
      try clear p2
      obtain ⟨x8_2, x9_2, rfl, rfl, HA, HK2, ⟨m2, rfl⟩⟩ := hrel
      cases gk with
      | zero => exact absurd HA.out (by simp [cleatref01_Rotate.l0])
      | succ k2 =>
       have H := HA.out
       clear HA
       simp only [cleatref01_Rotate.l0] at H
       by_cases c20 : x9_2 < a2
       ·rw [if_pos c20] at H
        have c20b0 : decide (x9_2 < a2) = true := decide_eq_true c20
        clear c20
        by_cases c21 : a2 = 0
        ·rw [if_pos c21] at H
         exact absurd H (by simp)
        ·rw [if_neg c21] at H
         have c21b0 : (a2 == 0) = false := beq_eq_false_iff_ne.mpr c21
         have c21b1 : (a2 != 0) = true := bne_iff_ne.mpr c21
         replace H := Option.bind_eq_some_iff.mp H
         obtain ⟨t174, A220, H⟩ := H
         replace H : (if t174 = true then ((cleatref01_Power.f k2 x9_2).bind fun t175 => (cleatref01_Rotate.l0 k2 a0 a1 a2 (IntKind.u64.wrap (x8_2 + t175)) (wrap64 (x9_2 + 1)))) else (cleatref01_Rotate.l0 k2 a0 a1 a2 x8_2 (wrap64 (x9_2 + 1)))) = some (r1, r2) := H
         have A22 := Aside0.mk A220
         clear A220
         by_cases c23 : t174 = true
         ·subst c23
          rw [if_pos rfl] at H
          replace H := Option.bind_eq_some_iff.mp H
          obtain ⟨t175, A240, H⟩ := H
          replace H : (cleatref01_Rotate.l0 k2 a0 a1 a2 (IntKind.u64.wrap (x8_2 + t175)) (wrap64 (x9_2 + 1))) = some (r1, r2) := H
          have A24 := Aside0.mk A240
          clear A240
          have H' := Aside0.mk H
          clear H
          go_wp2_with (first | ((with_reducible refine gate_callee (f := 57) rfl ?_); refine goesL_ (some 56) rfl rfl Tryd.func57 (by kernel_rfl) rfl #[.int .u64 a0, .int .i64 (Int.tmod (wrap64 (x9_2 + a1)) a2)] rfl (by (try simp only [List.map_toArray, List.map_cons, List.map_nil]); first | done | rfl | (simp only [List.length_drop, List.length_take]; rfl)) ?_; (with_reducible refine (cleatref01_Bit.calls k2 a0 (Int.tmod (wrap64 (x9_2 + a1)) a2) true _ A22.out).mono ?_); rintro e w' ⟨rfl, ⟨nd, rfl⟩⟩; refine ⟨_, rfl, ?_⟩) | ((with_reducible refine gate_callee (f := 58) rfl ?_); refine goesL_ (some 59) rfl rfl Tryd.func58 (by kernel_rfl) rfl #[.int .i64 x9_2] rfl (by (try simp only [List.map_toArray, List.map_cons, List.map_nil]); first | done | rfl | (simp only [List.length_drop, List.length_take]; rfl)) ?_; (with_reducible refine (cleatref01_Power.calls k2 x9_2 t175 _ A24.out).mono ?_); rintro e w' ⟨rfl, ⟨nd, rfl⟩⟩; refine ⟨_, rfl, ?_⟩))
          go_roundg k2
          case measure => have := HJ3.out; have := HK2.out; omega
          case rel => exact ⟨(IntKind.u64.wrap (x8_2 + t175)), (wrap64 (x9_2 + 1)), (by first | rfl | (simp; done) | (simp [*]; done)), (by first | rfl | (simp; done) | (simp [*]; done)), H', ⟨by have := HJ3.out; have := HK2.out; omega⟩, by repeat (first | exact Drawn0.refl _ | apply Drawn0.step)⟩
         ·replace c23 := Bool.eq_false_iff.mpr c23
          subst c23
          rw [if_neg (show ¬ (false = true) by decide)] at H
          have H' := Aside0.mk H
          clear H
          go_wp2_with (first | ((with_reducible refine gate_callee (f := 57) rfl ?_); refine goesL_ (some 56) rfl rfl Tryd.func57 (by kernel_rfl) rfl #[.int .u64 a0, .int .i64 (Int.tmod (wrap64 (x9_2 + a1)) a2)] rfl (by (try simp only [List.map_toArray, List.map_cons, List.map_nil]); first | done | rfl | (simp only [List.length_drop, List.length_take]; rfl)) ?_; (with_reducible refine (cleatref01_Bit.calls k2 a0 (Int.tmod (wrap64 (x9_2 + a1)) a2) false _ A22.out).mono ?_); rintro e w' ⟨rfl, ⟨nd, rfl⟩⟩; refine ⟨_, rfl, ?_⟩))
          go_roundg k2
          case measure => have := HJ3.out; have := HK2.out; omega
          case rel => exact ⟨(x8_2), (wrap64 (x9_2 + 1)), (by first | rfl | (simp; done) | (simp [*]; done)), (by first | rfl | (simp; done) | (simp [*]; done)), H', ⟨by have := HJ3.out; have := HK2.out; omega⟩, by repeat (first | exact Drawn0.refl _ | apply Drawn0.step)⟩
       ·rw [if_neg c20] at H
        have c20b0 : decide (x9_2 < a2) = false := decide_eq_false c20
        clear c20
        simp only [Option.some.injEq, Prod.mk.injEq] at H
        obtain ⟨rfl, rfl⟩ := H
        go_wp2
        go_ret2
        exact ⟨by first | rfl | (simp; done) | (simp [*]; done), by repeat (first | exact Drawn0.refl _ | apply Drawn0.step)⟩
    ·replace c19 := Bool.eq_false_iff.mpr c19
     subst c19
     rw [if_neg (show ¬ (false = true) by decide)] at H
     simp only [Option.some.injEq, Prod.mk.injEq] at H
     obtain ⟨rfl, rfl⟩ := H
     go_wp2_with (first | ((with_reducible refine gate_callee (f := 61) rfl ?_); refine goesL_ (some 43) rfl rfl Tryd.func61 (by kernel_rfl) rfl #[.int .u64 a0, .int .i64 a2] rfl (by (try simp only [List.map_toArray, List.map_cons, List.map_nil]); first | done | rfl | (simp only [List.length_drop, List.length_take]; rfl)) ?_; (with_reducible refine (cleatref01_Small.calls kj3 a0 a2 false _ A18.out).mono ?_); rintro e w' ⟨rfl, ⟨nd, rfl⟩⟩; refine ⟨_, rfl, ?_⟩))
     go_ret2
     exact ⟨by first | rfl | (simp; done) | (simp [*]; done), by repeat (first | exact Drawn0.refl _ | apply Drawn0.step)⟩

/-! ### cleatref02_row: function 53 -/
def cleatref02_row.l0 : Nat → Int → Int → Int → Int → Int → Option (Int)
 | 0, _, _, _, _, _ => none
 | k + 1, x0, x1, x2, x7, x8 => if x8 < x0 then ((cleatref01_Power.f k x8).bind fun t176 => (cleatref02_row.l0 k x0 x1 x2 (IntKind.u64.wrap (x7 + t176)) (wrap64 (x8 + 1)))) else ((cleatref01_Rotate.f k x7 x1 x2).bind fun bt177 => (some bt177.1))
def cleatref02_row.f (k : Nat) (a0 : Int) (a1 : Int) (a2 : Int) : Option (Int) := cleatref02_row.l0 k a0 a1 a2 0 0
theorem cleatref02_row.mono_l : ∀ k, (∀ y0 y1 y2 y3 y4, LeO (cleatref02_row.l0 k y0 y1 y2 y3 y4) (cleatref02_row.l0 (k + 1) y0 y1 y2 y3 y4))
 | 0 => fun _ _ _ _ _ r h => by simp [cleatref02_row.l0] at h
 | k + 1 => by
  have ih0 := cleatref02_row.mono_l k
  ·intro y0 y1 y2 y3 y4
   unfold cleatref02_row.l0
   repeat' first
   | (with_reducible exact ih0 _ _ _ _ _)
   | (with_reducible exact cleatref01_Power.mono _ _)
   | (with_reducible exact cleatref01_Rotate.mono _ _ _ _)
   | (with_reducible exact LeO.refl _)
   | (with_reducible exact LeO.none _)
   | (with_reducible refine LeO.ite ?_ ?_)
   | (with_reducible refine LeO.bind ?_ (fun _ => ?_))
   | exact ih0 _ _ _ _ _
   | exact cleatref01_Power.mono _ _
   | exact cleatref01_Rotate.mono _ _ _ _
   | exact LeO.none _
   | refine LeO.ite ?_ ?_
   | refine LeO.bind ?_ (fun _ => ?_)
theorem cleatref02_row.mono : ∀ a0 a1 a2 k, LeO (cleatref02_row.f k a0 a1 a2) (cleatref02_row.f (k + 1) a0 a1 a2) := by
 intro a0 a1 a2 k
 have ih0 := cleatref02_row.mono_l k
 unfold cleatref02_row.f
 repeat' first
   | (with_reducible exact ih0 _ _ _ _ _)
   | (with_reducible exact cleatref01_Power.mono _ _)
   | (with_reducible exact cleatref01_Rotate.mono _ _ _ _)
   | (with_reducible exact LeO.refl _)
   | (with_reducible exact LeO.none _)
   | (with_reducible refine LeO.ite ?_ ?_)
   | (with_reducible refine LeO.bind ?_ (fun _ => ?_))
   | exact ih0 _ _ _ _ _
   | exact cleatref01_Power.mono _ _
   | exact cleatref01_Rotate.mono _ _ _ _
   | exact LeO.none _
   | refine LeO.ite ?_ ?_
   | refine LeO.bind ?_ (fun _ => ?_)
set_option maxHeartbeats 8000000 in
set_option maxRecDepth 100000 in
theorem cleatref02_row.calls (k : Nat) (a0 : Int) (a1 : Int) (a2 : Int) (r : Int) (w : World) (h : cleatref02_row.f k a0 a1 a2 = some r) :
  Calls Tryd.prog 53 #[.int .i64 a0, .int .i64 a1, .int .i64 a2] w fun e w' => e = .returned (.int .u64 r) ∧ Drawn0 w w' := by
 have H : (cleatref02_row.l0 k a0 a1 a2 0 0) = some r := h
 clear h
 have H' := Aside0.mk H
 clear H
 go_enter Tryd.func53, Tryd.ntmps53
 go_wp2
 go_loopg [7, 8] k (fun kq v7 v8 w' => ∃ (x7_1 : Int) (x8_1 : Int), v7 = .int .u64 x7_1 ∧ v8 = .int .i64 x8_1 ∧ Aside0 (cleatref02_row.l0 kq a0 a1 a2 x7_1 x8_1 = some r) ∧ Aside0 (kq ≤ k) ∧ Drawn0 w w')
 case atStart => exact ⟨(0), (0), (by first | rfl | (simp; done) | (simp [*]; done)), (by first | rfl | (simp; done) | (simp [*]; done)), H', ⟨Nat.le_refl _⟩, by repeat (first | exact Drawn0.refl _ | apply Drawn0.step)⟩
 case round =>
  clear H'
  try clear p2
  obtain ⟨x7_1, x8_1, rfl, rfl, HA, HK1, ⟨m1, rfl⟩⟩ := hrel
  cases gk with
  | zero => exact absurd HA.out (by simp [cleatref02_row.l0])
  | succ k1 =>
   have H := HA.out
   clear HA
   simp only [cleatref02_row.l0] at H
   by_cases c4 : x8_1 < a0
   ·rw [if_pos c4] at H
    have c4b0 : decide (x8_1 < a0) = true := decide_eq_true c4
    clear c4
    replace H := Option.bind_eq_some_iff.mp H
    obtain ⟨t176, A50, H⟩ := H
    replace H : (cleatref02_row.l0 k1 a0 a1 a2 (IntKind.u64.wrap (x7_1 + t176)) (wrap64 (x8_1 + 1))) = some r := H
    have A5 := Aside0.mk A50
    clear A50
    have H' := Aside0.mk H
    clear H
    go_wp2_with (first | ((with_reducible refine gate_callee (f := 58) rfl ?_); refine goesL_ (some 18) rfl rfl Tryd.func58 (by kernel_rfl) rfl #[.int .i64 x8_1] rfl (by (try simp only [List.map_toArray, List.map_cons, List.map_nil]); first | done | rfl | (simp only [List.length_drop, List.length_take]; rfl)) ?_; (with_reducible refine (cleatref01_Power.calls k1 x8_1 t176 _ A5.out).mono ?_); rintro e w' ⟨rfl, ⟨nd, rfl⟩⟩; refine ⟨_, rfl, ?_⟩))
    go_roundg k1
    case measure => have := HK1.out; omega
    case rel => exact ⟨(IntKind.u64.wrap (x7_1 + t176)), (wrap64 (x8_1 + 1)), (by first | rfl | (simp; done) | (simp [*]; done)), (by first | rfl | (simp; done) | (simp [*]; done)), H', ⟨by have := HK1.out; omega⟩, by repeat (first | exact Drawn0.refl _ | apply Drawn0.step)⟩
   ·rw [if_neg c4] at H
    have c4b0 : decide (x8_1 < a0) = false := decide_eq_false c4
    clear c4
    replace H := Option.bind_eq_some_iff.mp H
    obtain ⟨⟨t177, t178⟩, A60, H⟩ := H
    replace H : (some t177) = some r := H
    have A6 := Aside0.mk A60
    clear A60
    obtain rfl := Option.some.inj H
    go_wp2_with (first | ((with_reducible refine gate_callee (f := 59) rfl ?_); refine goesL_ (some 24) rfl rfl Tryd.func59 (by kernel_rfl) rfl #[.int .u64 x7_1, .int .i64 a1, .int .i64 a2] rfl (by (try simp only [List.map_toArray, List.map_cons, List.map_nil]); first | done | rfl | (simp only [List.length_drop, List.length_take]; rfl)) ?_; (with_reducible refine (cleatref01_Rotate.calls k1 x7_1 a1 a2 t177 t178 _ A6.out).mono ?_); rintro e w' ⟨rfl, ⟨nd, rfl⟩⟩; refine ⟨_, rfl, ?_⟩))
    go_ret
    exact ⟨by first | rfl | (simp; done) | (simp [*]; done), by repeat (first | exact Drawn0.refl _ | apply Drawn0.step)⟩

/-! ### cleatref02_Encode: function 44 -/
mutual
def cleatref02_Encode.l0 : Nat → Int → Int → Int → Int → Option (Int × Int × Int × Int)
 | 0, _, _, _, _ => none
 | k + 1, x0, x6, x7, x8 => if x8 < x6 then (if x7 > 0 then (cleatref02_Encode.j1 k x0 x6 x7 x8 (decide (x7 < x6))) else (cleatref02_Encode.j1 k x0 x6 x7 x8 false)) else (cleatref02_Encode.j1 k x0 x6 x7 x8 false)
def cleatref02_Encode.j1 : Nat → Int → Int → Int → Int → Bool → Option (Int × Int × Int × Int)
 | 0, _, _, _, _, _ => none
 | k + 1, x0, x6, x7, x8, x26 => if x26 = true then ((cleatref02_row.f k x7 x8 x6).bind fun t182 => ((cleatref01_Low.f k x0 x6).bind fun t183 => (if t182 = t183 then (if x6 = 64 then (some (1, x8, wrap64 (x7 - 1), 0)) else (some (0, x8, wrap64 ((wrap64 ((wrap64 (x7 - 1)) + 64)) - (wrap64 (2 * x6))), 0))) else (cleatref02_Encode.l0 k x0 x6 x7 (wrap64 (x8 + 1)))))) else (some (0, 0, 0, 3))
end
def cleatref02_Encode.f (k : Nat) (a0 : Int) : Option (Int × Int × Int × Int) := (cleatref02_Size.f k a0).bind fun t179 => ((cleatref01_Low.f k a0 t179).bind fun t180 => ((cleatref02_Ones.f k t180).bind fun t181 => (cleatref02_Encode.l0 k a0 t179 t181 0)))
theorem cleatref02_Encode.mono_l : ∀ k, (∀ y0 y1 y2 y3, LeO (cleatref02_Encode.l0 k y0 y1 y2 y3) (cleatref02_Encode.l0 (k + 1) y0 y1 y2 y3)) ∧ (∀ y0 y1 y2 y3 y4, LeO (cleatref02_Encode.j1 k y0 y1 y2 y3 y4) (cleatref02_Encode.j1 (k + 1) y0 y1 y2 y3 y4))
 | 0 => ⟨fun _ _ _ _ r h => by simp [cleatref02_Encode.l0] at h, fun _ _ _ _ _ r h => by simp [cleatref02_Encode.j1] at h⟩
 | k + 1 => by
  obtain ⟨ih0, ih1⟩ := cleatref02_Encode.mono_l k
  refine ⟨?_, ?_⟩
  ·intro y0 y1 y2 y3
   unfold cleatref02_Encode.l0
   repeat' first
   | (with_reducible exact ih0 _ _ _ _)
   | (with_reducible exact ih1 _ _ _ _ _)
   | (with_reducible exact cleatref01_Low.mono _ _ _)
   | (with_reducible exact cleatref02_Ones.mono _ _)
   | (with_reducible exact cleatref02_Size.mono _ _)
   | (with_reducible exact cleatref02_row.mono _ _ _ _)
   | (with_reducible exact LeO.refl _)
   | (with_reducible exact LeO.none _)
   | (with_reducible refine LeO.ite ?_ ?_)
   | (with_reducible refine LeO.bind ?_ (fun _ => ?_))
   | exact ih0 _ _ _ _
   | exact ih1 _ _ _ _ _
   | exact cleatref01_Low.mono _ _ _
   | exact cleatref02_Ones.mono _ _
   | exact cleatref02_Size.mono _ _
   | exact cleatref02_row.mono _ _ _ _
   | exact LeO.none _
   | refine LeO.ite ?_ ?_
   | refine LeO.bind ?_ (fun _ => ?_)
  ·intro y0 y1 y2 y3 y4
   unfold cleatref02_Encode.j1
   repeat' first
   | (with_reducible exact ih0 _ _ _ _)
   | (with_reducible exact ih1 _ _ _ _ _)
   | (with_reducible exact cleatref01_Low.mono _ _ _)
   | (with_reducible exact cleatref02_Ones.mono _ _)
   | (with_reducible exact cleatref02_Size.mono _ _)
   | (with_reducible exact cleatref02_row.mono _ _ _ _)
   | (with_reducible exact LeO.refl _)
   | (with_reducible exact LeO.none _)
   | (with_reducible refine LeO.ite ?_ ?_)
   | (with_reducible refine LeO.bind ?_ (fun _ => ?_))
   | exact ih0 _ _ _ _
   | exact ih1 _ _ _ _ _
   | exact cleatref01_Low.mono _ _ _
   | exact cleatref02_Ones.mono _ _
   | exact cleatref02_Size.mono _ _
   | exact cleatref02_row.mono _ _ _ _
   | exact LeO.none _
   | refine LeO.ite ?_ ?_
   | refine LeO.bind ?_ (fun _ => ?_)
theorem cleatref02_Encode.mono : ∀ a0 k, LeO (cleatref02_Encode.f k a0) (cleatref02_Encode.f (k + 1) a0) := by
 intro a0 k
 obtain ⟨ih0, ih1⟩ := cleatref02_Encode.mono_l k
 unfold cleatref02_Encode.f
 repeat' first
   | (with_reducible exact ih0 _ _ _ _)
   | (with_reducible exact ih1 _ _ _ _ _)
   | (with_reducible exact cleatref01_Low.mono _ _ _)
   | (with_reducible exact cleatref02_Ones.mono _ _)
   | (with_reducible exact cleatref02_Size.mono _ _)
   | (with_reducible exact cleatref02_row.mono _ _ _ _)
   | (with_reducible exact LeO.refl _)
   | (with_reducible exact LeO.none _)
   | (with_reducible refine LeO.ite ?_ ?_)
   | (with_reducible refine LeO.bind ?_ (fun _ => ?_))
   | exact ih0 _ _ _ _
   | exact ih1 _ _ _ _ _
   | exact cleatref01_Low.mono _ _ _
   | exact cleatref02_Ones.mono _ _
   | exact cleatref02_Size.mono _ _
   | exact cleatref02_row.mono _ _ _ _
   | exact LeO.none _
   | refine LeO.ite ?_ ?_
   | refine LeO.bind ?_ (fun _ => ?_)
set_option maxHeartbeats 8000000 in
set_option maxRecDepth 100000 in
theorem cleatref02_Encode.calls (k : Nat) (a0 : Int) (r1 : Int) (r2 : Int) (r3 : Int) (r4 : Int) (w : World) (h : cleatref02_Encode.f k a0 = some (r1, r2, r3, r4)) :
  Calls Tryd.prog 44 #[.int .u64 a0] w fun e w' => e = .returned (.tuple #[.int .i64 r1, .int .i64 r2, .int .i64 r3, .int .i64 r4]) ∧ Drawn0 w w' := by
 have H : ((cleatref02_Size.f k a0).bind fun t179 => ((cleatref01_Low.f k a0 t179).bind fun t180 => ((cleatref02_Ones.f k t180).bind fun t181 => (cleatref02_Encode.l0 k a0 t179 t181 0)))) = some (r1, r2, r3, r4) := h
 clear h
 replace H := Option.bind_eq_some_iff.mp H
 obtain ⟨t179, A20, H⟩ := H
 replace H : ((cleatref01_Low.f k a0 t179).bind fun t180 => ((cleatref02_Ones.f k t180).bind fun t181 => (cleatref02_Encode.l0 k a0 t179 t181 0))) = some (r1, r2, r3, r4) := H
 have A2 := Aside0.mk A20
 clear A20
 replace H := Option.bind_eq_some_iff.mp H
 obtain ⟨t180, A30, H⟩ := H
 replace H : ((cleatref02_Ones.f k t180).bind fun t181 => (cleatref02_Encode.l0 k a0 t179 t181 0)) = some (r1, r2, r3, r4) := H
 have A3 := Aside0.mk A30
 clear A30
 replace H := Option.bind_eq_some_iff.mp H
 obtain ⟨t181, A40, H⟩ := H
 replace H : (cleatref02_Encode.l0 k a0 t179 t181 0) = some (r1, r2, r3, r4) := H
 have A4 := Aside0.mk A40
 clear A40
 have H' := Aside0.mk H
 clear H
 go_enter Tryd.func44, Tryd.ntmps44
 go_wp2_with (first | ((with_reducible refine gate_callee (f := 50) rfl ?_); refine goesL_ (some 10) rfl rfl Tryd.func50 (by kernel_rfl) rfl #[.int .u64 a0] rfl (by (try simp only [List.map_toArray, List.map_cons, List.map_nil]); first | done | rfl | (simp only [List.length_drop, List.length_take]; rfl)) ?_; (with_reducible refine (cleatref02_Size.calls k a0 t179 _ A2.out).mono ?_); rintro e w' ⟨rfl, ⟨nd, rfl⟩⟩; refine ⟨_, rfl, ?_⟩) | ((with_reducible refine gate_callee (f := 52) rfl ?_); refine goesL_ (some 13) rfl rfl Tryd.func52 (by kernel_rfl) rfl #[.int .u64 a0, .int .i64 t179] rfl (by (try simp only [List.map_toArray, List.map_cons, List.map_nil]); first | done | rfl | (simp only [List.length_drop, List.length_take]; rfl)) ?_; (with_reducible refine (cleatref01_Low.calls k a0 t179 t180 _ A3.out).mono ?_); rintro e w' ⟨rfl, ⟨nd, rfl⟩⟩; refine ⟨_, rfl, ?_⟩) | ((with_reducible refine gate_callee (f := 51) rfl ?_); refine goesL_ (some 14) rfl rfl Tryd.func51 (by kernel_rfl) rfl #[.int .u64 t180] rfl (by (try simp only [List.map_toArray, List.map_cons, List.map_nil]); first | done | rfl | (simp only [List.length_drop, List.length_take]; rfl)) ?_; (with_reducible refine (cleatref02_Ones.calls k t180 t181 _ A4.out).mono ?_); rintro e w' ⟨rfl, ⟨nd, rfl⟩⟩; refine ⟨_, rfl, ?_⟩))
 go_loopg [8] k (fun kq v8 w' => ∃ (x8_1 : Int), v8 = .int .i64 x8_1 ∧ Aside0 (cleatref02_Encode.l0 kq a0 t179 t181 x8_1 = some (r1, r2, r3, r4)) ∧ Aside0 (kq ≤ k) ∧ Drawn0 w w')
 case atStart => exact ⟨(0), (by first | rfl | (simp; done) | (simp [*]; done)), H', ⟨Nat.le_refl _⟩, by repeat (first | exact Drawn0.refl _ | apply Drawn0.step)⟩
 case round =>
  clear H'
  try clear p2
  try clear c4
  obtain ⟨x8_1, rfl, HA, HK1, ⟨m1, rfl⟩⟩ := hrel
  cases gk with
  | zero => exact absurd HA.out (by simp [cleatref02_Encode.l0])
  | succ k1 =>
   have H := HA.out
   clear HA
   simp only [cleatref02_Encode.l0] at H
   have HC5 := Aside0.mk H
   clear H
   go_upto_region 4 with (fail)
   go_cut [26] (fun v26 wc => ∃ (kq : Nat) (x26_4 : Bool), v26 = .bool x26_4 ∧ Aside0 (cleatref02_Encode.j1 kq a0 t179 t181 x8_1 x26_4 = some (r1, r2, r3, r4)) ∧ Aside0 (kq ≤ k1) ∧ Drawn0 w wc)
   case first =>
    have H := HC5.out
    clear HC5
    by_cases c6 : x8_1 < t179
    ·rw [if_pos c6] at H
     have c6b0 : decide (x8_1 < t179) = true := decide_eq_true c6
     clear c6
     (first | rw [c6b0] | (simp only [i64_w, i32_w]; rw [c6b0]) | skip)
     by_cases c7 : t181 > 0
     ·rw [if_pos c7] at H
      have c7b0 : decide (0 < t181) = true := decide_eq_true c7
      clear c7
      have H' := Aside0.mk H
      clear H
      go_wp2
      go_meet
      case rel => exact ⟨_, (decide (t181 < t179)), (by first | rfl | (simp; done) | (simp [*]; done)), H', ⟨by have := HK1.out; first | omega | exact Nat.le_refl _⟩, by repeat (first | exact Drawn0.refl _ | apply Drawn0.step)⟩
     ·rw [if_neg c7] at H
      have c7b0 : decide (0 < t181) = false := decide_eq_false c7
      clear c7
      have H' := Aside0.mk H
      clear H
      go_wp2
      go_meet
      case rel => exact ⟨_, (false), (by first | rfl | (simp; done) | (simp [*]; done)), H', ⟨by have := HK1.out; first | omega | exact Nat.le_refl _⟩, by repeat (first | exact Drawn0.refl _ | apply Drawn0.step)⟩
    ·rw [if_neg c6] at H
     have c6b0 : decide (x8_1 < t179) = false := decide_eq_false c6
     clear c6
     (first | rw [c6b0] | (simp only [i64_w, i32_w]; rw [c6b0]) | skip)
     have H' := Aside0.mk H
     clear H
     go_wp2
     go_meet
     case rel => exact ⟨_, (false), (by first | rfl | (simp; done) | (simp [*]; done)), H', ⟨by have := HK1.out; first | omega | exact Nat.le_refl _⟩, by repeat (first | exact Drawn0.refl _ | apply Drawn0.step)⟩
   case rest =>
    clear HC5
    try clear p2
    try clear c4
    try clear c5
    try clear c6
    try clear c6b0
    try clear c7
    try clear c7b0
    try clear p2
    obtain ⟨kq, x26_4, rfl, HA, HJ4, ⟨mc4, rfl⟩⟩ := hcut
    cases kq with
    | zero => exact absurd HA.out (by simp [cleatref02_Encode.j1])
    | succ kj4 =>
     have H := HA.out
     clear HA
     simp only [cleatref02_Encode.j1] at H
     by_cases c8 : x26_4 = true
     ·subst c8
      rw [if_pos rfl] at H
      replace H := Option.bind_eq_some_iff.mp H
      obtain ⟨t182, A90, H⟩ := H
      replace H : ((cleatref01_Low.f kj4 a0 t179).bind fun t183 => (if t182 = t183 then (if t179 = 64 then (some (1, x8_1, wrap64 (t181 - 1), 0)) else (some (0, x8_1, wrap64 ((wrap64 ((wrap64 (t181 - 1)) + 64)) - (wrap64 (2 * t179))), 0))) else (cleatref02_Encode.l0 kj4 a0 t179 t181 (wrap64 (x8_1 + 1))))) = some (r1, r2, r3, r4) := H
      have A9 := Aside0.mk A90
      clear A90
      replace H := Option.bind_eq_some_iff.mp H
      obtain ⟨t183, A100, H⟩ := H
      replace H : (if t182 = t183 then (if t179 = 64 then (some (1, x8_1, wrap64 (t181 - 1), 0)) else (some (0, x8_1, wrap64 ((wrap64 ((wrap64 (t181 - 1)) + 64)) - (wrap64 (2 * t179))), 0))) else (cleatref02_Encode.l0 kj4 a0 t179 t181 (wrap64 (x8_1 + 1)))) = some (r1, r2, r3, r4) := H
      have A10 := Aside0.mk A100
      clear A100
      by_cases c11 : t182 = t183
      ·rw [if_pos c11] at H
       have c11b0 : (t182 == t183) = true := beq_iff_eq.mpr c11
       have c11b1 : (t182 != t183) = false := bne_eq_false_iff_eq.mpr c11
       clear c11
       by_cases c12 : t179 = 64
       ·rw [if_pos c12] at H
        have c12b0 : (t179 == 64) = true := beq_iff_eq.mpr c12
        have c12b1 : (t179 != 64) = false := bne_eq_false_iff_eq.mpr c12
        clear c12
        simp only [Option.some.injEq, Prod.mk.injEq] at H
        obtain ⟨rfl, rfl, rfl, rfl⟩ := H
        go_wp2_with (first | ((with_reducible refine gate_callee (f := 53) rfl ?_); refine goesL_ (some 32) rfl rfl Tryd.func53 (by kernel_rfl) rfl #[.int .i64 t181, .int .i64 x8_1, .int .i64 t179] rfl (by (try simp only [List.map_toArray, List.map_cons, List.map_nil]); first | done | rfl | (simp only [List.length_drop, List.length_take]; rfl)) ?_; (with_reducible refine (cleatref02_row.calls kj4 t181 x8_1 t179 t182 _ A9.out).mono ?_); rintro e w' ⟨rfl, ⟨nd, rfl⟩⟩; refine ⟨_, rfl, ?_⟩) | ((with_reducible refine gate_callee (f := 52) rfl ?_); refine goesL_ (some 35) rfl rfl Tryd.func52 (by kernel_rfl) rfl #[.int .u64 a0, .int .i64 t179] rfl (by (try simp only [List.map_toArray, List.map_cons, List.map_nil]); first | done | rfl | (simp only [List.length_drop, List.length_take]; rfl)) ?_; (with_reducible refine (cleatref01_Low.calls kj4 a0 t179 t183 _ A10.out).mono ?_); rintro e w' ⟨rfl, ⟨nd, rfl⟩⟩; refine ⟨_, rfl, ?_⟩))
        refine bodyPost_ret (results_list (rs := [.tmp 2, .tmp 3, .tmp 4, .tmp 5]) rfl (by simp) (.tmp (.tmp (.tmp (.tmp .nil))))) rfl ?_
        exact ⟨by first | rfl | (simp; done) | (simp [*]; done), by repeat (first | exact Drawn0.refl _ | apply Drawn0.step)⟩
       ·rw [if_neg c12] at H
        have c12b0 : (t179 == 64) = false := beq_eq_false_iff_ne.mpr c12
        have c12b1 : (t179 != 64) = true := bne_iff_ne.mpr c12
        simp only [Option.some.injEq, Prod.mk.injEq] at H
        obtain ⟨rfl, rfl, rfl, rfl⟩ := H
        go_wp2_with (first | ((with_reducible refine gate_callee (f := 53) rfl ?_); refine goesL_ (some 32) rfl rfl Tryd.func53 (by kernel_rfl) rfl #[.int .i64 t181, .int .i64 x8_1, .int .i64 t179] rfl (by (try simp only [List.map_toArray, List.map_cons, List.map_nil]); first | done | rfl | (simp only [List.length_drop, List.length_take]; rfl)) ?_; (with_reducible refine (cleatref02_row.calls kj4 t181 x8_1 t179 t182 _ A9.out).mono ?_); rintro e w' ⟨rfl, ⟨nd, rfl⟩⟩; refine ⟨_, rfl, ?_⟩) | ((with_reducible refine gate_callee (f := 52) rfl ?_); refine goesL_ (some 35) rfl rfl Tryd.func52 (by kernel_rfl) rfl #[.int .u64 a0, .int .i64 t179] rfl (by (try simp only [List.map_toArray, List.map_cons, List.map_nil]); first | done | rfl | (simp only [List.length_drop, List.length_take]; rfl)) ?_; (with_reducible refine (cleatref01_Low.calls kj4 a0 t179 t183 _ A10.out).mono ?_); rintro e w' ⟨rfl, ⟨nd, rfl⟩⟩; refine ⟨_, rfl, ?_⟩))
        refine bodyPost_ret (results_list (rs := [.tmp 2, .tmp 3, .tmp 4, .tmp 5]) rfl (by simp) (.tmp (.tmp (.tmp (.tmp .nil))))) rfl ?_
        exact ⟨by first | rfl | (simp; done) | (simp [*]; done), by repeat (first | exact Drawn0.refl _ | apply Drawn0.step)⟩
      ·rw [if_neg c11] at H
       have c11b0 : (t182 == t183) = false := beq_eq_false_iff_ne.mpr c11
       have c11b1 : (t182 != t183) = true := bne_iff_ne.mpr c11
       have H' := Aside0.mk H
       clear H
       go_wp2_with (first | ((with_reducible refine gate_callee (f := 53) rfl ?_); refine goesL_ (some 32) rfl rfl Tryd.func53 (by kernel_rfl) rfl #[.int .i64 t181, .int .i64 x8_1, .int .i64 t179] rfl (by (try simp only [List.map_toArray, List.map_cons, List.map_nil]); first | done | rfl | (simp only [List.length_drop, List.length_take]; rfl)) ?_; (with_reducible refine (cleatref02_row.calls kj4 t181 x8_1 t179 t182 _ A9.out).mono ?_); rintro e w' ⟨rfl, ⟨nd, rfl⟩⟩; refine ⟨_, rfl, ?_⟩) | ((with_reducible refine gate_callee (f := 52) rfl ?_); refine goesL_ (some 35) rfl rfl Tryd.func52 (by kernel_rfl) rfl #[.int .u64 a0, .int .i64 t179] rfl (by (try simp only [List.map_toArray, List.map_cons, List.map_nil]); first | done | rfl | (simp only [List.length_drop, List.length_take]; rfl)) ?_; (with_reducible refine (cleatref01_Low.calls kj4 a0 t179 t183 _ A10.out).mono ?_); rintro e w' ⟨rfl, ⟨nd, rfl⟩⟩; refine ⟨_, rfl, ?_⟩))
       go_roundg kj4
       case measure => have := HK1.out; have := HJ4.out; omega
       case rel => exact ⟨(wrap64 (x8_1 + 1)), (by first | rfl | (simp; done) | (simp [*]; done)), H', ⟨by have := HK1.out; have := HJ4.out; omega⟩, by repeat (first | exact Drawn0.refl _ | apply Drawn0.step)⟩
     ·replace c8 := Bool.eq_false_iff.mpr c8
      subst c8
      rw [if_neg (show ¬ (false = true) by decide)] at H
      simp only [Option.some.injEq, Prod.mk.injEq] at H
      obtain ⟨rfl, rfl, rfl, rfl⟩ := H
      go_wp2
      refine bodyPost_ret (results_list (rs := [.tmp 2, .tmp 3, .tmp 4, .tmp 5]) rfl (by simp) (.tmp (.tmp (.tmp (.tmp .nil))))) rfl ?_
      exact ⟨by first | rfl | (simp; done) | (simp [*]; done), by repeat (first | exact Drawn0.refl _ | apply Drawn0.step)⟩

/-! ### cleatref02_Is: function 35 -/
def cleatref02_Is.f (k : Nat) (a0 : Int) : Option (Bool) := (cleatref02_Encode.f k a0).bind fun bt184 => (some (bt184.2.2.2 == 0))
theorem cleatref02_Is.mono : ∀ a0 k, LeO (cleatref02_Is.f k a0) (cleatref02_Is.f (k + 1) a0) := by
 intro a0 k
 unfold cleatref02_Is.f
 repeat' first
   | (with_reducible exact cleatref02_Encode.mono _ _)
   | (with_reducible exact LeO.refl _)
   | (with_reducible exact LeO.none _)
   | (with_reducible refine LeO.ite ?_ ?_)
   | (with_reducible refine LeO.bind ?_ (fun _ => ?_))
   | exact cleatref02_Encode.mono _ _
   | exact LeO.none _
   | refine LeO.ite ?_ ?_
   | refine LeO.bind ?_ (fun _ => ?_)
set_option maxHeartbeats 8000000 in
set_option maxRecDepth 100000 in
theorem cleatref02_Is.calls (k : Nat) (a0 : Int) (r : Bool) (w : World) (h : cleatref02_Is.f k a0 = some r) :
  Calls Tryd.prog 35 #[.int .u64 a0] w fun e w' => e = .returned (.bool r) ∧ Drawn0 w w' := by
 have H : ((cleatref02_Encode.f k a0).bind fun bt184 => (some (bt184.2.2.2 == 0))) = some r := h
 clear h
 replace H := Option.bind_eq_some_iff.mp H
 obtain ⟨⟨t184, t185, t186, t187⟩, A20, H⟩ := H
 replace H : (some (t187 == 0)) = some r := H
 have A2 := Aside0.mk A20
 clear A20
 obtain rfl := Option.some.inj H
 go_enter Tryd.func35, Tryd.ntmps35
 go_wp2_with (first | ((with_reducible refine gate_callee (f := 44) rfl ?_); refine goesL_ (some 9) rfl rfl Tryd.func44 (by kernel_rfl) rfl #[.int .u64 a0] rfl (by (try simp only [List.map_toArray, List.map_cons, List.map_nil]); first | done | rfl | (simp only [List.length_drop, List.length_take]; rfl)) ?_; (with_reducible refine (cleatref02_Encode.calls k a0 t184 t185 t186 t187 _ A2.out).mono ?_); rintro e w' ⟨rfl, ⟨nd, rfl⟩⟩; refine ⟨_, rfl, ?_⟩))
 go_ret
 exact ⟨by first | rfl | (simp; done) | (simp [*]; done), by repeat (first | exact Drawn0.refl _ | apply Drawn0.step)⟩

/-! ### cleatref04_between: function 45 -/
def cleatref04_between.f (a0 : Int) (a1 : Int) (a2 : Int) (a3 : Int) : Option (Bool) := if a0 ≥ a1 then (if a0 ≤ a2 then (if a3 = 0 then (none) else (some ((Int.tmod a0 a3) == 0))) else (some false)) else (some false)
set_option maxHeartbeats 8000000 in
set_option maxRecDepth 100000 in
theorem cleatref04_between.calls (a0 : Int) (a1 : Int) (a2 : Int) (a3 : Int) (r : Bool) (w : World) (h : cleatref04_between.f a0 a1 a2 a3 = some r) :
  Calls Tryd.prog 45 #[.int .i64 a0, .int .i64 a1, .int .i64 a2, .int .i64 a3] w fun e w' => e = .returned (.bool r) ∧ Drawn0 w w' := by
 have H : (if a0 ≥ a1 then (if a0 ≤ a2 then (if a3 = 0 then (none) else (some ((Int.tmod a0 a3) == 0))) else (some false)) else (some false)) = some r := h
 clear h
 by_cases c5 : a0 ≥ a1
 ·rw [if_pos c5] at H
  have c5b0 : decide (a1 ≤ a0) = true := decide_eq_true c5
  clear c5
  by_cases c6 : a0 ≤ a2
  ·rw [if_pos c6] at H
   have c6b0 : decide (a0 ≤ a2) = true := decide_eq_true c6
   clear c6
   by_cases c7 : a3 = 0
   ·rw [if_pos c7] at H
    exact absurd H (by simp)
   ·rw [if_neg c7] at H
    have c7b0 : (a3 == 0) = false := beq_eq_false_iff_ne.mpr c7
    have c7b1 : (a3 != 0) = true := bne_iff_ne.mpr c7
    obtain rfl := Option.some.inj H
    go_enter Tryd.func45, Tryd.ntmps45
    go_wp2
    go_ret
    exact ⟨by first | rfl | (simp; done) | (simp [*]; done), by repeat (first | exact Drawn0.refl _ | apply Drawn0.step)⟩
  ·rw [if_neg c6] at H
   have c6b0 : decide (a0 ≤ a2) = false := decide_eq_false c6
   clear c6
   obtain rfl := Option.some.inj H
   go_enter Tryd.func45, Tryd.ntmps45
   go_wp2
   go_ret
   exact ⟨by first | rfl | (simp; done) | (simp [*]; done), by repeat (first | exact Drawn0.refl _ | apply Drawn0.step)⟩
 ·rw [if_neg c5] at H
  have c5b0 : decide (a1 ≤ a0) = false := decide_eq_false c5
  clear c5
  obtain rfl := Option.some.inj H
  go_enter Tryd.func45, Tryd.ntmps45
  go_wp2
  go_ret
  exact ⟨by first | rfl | (simp; done) | (simp [*]; done), by repeat (first | exact Drawn0.refl _ | apply Drawn0.step)⟩

end Go.Proofs.YtgonbeifaioheaaDoor.P
