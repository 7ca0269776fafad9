-- printed by wip/tools/myprint.py out of the translation. Not trusted: Lean checks it.
import Derived.Test.YtefofaamhaiejaaDoorPx0
import Derived.Test.YtefofaamhaiejaaDoorPx2
namespace Go.Proofs.YtefofaamhaiejaaDoor.P
open Go.RowKit Go.Proofs.YtefofaamhaiejaaDoorW.PrintWords Go.Proofs.YtefofaamhaiejaaDoorW.PrintLast Go.Proofs.YtefofaamhaiejaaDoorW.PrintMore
attribute [local go_sem] max2_int min2_int max_two min_two max_three min_three max_four min_four   -- for this text's walks alone
set_option linter.unusedVariables false
set_option linter.unusedSimpArgs false

/-! ### cleatref10_Value: function 9 -/
mutual
def cleatref10_Value.j0 : Nat → ByteArray → Int → Bool → Option (Int × Int)
 | 0, _, _, _ => none
 | k + 1, x0, x4, x21 => if x21 = true then (if 2 ≤ (x0.size : Int) then (cleatref10_Value.j1 k (x0.extract 2 x0.size) 16) else (none)) else (cleatref10_Value.j1 k x0 x4)
def cleatref10_Value.j1 : Nat → ByteArray → Int → Option (Int × Int)
 | 0, _, _ => none
 | k + 1, x0, x4 => if (x0.size : Int) = 0 then (some (0, 3)) else (cleatref10_Value.l0 k x0 x4 0)
def cleatref10_Value.l0 : Nat → ByteArray → Int → Int → Option (Int × Int)
 | 0, _, _, _ => none
 | k + 1, x0, x4, x5 => if x5 < (x0.size : Int) then (if 0 ≤ x5 then ((cleatref10_digit.f k (bt x0 x5) x4).bind fun t101 => (if t101 < 0 then (some (0, 3)) else (cleatref10_Value.l0 k x0 x4 (wrap64 (x5 + 1))))) else (none)) else (cleatref10_Value.l1 k x0 x4 0 0)
def cleatref10_Value.l1 : Nat → ByteArray → Int → Int → Int → Option (Int × Int)
 | 0, _, _, _, _ => none
 | k + 1, x0, x4, x6, x7 => if x7 < (x0.size : Int) then (if 0 ≤ x7 then ((cleatref10_digit.f k (bt x0 x7) x4).bind fun t102 => (if (IntKind.u64.wrap (x4)) = 0 then (none) else (if x6 > (IntKind.u64.wrap (Int.tdiv (IntKind.u64.wrap (18446744073709551615 - (IntKind.u64.wrap (t102)))) (IntKind.u64.wrap (x4)))) then (some (0, 4)) else (cleatref10_Value.l1 k x0 x4 (IntKind.u64.wrap ((IntKind.u64.wrap ((IntKind.u64.wrap (x4)) * x6)) + (IntKind.u64.wrap (t102)))) (wrap64 (x7 + 1)))))) else (none)) else (some (x6, 0))
end
def cleatref10_Value.f (k : Nat) (a0 : ByteArray) : Option (Int × Int) := if (a0.size : Int) ≥ 2 then (if 0 < (a0.size : Int) then (if (bt a0 0) = 48 then (if 1 < (a0.size : Int) then (cleatref10_Value.j0 k a0 10 ((bt a0 1) == 120)) else (none)) else (cleatref10_Value.j0 k a0 10 false)) else (none)) else (cleatref10_Value.j0 k a0 10 false)
theorem cleatref10_Value.mono_l : ∀ k, (∀ y0 y1 y2, LeO (cleatref10_Value.j0 k y0 y1 y2) (cleatref10_Value.j0 (k + 1) y0 y1 y2)) ∧ (∀ y0 y1, LeO (cleatref10_Value.j1 k y0 y1) (cleatref10_Value.j1 (k + 1) y0 y1)) ∧ (∀ y0 y1 y2, LeO (cleatref10_Value.l0 k y0 y1 y2) (cleatref10_Value.l0 (k + 1) y0 y1 y2)) ∧ (∀ y0 y1 y2 y3, LeO (cleatref10_Value.l1 k y0 y1 y2 y3) (cleatref10_Value.l1 (k + 1) y0 y1 y2 y3))
 | 0 => ⟨fun _ _ _ r h => by simp [cleatref10_Value.j0] at h, fun _ _ r h => by simp [cleatref10_Value.j1] at h, fun _ _ _ r h => by simp [cleatref10_Value.l0] at h, fun _ _ _ _ r h => by simp [cleatref10_Value.l1] at h⟩
 | k + 1 => by
  obtain ⟨ih0, ih1, ih2, ih3⟩ := cleatref10_Value.mono_l k
  refine ⟨?_, ?_, ?_, ?_⟩
  ·intro y0 y1 y2
   unfold cleatref10_Value.j0
   repeat' first
   | (with_reducible exact ih0 _ _ _)
   | (with_reducible exact ih1 _ _)
   | (with_reducible exact ih2 _ _ _)
   | (with_reducible exact ih3 _ _ _ _)
   | (with_reducible exact cleatref10_digit.mono _ _ _)
   | (with_reducible exact LeO.refl _)
   | (with_reducible exact LeO.none _)
   | (with_reducible refine LeO.ite ?_ ?_)
   | (with_reducible refine LeO.bind ?_ (fun _ => ?_))
   | exact ih0 _ _ _
   | exact ih1 _ _
   | exact ih2 _ _ _
   | exact ih3 _ _ _ _
   | exact cleatref10_digit.mono _ _ _
   | exact LeO.none _
   | refine LeO.ite ?_ ?_
   | refine LeO.bind ?_ (fun _ => ?_)
  ·intro y0 y1
   unfold cleatref10_Value.j1
   repeat' first
   | (with_reducible exact ih0 _ _ _)
   | (with_reducible exact ih1 _ _)
   | (with_reducible exact ih2 _ _ _)
   | (with_reducible exact ih3 _ _ _ _)
   | (with_reducible exact cleatref10_digit.mono _ _ _)
   | (with_reducible exact LeO.refl _)
   | (with_reducible exact LeO.none _)
   | (with_reducible refine LeO.ite ?_ ?_)
   | (with_reducible refine LeO.bind ?_ (fun _ => ?_))
   | exact ih0 _ _ _
   | exact ih1 _ _
   | exact ih2 _ _ _
   | exact ih3 _ _ _ _
   | exact cleatref10_digit.mono _ _ _
   | exact LeO.none _
   | refine LeO.ite ?_ ?_
   | refine LeO.bind ?_ (fun _ => ?_)
  ·intro y0 y1 y2
   unfold cleatref10_Value.l0
   repeat' first
   | (with_reducible exact ih0 _ _ _)
   | (with_reducible exact ih1 _ _)
   | (with_reducible exact ih2 _ _ _)
   | (with_reducible exact ih3 _ _ _ _)
   | (with_reducible exact cleatref10_digit.mono _ _ _)
   | (with_reducible exact LeO.refl _)
   | (with_reducible exact LeO.none _)
   | (with_reducible refine LeO.ite ?_ ?_)
   | (with_reducible refine LeO.bind ?_ (fun _ => ?_))
   | exact ih0 _ _ _
   | exact ih1 _ _
   | exact ih2 _ _ _
   | exact ih3 _ _ _ _
   | exact cleatref10_digit.mono _ _ _
   | exact LeO.none _
   | refine LeO.ite ?_ ?_
   | refine LeO.bind ?_ (fun _ => ?_)
  ·intro y0 y1 y2 y3
   unfold cleatref10_Value.l1
   repeat' first
   | (with_reducible exact ih0 _ _ _)
   | (with_reducible exact ih1 _ _)
   | (with_reducible exact ih2 _ _ _)
   | (with_reducible exact ih3 _ _ _ _)
   | (with_reducible exact cleatref10_digit.mono _ _ _)
   | (with_reducible exact LeO.refl _)
   | (with_reducible exact LeO.none _)
   | (with_reducible refine LeO.ite ?_ ?_)
   | (with_reducible refine LeO.bind ?_ (fun _ => ?_))
   | exact ih0 _ _ _
   | exact ih1 _ _
   | exact ih2 _ _ _
   | exact ih3 _ _ _ _
   | exact cleatref10_digit.mono _ _ _
   | exact LeO.none _
   | refine LeO.ite ?_ ?_
   | refine LeO.bind ?_ (fun _ => ?_)
theorem cleatref10_Value.mono : ∀ a0 k, LeO (cleatref10_Value.f k a0) (cleatref10_Value.f (k + 1) a0) := by
 intro a0 k
 obtain ⟨ih0, ih1, ih2, ih3⟩ := cleatref10_Value.mono_l k
 unfold cleatref10_Value.f
 repeat' first
   | (with_reducible exact ih0 _ _ _)
   | (with_reducible exact ih1 _ _)
   | (with_reducible exact ih2 _ _ _)
   | (with_reducible exact ih3 _ _ _ _)
   | (with_reducible exact cleatref10_digit.mono _ _ _)
   | (with_reducible exact LeO.refl _)
   | (with_reducible exact LeO.none _)
   | (with_reducible refine LeO.ite ?_ ?_)
   | (with_reducible refine LeO.bind ?_ (fun _ => ?_))
   | exact ih0 _ _ _
   | exact ih1 _ _
   | exact ih2 _ _ _
   | exact ih3 _ _ _ _
   | exact cleatref10_digit.mono _ _ _
   | exact LeO.none _
   | refine LeO.ite ?_ ?_
   | refine LeO.bind ?_ (fun _ => ?_)
set_option maxHeartbeats 8000000 in
set_option maxRecDepth 100000 in
theorem cleatref10_Value.calls (k : Nat) (a0 : ByteArray) (r1 : Int) (r2 : Int) (w : World) (h : cleatref10_Value.f k a0 = some (r1, r2)) :
  Calls Tryd.prog 9 #[.string a0] w fun e w' => e = .returned (.tuple #[.int .u64 r1, .int .i64 r2]) ∧ Drawn0 w w' := by
 have H : (if (a0.size : Int) ≥ 2 then (if 0 < (a0.size : Int) then (if (bt a0 0) = 48 then (if 1 < (a0.size : Int) then (cleatref10_Value.j0 k a0 10 ((bt a0 1) == 120)) else (none)) else (cleatref10_Value.j0 k a0 10 false)) else (none)) else (cleatref10_Value.j0 k a0 10 false)) = some (r1, r2) := h
 clear h
 have HC2 := Aside0.mk H
 clear H
 go_enter Tryd.func9, Tryd.ntmps9
 go_upto_region 2 with (fail)
 go_cut [21] (fun v21 wc => ∃ (kq : Nat) (x21_1 : Bool), v21 = .bool x21_1 ∧ Aside0 (cleatref10_Value.j0 kq a0 10 x21_1 = some (r1, r2)) ∧ Aside0 (kq ≤ k) ∧ Drawn0 w wc)
 case first =>
  have H := HC2.out
  clear HC2
  by_cases c3 : (a0.size : Int) ≥ 2
  ·rw [if_pos c3] at H
   have c3b0 : decide (2 ≤ (a0.size : Int)) = true := decide_eq_true c3
   have c3b1 : decide (2 ≤ a0.size) = true := decide_eq_true (by omega)
   clear c3
   (first | rw [c3b0] | (simp only [i64_w, i32_w]; rw [c3b0]) | skip)
   by_cases c4 : 0 < (a0.size : Int)
   ·rw [if_pos c4] at H
    have c4b0 : decide (0 < (a0.size : Int)) = true := decide_eq_true c4
    have c4b1 : decide (0 < a0.size) = true := decide_eq_true (by omega)
    clear c4
    by_cases c6 : (bt a0 0) = 48
    ·rw [if_pos c6] at H
     have c6b0 : ((bt a0 0) == 48) = true := beq_iff_eq.mpr c6
     have c6b1 : ((bt a0 0) != 48) = false := bne_eq_false_iff_eq.mpr c6
     clear c6
     by_cases c7 : 1 < (a0.size : Int)
     ·rw [if_pos c7] at H
      have c7b0 : decide (1 < (a0.size : Int)) = true := decide_eq_true c7
      have c7b1 : decide (1 < a0.size) = true := decide_eq_true (by omega)
      clear c7
      have H' := Aside0.mk H
      clear H
      have p5 : 0 ≤ (0 : Int) := (by omega)
      have q5 : 0 < a0.size := (by have : (0 : Int) < (a0.size : Int) := of_decide_eq_true (by first | (with_reducible assumption) | assumption); omega)
      have hx5 : ∀ h : 0 < a0.size, ((a0[0]'h).toNat : Int) = bt a0 0 := bt_at a0 0
      clear p5
      have qi5 : (0 < (a0.size : Int)) = True := eq_true (of_decide_eq_true (by first | (with_reducible assumption) | assumption))
      replace q5 := eq_true q5
      have p8 : 0 ≤ (1 : Int) := (by omega)
      have q8 : 1 < a0.size := (by have : (1 : Int) < (a0.size : Int) := of_decide_eq_true (by first | (with_reducible assumption) | assumption); omega)
      have hx8 : ∀ h : 1 < a0.size, ((a0[1]'h).toNat : Int) = bt a0 1 := bt_at a0 1
      clear p8
      have qi8 : (1 < (a0.size : Int)) = True := eq_true (of_decide_eq_true (by first | (with_reducible assumption) | assumption))
      replace q8 := eq_true q8
      go_wp2
      go_meet
      case rel => exact ⟨_, (((bt a0 1) == 120)), (by first | rfl | (simp; done) | (simp [*]; done)), H', ⟨by first | omega | exact Nat.le_refl _⟩, by repeat (first | exact Drawn0.refl _ | apply Drawn0.step)⟩
     ·rw [if_neg c7] at H
      exact absurd H (by simp)
    ·rw [if_neg c6] at H
     have c6b0 : ((bt a0 0) == 48) = false := beq_eq_false_iff_ne.mpr c6
     have c6b1 : ((bt a0 0) != 48) = true := bne_iff_ne.mpr c6
     have H' := Aside0.mk H
     clear H
     have p5 : 0 ≤ (0 : Int) := (by omega)
     have q5 : 0 < a0.size := (by have : (0 : Int) < (a0.size : Int) := of_decide_eq_true (by first | (with_reducible assumption) | assumption); omega)
     have hx5 : ∀ h : 0 < a0.size, ((a0[0]'h).toNat : Int) = bt a0 0 := bt_at a0 0
     clear p5
     have qi5 : (0 < (a0.size : Int)) = True := eq_true (of_decide_eq_true (by first | (with_reducible assumption) | assumption))
     replace q5 := eq_true q5
     go_wp2
     go_meet
     case rel => exact ⟨_, (false), (by first | rfl | (simp; done) | (simp [*]; done)), H', ⟨by first | omega | exact Nat.le_refl _⟩, by repeat (first | exact Drawn0.refl _ | apply Drawn0.step)⟩
   ·rw [if_neg c4] at H
    exact absurd H (by simp)
  ·rw [if_neg c3] at H
   have c3b0 : decide (2 ≤ (a0.size : Int)) = false := decide_eq_false c3
   have c3b1 : decide (2 ≤ a0.size) = false := decide_eq_false (by omega)
   clear c3
   (first | rw [c3b0] | (simp only [i64_w, i32_w]; rw [c3b0]) | skip)
   have H' := Aside0.mk H
   clear H
   go_wp2
   go_meet
   case rel => exact ⟨_, (false), (by first | rfl | (simp; done) | (simp [*]; done)), H', ⟨by first | omega | exact Nat.le_refl _⟩, by repeat (first | exact Drawn0.refl _ | apply Drawn0.step)⟩
 case rest =>
  clear HC2
  try clear p2
  try clear c3
  try clear c3b0
  try clear c3b1
  try clear c4
  try clear c4b0
  try clear c4b1
  try clear p5
  try clear q5
  try clear hx5
  try clear qi5
  try clear c6
  try clear c6b0
  try clear c6b1
  try clear c7
  try clear c7b0
  try clear c7b1
  try clear p8
  try clear q8
  try clear hx8
  try clear qi8
  try clear p5
  try clear p8
  try clear q5
  try clear q8
  obtain ⟨kq, x21_1, rfl, HA, HJ1, ⟨mc1, rfl⟩⟩ := hcut
  cases kq with
  | zero => exact absurd HA.out (by simp [cleatref10_Value.j0])
  | succ kj1 =>
   have H := HA.out
   clear HA
   simp only [cleatref10_Value.j0] at H
   have HC9 := Aside0.mk H
   clear H
   go_upto_if 21 with (fail)
   go_cut [0, 4] (fun v0 v4 wc => ∃ (kq : Nat) (x0_8 : ByteArray) (x4_8 : Int), v0 = .string x0_8 ∧ v4 = .int .i64 x4_8 ∧ Aside0 (cleatref10_Value.j1 kq x0_8 x4_8 = some (r1, r2)) ∧ Aside0 (kq ≤ kj1) ∧ Drawn0 w wc)
   case first =>
    have H := HC9.out
    clear HC9
    by_cases c10 : x21_1 = true
    ·subst c10
     rw [if_pos rfl] at H
     by_cases c11 : 2 ≤ (a0.size : Int)
     ·rw [if_pos c11] at H
      have c11b0 := eq_true c11
      have c11b1 : decide (2 ≤ (a0.size : Int)) = true := decide_eq_true c11
      clear c11
      have H' := Aside0.mk H
      clear H
      go_wp2
      go_meet
      case rel => exact ⟨_, (a0.extract 2 a0.size), (16), (by first | rfl | (simp; done) | (simp [*]; done)), (by first | rfl | (simp; done) | (simp [*]; done)), H', ⟨by have := HJ1.out; first | omega | exact Nat.le_refl _⟩, by repeat (first | exact Drawn0.refl _ | apply Drawn0.step)⟩
     ·rw [if_neg c11] at H
      exact absurd H (by simp)
    ·replace c10 := Bool.eq_false_iff.mpr c10
     subst c10
     rw [if_neg (show ¬ (false = true) by decide)] at H
     have H' := Aside0.mk H
     clear H
     go_wp2
     go_meet
     case rel => exact ⟨_, (a0), (10), (by first | rfl | (simp; done) | (simp [*]; done)), (by first | rfl | (simp; done) | (simp [*]; done)), H', ⟨by have := HJ1.out; first | omega | exact Nat.le_refl _⟩, by repeat (first | exact Drawn0.refl _ | apply Drawn0.step)⟩
   case rest =>
    clear HC9
    try clear c1
    try clear p2
    try clear c3
    try clear c3b0
    try clear c3b1
    try clear c4
    try clear c4b0
    try clear c4b1
    try clear p5
    try clear q5
    try clear hx5
    try clear qi5
    try clear c6
    try clear c6b0
    try clear c6b1
    try clear c7
    try clear c7b0
    try clear c7b1
    try clear p8
    try clear q8
    try clear hx8
    try clear qi8
    try clear c9
    try clear c10
    try clear c11
    try clear c11b0
    try clear c11b1
    try clear p2
    try clear p5
    try clear p8
    try clear q5
    try clear q8
    obtain ⟨kq, x0_8, x4_8, rfl, rfl, HA, HJ8, ⟨mc8, rfl⟩⟩ := hcut
    cases kq with
    | zero => exact absurd HA.out (by simp [cleatref10_Value.j1])
    | succ kj8 =>
     have H := HA.out
     clear HA
     simp only [cleatref10_Value.j1] at H
     by_cases c12 : (x0_8.size : Int) = 0
     ·rw [if_pos c12] at H
      have c12b0 : ((x0_8.size : Int) == 0) = true := beq_iff_eq.mpr c12
      have c12b1 : ((x0_8.size : Int) != 0) = false := bne_eq_false_iff_eq.mpr c12
      clear c12
      simp only [Option.some.injEq, Prod.mk.injEq] at H
      obtain ⟨rfl, rfl⟩ := H
      go_wp2
      go_ret2
      exact ⟨by first | rfl | (simp; done) | (simp [*]; done), by repeat (first | exact Drawn0.refl _ | apply Drawn0.step)⟩
     ·rw [if_neg c12] at H
      have c12b0 : ((x0_8.size : Int) == 0) = false := beq_eq_false_iff_ne.mpr c12
      have c12b1 : ((x0_8.size : Int) != 0) = true := bne_iff_ne.mpr c12
      have H' := Aside0.mk H
      clear H
      go_wp2
      go_loopg [5] kj8 (fun kq v5 w' => ∃ (x5_3 : Int), v5 = .int .i64 x5_3 ∧ Aside0 (cleatref10_Value.l0 kq x0_8 x4_8 x5_3 = some (r1, r2)) ∧ Aside0 (kq ≤ kj8) ∧ Drawn0 w w')
      case atStart => exact ⟨(0), (by first | rfl | (simp; done) | (simp [*]; done)), H', ⟨Nat.le_refl _⟩, by repeat (first | exact Drawn0.refl _ | apply Drawn0.step)⟩
      case round =>
       clear H'
       try clear c1
       try clear p2
       try clear c3
       try clear c3b0
       try clear c3b1
       try clear c4
       try clear c4b0
       try clear c4b1
       try clear p5
       try clear q5
       try clear hx5
       try clear qi5
       try clear c6
       try clear c6b0
       try clear c6b1
       try clear c7
       try clear c7b0
       try clear c7b1
       try clear c8
       try clear p8
       try clear q8
       try clear hx8
       try clear qi8
       try clear c9
       try clear c10
       try clear c11
       try clear c11b0
       try clear c11b1
       try clear c12
       try clear c12b0
       try clear c12b1
       try clear p2
       try clear p5
       try clear p8
       try clear q5
       try clear q8
       obtain ⟨x5_3, rfl, HA, HK3, ⟨m3, rfl⟩⟩ := hrel
       cases gk with
       | zero => exact absurd HA.out (by simp [cleatref10_Value.l0])
       | succ k3 =>
        have H := HA.out
        clear HA
        simp only [cleatref10_Value.l0] at H
        by_cases c13 : x5_3 < (x0_8.size : Int)
        ·rw [if_pos c13] at H
         have c13b0 : decide (x5_3 < (x0_8.size : Int)) = true := decide_eq_true c13
         clear c13
         by_cases c14 : 0 ≤ x5_3
         ·rw [if_pos c14] at H
          have c14b0 : decide (0 ≤ x5_3) = true := decide_eq_true c14
          clear c14
          replace H := Option.bind_eq_some_iff.mp H
          obtain ⟨t101, A160, H⟩ := H
          replace H : (if t101 < 0 then (some (0, 3)) else (cleatref10_Value.l0 k3 x0_8 x4_8 (wrap64 (x5_3 + 1)))) = some (r1, r2) := H
          have A16 := Aside0.mk A160
          clear A160
          by_cases c17 : t101 < 0
          ·rw [if_pos c17] at H
           have c17b0 : decide (t101 < 0) = true := decide_eq_true c17
           clear c17
           simp only [Option.some.injEq, Prod.mk.injEq] at H
           obtain ⟨rfl, rfl⟩ := H
           have p15 : 0 ≤ (x5_3 : Int) := of_decide_eq_true (by first | (with_reducible assumption) | assumption)
           have q15 : x5_3 < (x0_8.size : Int) := of_decide_eq_true (by first | (with_reducible assumption) | assumption)
           have hx15 := bt_at x0_8 x5_3
           replace p15 := eq_true p15
           replace q15 := eq_true q15
           go_wp2_with (first | ((with_reducible refine gate_callee (f := 25) rfl ?_); refine goesL_ (some 37) rfl rfl Tryd.func25 (by kernel_rfl) rfl #[.int .u8 (bt x0_8 x5_3), .int .i64 x4_8] rfl (by (try simp only [List.map_toArray, List.map_cons, List.map_nil]); first | done | rfl | (simp only [List.length_drop, List.length_take]; rfl)) ?_; (with_reducible refine (cleatref10_digit.calls k3 (bt x0_8 x5_3) x4_8 t101 _ A16.out).mono ?_); rintro e w' ⟨rfl, ⟨nd, rfl⟩⟩; refine ⟨_, rfl, ?_⟩))
           go_ret2
           exact ⟨by first | rfl | (simp; done) | (simp [*]; done), by repeat (first | exact Drawn0.refl _ | apply Drawn0.step)⟩
          ·rw [if_neg c17] at H
           have c17b0 : decide (t101 < 0) = false := decide_eq_false c17
           clear c17
           have H' := Aside0.mk H
           clear H
           have p15 : 0 ≤ (x5_3 : Int) := of_decide_eq_true (by first | (with_reducible assumption) | assumption)
           have q15 : x5_3 < (x0_8.size : Int) := of_decide_eq_true (by first | (with_reducible assumption) | assumption)
           have hx15 := bt_at x0_8 x5_3
           replace p15 := eq_true p15
           replace q15 := eq_true q15
           go_wp2_with (first | ((with_reducible refine gate_callee (f := 25) rfl ?_); refine goesL_ (some 37) rfl rfl Tryd.func25 (by kernel_rfl) rfl #[.int .u8 (bt x0_8 x5_3), .int .i64 x4_8] rfl (by (try simp only [List.map_toArray, List.map_cons, List.map_nil]); first | done | rfl | (simp only [List.length_drop, List.length_take]; rfl)) ?_; (with_reducible refine (cleatref10_digit.calls k3 (bt x0_8 x5_3) x4_8 t101 _ A16.out).mono ?_); rintro e w' ⟨rfl, ⟨nd, rfl⟩⟩; refine ⟨_, rfl, ?_⟩))
           go_roundg k3
           case measure => have := HJ1.out; have := HJ8.out; have := HK3.out; omega
           case rel => exact ⟨(wrap64 (x5_3 + 1)), (by first | rfl | (simp; done) | (simp [*]; done)), H', ⟨by have := HJ1.out; have := HJ8.out; have := HK3.out; omega⟩, by repeat (first | exact Drawn0.refl _ | apply Drawn0.step)⟩
         ·rw [if_neg c14] at H
          exact absurd H (by simp)
        ·rw [if_neg c13] at H
         have c13b0 : decide (x5_3 < (x0_8.size : Int)) = false := decide_eq_false c13
         clear c13
         have H' := Aside0.mk H
         clear H
         go_wp2
         go_loopg [6, 7] k3 (fun kq v6 v7 w' => ∃ (x6_4 : Int) (x7_4 : Int), v6 = .int .u64 x6_4 ∧ v7 = .int .i64 x7_4 ∧ Aside0 (cleatref10_Value.l1 kq x0_8 x4_8 x6_4 x7_4 = some (r1, r2)) ∧ Aside0 (kq ≤ k3) ∧ Drawn0 w w')
         case atStart => exact ⟨(0), (0), (by first | rfl | (simp; done) | (simp [*]; done)), (by first | rfl | (simp; done) | (simp [*]; done)), H', ⟨Nat.le_refl _⟩, by repeat (first | exact Drawn0.refl _ | apply Drawn0.step)⟩
         case round =>
          clear H'
          try clear c1
          try clear p1
          try clear q1
          try clear hx1
          try clear c2
          try clear p2
          try clear c3
          try clear c3b0
          try clear c3b1
          try clear c4
          try clear c4b0
          try clear c4b1
          try clear p5
          try clear q5
          try clear hx5
          try clear qi5
          try clear c6
          try clear c6b0
          try clear c6b1
          try clear p6
          try clear c7
          try clear c7b0
          try clear c7b1
          try clear c8
          try clear p8
          try clear q8
          try clear hx8
          try clear qi8
          try clear c9
          try clear c10
          try clear c11
          try clear c11b0
          try clear c11b1
          try clear c12
          try clear c12b0
          try clear c12b1
          try clear c13
          try clear c13b0
          try clear c14
          try clear c14b0
          try clear p15
          try clear q15
          try clear hx15
          try clear c17
          try clear c17b0
          try clear p15
          try clear p2
          try clear p5
          try clear p8
          try clear q15
          try clear q5
          try clear q8
          obtain ⟨x6_4, x7_4, rfl, rfl, HA, HK4, ⟨m4, rfl⟩⟩ := hrel
          cases gk with
          | zero => exact absurd HA.out (by simp [cleatref10_Value.l1])
          | succ k4 =>
           have H := HA.out
           clear HA
           simp only [cleatref10_Value.l1] at H
           by_cases c18 : x7_4 < (x0_8.size : Int)
           ·rw [if_pos c18] at H
            have c18b0 : decide (x7_4 < (x0_8.size : Int)) = true := decide_eq_true c18
            clear c18
            by_cases c19 : 0 ≤ x7_4
            ·rw [if_pos c19] at H
             have c19b0 : decide (0 ≤ x7_4) = true := decide_eq_true c19
             clear c19
             replace H := Option.bind_eq_some_iff.mp H
             obtain ⟨t102, A210, H⟩ := H
             replace H : (if (IntKind.u64.wrap (x4_8)) = 0 then (none) else (if x6_4 > (IntKind.u64.wrap (Int.tdiv (IntKind.u64.wrap (18446744073709551615 - (IntKind.u64.wrap (t102)))) (IntKind.u64.wrap (x4_8)))) then (some (0, 4)) else (cleatref10_Value.l1 k4 x0_8 x4_8 (IntKind.u64.wrap ((IntKind.u64.wrap ((IntKind.u64.wrap (x4_8)) * x6_4)) + (IntKind.u64.wrap (t102)))) (wrap64 (x7_4 + 1))))) = some (r1, r2) := H
             have A21 := Aside0.mk A210
             clear A210
             by_cases c22 : (IntKind.u64.wrap (x4_8)) = 0
             ·rw [if_pos c22] at H
              exact absurd H (by simp)
             ·rw [if_neg c22] at H
              have c22b0 : ((IntKind.u64.wrap (x4_8)) == 0) = false := beq_eq_false_iff_ne.mpr c22
              have c22b1 : ((IntKind.u64.wrap (x4_8)) != 0) = true := bne_iff_ne.mpr c22
              by_cases c23 : x6_4 > (IntKind.u64.wrap (Int.tdiv (IntKind.u64.wrap (18446744073709551615 - (IntKind.u64.wrap (t102)))) (IntKind.u64.wrap (x4_8))))
              ·rw [if_pos c23] at H
               have c23b0 : decide ((IntKind.u64.wrap (Int.tdiv (IntKind.u64.wrap (18446744073709551615 - (IntKind.u64.wrap (t102)))) (IntKind.u64.wrap (x4_8)))) < x6_4) = true := decide_eq_true c23
               clear c23
               simp only [Option.some.injEq, Prod.mk.injEq] at H
               obtain ⟨rfl, rfl⟩ := H
               have p20 : 0 ≤ (x7_4 : Int) := of_decide_eq_true (by first | (with_reducible assumption) | assumption)
               have q20 : x7_4 < (x0_8.size : Int) := of_decide_eq_true (by first | (with_reducible assumption) | assumption)
               have hx20 := bt_at x0_8 x7_4
               replace p20 := eq_true p20
               replace q20 := eq_true q20
               go_wp2_with (first | ((with_reducible refine gate_callee (f := 25) rfl ?_); refine goesL_ (some 49) rfl rfl Tryd.func25 (by kernel_rfl) rfl #[.int .u8 (bt x0_8 x7_4), .int .i64 x4_8] rfl (by (try simp only [List.map_toArray, List.map_cons, List.map_nil]); first | done | rfl | (simp only [List.length_drop, List.length_take]; rfl)) ?_; (with_reducible refine (cleatref10_digit.calls k4 (bt x0_8 x7_4) x4_8 t102 _ A21.out).mono ?_); rintro e w' ⟨rfl, ⟨nd, rfl⟩⟩; refine ⟨_, rfl, ?_⟩))
               go_ret2
               exact ⟨by first | rfl | (simp; done) | (simp [*]; done), by repeat (first | exact Drawn0.refl _ | apply Drawn0.step)⟩
              ·rw [if_neg c23] at H
               have c23b0 : decide ((IntKind.u64.wrap (Int.tdiv (IntKind.u64.wrap (18446744073709551615 - (IntKind.u64.wrap (t102)))) (IntKind.u64.wrap (x4_8)))) < x6_4) = false := decide_eq_false c23
               clear c23
               have H' := Aside0.mk H
               clear H
               have p20 : 0 ≤ (x7_4 : Int) := of_decide_eq_true (by first | (with_reducible assumption) | assumption)
               have q20 : x7_4 < (x0_8.size : Int) := of_decide_eq_true (by first | (with_reducible assumption) | assumption)
               have hx20 := bt_at x0_8 x7_4
               replace p20 := eq_true p20
               replace q20 := eq_true q20
               go_wp2_with (first | ((with_reducible refine gate_callee (f := 25) rfl ?_); refine goesL_ (some 49) rfl rfl Tryd.func25 (by kernel_rfl) rfl #[.int .u8 (bt x0_8 x7_4), .int .i64 x4_8] rfl (by (try simp only [List.map_toArray, List.map_cons, List.map_nil]); first | done | rfl | (simp only [List.length_drop, List.length_take]; rfl)) ?_; (with_reducible refine (cleatref10_digit.calls k4 (bt x0_8 x7_4) x4_8 t102 _ A21.out).mono ?_); rintro e w' ⟨rfl, ⟨nd, rfl⟩⟩; refine ⟨_, rfl, ?_⟩))
               go_roundg k4
               case measure => have := HJ1.out; have := HJ8.out; have := HK3.out; have := HK4.out; omega
               case rel => exact ⟨(IntKind.u64.wrap ((IntKind.u64.wrap ((IntKind.u64.wrap (x4_8)) * x6_4)) + (IntKind.u64.wrap (t102)))), (wrap64 (x7_4 + 1)), (by first | rfl | (simp; done) | (simp [*]; done)), (by first | rfl | (simp; done) | (simp [*]; done)), H', ⟨by have := HJ1.out; have := HJ8.out; have := HK3.out; have := HK4.out; omega⟩, by repeat (first | exact Drawn0.refl _ | apply Drawn0.step)⟩
            ·rw [if_neg c19] at H
             exact absurd H (by simp)
           ·rw [if_neg c18] at H
            have c18b0 : decide (x7_4 < (x0_8.size : Int)) = false := decide_eq_false c18
            clear c18
            simp only [Option.some.injEq, Prod.mk.injEq] at H
            obtain ⟨rfl, rfl⟩ := H
            go_wp2
            go_ret2
            exact ⟨by first | rfl | (simp; done) | (simp [*]; done), by repeat (first | exact Drawn0.refl _ | apply Drawn0.step)⟩

/-! ### num_Signed: function 10 -/
def num_Signed.f (a0 : Bool) (a1 : Int) : Option (Int × Int) := if a0 = true then (if a1 > 9223372036854775808 then (some (0, 4)) else (some (wrap64 (IntKind.u64.wrap (-a1)), 0))) else (if a1 > 9223372036854775807 then (some (0, 4)) else (some (wrap64 (a1), 0)))
set_option maxHeartbeats 8000000 in
set_option maxRecDepth 100000 in
theorem num_Signed.calls (a0 : Bool) (a1 : Int) (r1 : Int) (r2 : Int) (w : World) (h : num_Signed.f a0 a1 = some (r1, r2)) :
  Calls Tryd.prog 10 #[.bool a0, .int .u64 a1] w fun e w' => e = .returned (.tuple #[.int .i64 r1, .int .i64 r2]) ∧ Drawn0 w w' := by
 have H : (if a0 = true then (if a1 > 9223372036854775808 then (some (0, 4)) else (some (wrap64 (IntKind.u64.wrap (-a1)), 0))) else (if a1 > 9223372036854775807 then (some (0, 4)) else (some (wrap64 (a1), 0)))) = some (r1, r2) := h
 clear h
 by_cases c3 : a0 = true
 ·subst c3
  rw [if_pos rfl] at H
  by_cases c4 : a1 > 9223372036854775808
  ·rw [if_pos c4] at H
   have c4b0 : decide (9223372036854775808 < a1) = true := decide_eq_true c4
   clear c4
   simp only [Option.some.injEq, Prod.mk.injEq] at H
   obtain ⟨rfl, rfl⟩ := H
   go_enter Tryd.func10, Tryd.ntmps10
   go_wp2
   go_ret2
   exact ⟨by first | rfl | (simp; done) | (simp [*]; done), by repeat (first | exact Drawn0.refl _ | apply Drawn0.step)⟩
  ·rw [if_neg c4] at H
   have c4b0 : decide (9223372036854775808 < a1) = false := decide_eq_false c4
   clear c4
   simp only [Option.some.injEq, Prod.mk.injEq] at H
   obtain ⟨rfl, rfl⟩ := H
   go_enter Tryd.func10, Tryd.ntmps10
   go_wp2
   go_ret2
   exact ⟨by first | rfl | (simp; done) | (simp [*]; done), by repeat (first | exact Drawn0.refl _ | apply Drawn0.step)⟩
 ·replace c3 := Bool.eq_false_iff.mpr c3
  subst c3
  rw [if_neg (show ¬ (false = true) by decide)] at H
  by_cases c5 : a1 > 9223372036854775807
  ·rw [if_pos c5] at H
   have c5b0 : decide (9223372036854775807 < a1) = true := decide_eq_true c5
   clear c5
   simp only [Option.some.injEq, Prod.mk.injEq] at H
   obtain ⟨rfl, rfl⟩ := H
   go_enter Tryd.func10, Tryd.ntmps10
   go_wp2
   go_ret2
   exact ⟨by first | rfl | (simp; done) | (simp [*]; done), by repeat (first | exact Drawn0.refl _ | apply Drawn0.step)⟩
  ·rw [if_neg c5] at H
   have c5b0 : decide (9223372036854775807 < a1) = false := decide_eq_false c5
   clear c5
   simp only [Option.some.injEq, Prod.mk.injEq] at H
   obtain ⟨rfl, rfl⟩ := H
   go_enter Tryd.func10, Tryd.ntmps10
   go_wp2
   go_ret2
   exact ⟨by first | rfl | (simp; done) | (simp [*]; done), by repeat (first | exact Drawn0.refl _ | apply Drawn0.step)⟩

/-! ### cleatref10_Signed: function 11 -/
mutual
def cleatref10_Signed.j0 : Nat → Bool → Int → Int → Bool → Option (Int × Int)
 | 0, _, _, _, _ => none
 | k + 1, x0, x1, x6, x13 => if x13 = true then (some (wrap64 (x1), 0)) else (if x0 = true then (cleatref10_Signed.j1 k x0 x1 x6 (decide (x1 < x6))) else (cleatref10_Signed.j1 k x0 x1 x6 false))
def cleatref10_Signed.j1 : Nat → Bool → Int → Int → Bool → Option (Int × Int)
 | 0, _, _, _, _ => none
 | k + 1, x0, x1, x6, x21 => if x21 = true then (some (wrap64 (-(wrap64 (x1))), 0)) else (if x0 = true then (if x1 = x6 then (some ((-9223372036854775808), 0)) else (some (0, 4))) else (some (0, 4)))
end
def cleatref10_Signed.f (k : Nat) (a0 : Bool) (a1 : Int) : Option (Int × Int) := if a0 = true then (cleatref10_Signed.j0 k a0 a1 9223372036854775808 false) else (cleatref10_Signed.j0 k a0 a1 9223372036854775808 (decide (a1 < 9223372036854775808)))
theorem cleatref10_Signed.mono_l : ∀ k, (∀ y0 y1 y2 y3, LeO (cleatref10_Signed.j0 k y0 y1 y2 y3) (cleatref10_Signed.j0 (k + 1) y0 y1 y2 y3)) ∧ (∀ y0 y1 y2 y3, LeO (cleatref10_Signed.j1 k y0 y1 y2 y3) (cleatref10_Signed.j1 (k + 1) y0 y1 y2 y3))
 | 0 => ⟨fun _ _ _ _ r h => by simp [cleatref10_Signed.j0] at h, fun _ _ _ _ r h => by simp [cleatref10_Signed.j1] at h⟩
 | k + 1 => by
  obtain ⟨ih0, ih1⟩ := cleatref10_Signed.mono_l k
  refine ⟨?_, ?_⟩
  ·intro y0 y1 y2 y3
   unfold cleatref10_Signed.j0
   repeat' first
   | (with_reducible exact ih0 _ _ _ _)
   | (with_reducible exact ih1 _ _ _ _)
   | (with_reducible exact LeO.refl _)
   | (with_reducible exact LeO.none _)
   | (with_reducible refine LeO.ite ?_ ?_)
   | (with_reducible refine LeO.bind ?_ (fun _ => ?_))
   | exact ih0 _ _ _ _
   | exact ih1 _ _ _ _
   | exact LeO.none _
   | refine LeO.ite ?_ ?_
   | refine LeO.bind ?_ (fun _ => ?_)
  ·intro y0 y1 y2 y3
   unfold cleatref10_Signed.j1
   repeat' first
   | (with_reducible exact ih0 _ _ _ _)
   | (with_reducible exact ih1 _ _ _ _)
   | (with_reducible exact LeO.refl _)
   | (with_reducible exact LeO.none _)
   | (with_reducible refine LeO.ite ?_ ?_)
   | (with_reducible refine LeO.bind ?_ (fun _ => ?_))
   | exact ih0 _ _ _ _
   | exact ih1 _ _ _ _
   | exact LeO.none _
   | refine LeO.ite ?_ ?_
   | refine LeO.bind ?_ (fun _ => ?_)
theorem cleatref10_Signed.mono : ∀ a0 a1 k, LeO (cleatref10_Signed.f k a0 a1) (cleatref10_Signed.f (k + 1) a0 a1) := by
 intro a0 a1 k
 obtain ⟨ih0, ih1⟩ := cleatref10_Signed.mono_l k
 unfold cleatref10_Signed.f
 repeat' first
   | (with_reducible exact ih0 _ _ _ _)
   | (with_reducible exact ih1 _ _ _ _)
   | (with_reducible exact LeO.refl _)
   | (with_reducible exact LeO.none _)
   | (with_reducible refine LeO.ite ?_ ?_)
   | (with_reducible refine LeO.bind ?_ (fun _ => ?_))
   | exact ih0 _ _ _ _
   | exact ih1 _ _ _ _
   | exact LeO.none _
   | refine LeO.ite ?_ ?_
   | refine LeO.bind ?_ (fun _ => ?_)
set_option maxHeartbeats 8000000 in
set_option maxRecDepth 100000 in
theorem cleatref10_Signed.calls (k : Nat) (a0 : Bool) (a1 : Int) (r1 : Int) (r2 : Int) (w : World) (h : cleatref10_Signed.f k a0 a1 = some (r1, r2)) :
  Calls Tryd.prog 11 #[.bool a0, .int .u64 a1] w fun e w' => e = .returned (.tuple #[.int .i64 r1, .int .i64 r2]) ∧ Drawn0 w w' := by
 have H : (if a0 = true then (cleatref10_Signed.j0 k a0 a1 9223372036854775808 false) else (cleatref10_Signed.j0 k a0 a1 9223372036854775808 (decide (a1 < 9223372036854775808)))) = some (r1, r2) := h
 clear h
 have HC3 := Aside0.mk H
 clear H
 go_enter Tryd.func11, Tryd.ntmps11
 go_upto_region 2 with (fail)
 go_cut [13] (fun v13 wc => ∃ (kq : Nat) (x13_2 : Bool), v13 = .bool x13_2 ∧ Aside0 (cleatref10_Signed.j0 kq a0 a1 9223372036854775808 x13_2 = some (r1, r2)) ∧ Aside0 (kq ≤ k) ∧ Drawn0 w wc)
 case first =>
  have H := HC3.out
  clear HC3
  by_cases c4 : a0 = true
  ·subst c4
   rw [if_pos rfl] at H
   have H' := Aside0.mk H
   clear H
   go_wp2
   go_meet
   case rel => exact ⟨_, (false), (by first | rfl | (simp; done) | (simp [*]; done)), H', ⟨by first | omega | exact Nat.le_refl _⟩, by repeat (first | exact Drawn0.refl _ | apply Drawn0.step)⟩
  ·replace c4 := Bool.eq_false_iff.mpr c4
   subst c4
   rw [if_neg (show ¬ (false = true) by decide)] at H
   have H' := Aside0.mk H
   clear H
   go_wp2
   go_meet
   case rel => exact ⟨_, (decide (a1 < 9223372036854775808)), (by first | rfl | (simp; done) | (simp [*]; done)), H', ⟨by first | omega | exact Nat.le_refl _⟩, by repeat (first | exact Drawn0.refl _ | apply Drawn0.step)⟩
 case rest =>
  clear HC3
  try clear c1
  try clear p2
  try clear c4
  obtain ⟨kq, x13_2, rfl, HA, HJ2, ⟨mc2, rfl⟩⟩ := hcut
  cases kq with
  | zero => exact absurd HA.out (by simp [cleatref10_Signed.j0])
  | succ kj2 =>
   have H := HA.out
   clear HA
   simp only [cleatref10_Signed.j0] at H
   by_cases c5 : x13_2 = true
   ·subst c5
    rw [if_pos rfl] at H
    simp only [Option.some.injEq, Prod.mk.injEq] at H
    obtain ⟨rfl, rfl⟩ := H
    go_wp2
    go_ret2
    exact ⟨by first | rfl | (simp; done) | (simp [*]; done), by repeat (first | exact Drawn0.refl _ | apply Drawn0.step)⟩
   ·replace c5 := Bool.eq_false_iff.mpr c5
    subst c5
    rw [if_neg (show ¬ (false = true) by decide)] at H
    have HC6 := Aside0.mk H
    clear H
    go_upto_region 4 with (fail)
    go_cut [21] (fun v21 wc => ∃ (kq : Nat) (x21_5 : Bool), v21 = .bool x21_5 ∧ Aside0 (cleatref10_Signed.j1 kq a0 a1 9223372036854775808 x21_5 = some (r1, r2)) ∧ Aside0 (kq ≤ kj2) ∧ Drawn0 w wc)
    case first =>
     have H := HC6.out
     clear HC6
     by_cases c7 : a0 = true
     ·subst c7
      rw [if_pos rfl] at H
      have H' := Aside0.mk H
      clear H
      go_wp2
      go_meet
      case rel => exact ⟨_, (decide (a1 < 9223372036854775808)), (by first | rfl | (simp; done) | (simp [*]; done)), H', ⟨by have := HJ2.out; first | omega | exact Nat.le_refl _⟩, by repeat (first | exact Drawn0.refl _ | apply Drawn0.step)⟩
     ·replace c7 := Bool.eq_false_iff.mpr c7
      subst c7
      rw [if_neg (show ¬ (false = true) by decide)] at H
      have H' := Aside0.mk H
      clear H
      go_wp2
      go_meet
      case rel => exact ⟨_, (false), (by first | rfl | (simp; done) | (simp [*]; done)), H', ⟨by have := HJ2.out; first | omega | exact Nat.le_refl _⟩, by repeat (first | exact Drawn0.refl _ | apply Drawn0.step)⟩
    case rest =>
     clear HC6
     try clear c1
     try clear c2
     try clear p2
     try clear c4
     try clear c5
     try clear p6
     try clear c7
     try clear p2
     obtain ⟨kq, x21_5, rfl, HA, HJ5, ⟨mc5, rfl⟩⟩ := hcut
     cases kq with
     | zero => exact absurd HA.out (by simp [cleatref10_Signed.j1])
     | succ kj5 =>
      have H := HA.out
      clear HA
      simp only [cleatref10_Signed.j1] at H
      by_cases c8 : x21_5 = true
      ·subst c8
       rw [if_pos rfl] at H
       simp only [Option.some.injEq, Prod.mk.injEq] at H
       obtain ⟨rfl, rfl⟩ := H
       go_wp2
       go_ret2
       exact ⟨by first | rfl | (simp; done) | (simp [*]; done), by repeat (first | exact Drawn0.refl _ | apply Drawn0.step)⟩
      ·replace c8 := Bool.eq_false_iff.mpr c8
       subst c8
       rw [if_neg (show ¬ (false = true) by decide)] at H
       by_cases c9 : a0 = true
       ·subst c9
        rw [if_pos rfl] at H
        by_cases c10 : a1 = 9223372036854775808
        ·rw [if_pos c10] at H
         have c10b0 : (a1 == 9223372036854775808) = true := beq_iff_eq.mpr c10
         have c10b1 : (a1 != 9223372036854775808) = false := bne_eq_false_iff_eq.mpr c10
         clear c10
         simp only [Option.some.injEq, Prod.mk.injEq] at H
         obtain ⟨rfl, rfl⟩ := H
         go_wp2
         go_ret2
         exact ⟨by first | rfl | (simp; done) | (simp [*]; done), by repeat (first | exact Drawn0.refl _ | apply Drawn0.step)⟩
        ·rw [if_neg c10] at H
         have c10b0 : (a1 == 9223372036854775808) = false := beq_eq_false_iff_ne.mpr c10
         have c10b1 : (a1 != 9223372036854775808) = true := bne_iff_ne.mpr c10
         simp only [Option.some.injEq, Prod.mk.injEq] at H
         obtain ⟨rfl, rfl⟩ := H
         go_wp2
         go_ret2
         exact ⟨by first | rfl | (simp; done) | (simp [*]; done), by repeat (first | exact Drawn0.refl _ | apply Drawn0.step)⟩
       ·replace c9 := Bool.eq_false_iff.mpr c9
        subst c9
        rw [if_neg (show ¬ (false = true) by decide)] at H
        simp only [Option.some.injEq, Prod.mk.injEq] at H
        obtain ⟨rfl, rfl⟩ := H
        go_wp2
        go_ret2
        exact ⟨by first | rfl | (simp; done) | (simp [*]; done), by repeat (first | exact Drawn0.refl _ | apply Drawn0.step)⟩

/-! ### num_Of: function 12 -/
def num_Of.f (a0 : Int) : Option (Bool × Int) := if a0 < 0 then (some (true, IntKind.u64.wrap (-(IntKind.u64.wrap (a0))))) else (some (false, IntKind.u64.wrap (a0)))
set_option maxHeartbeats 8000000 in
set_option maxRecDepth 100000 in
theorem num_Of.calls (a0 : Int) (r1 : Bool) (r2 : Int) (w : World) (h : num_Of.f a0 = some (r1, r2)) :
  Calls Tryd.prog 12 #[.int .i64 a0] w fun e w' => e = .returned (.tuple #[.bool r1, .int .u64 r2]) ∧ Drawn0 w w' := by
 have H : (if a0 < 0 then (some (true, IntKind.u64.wrap (-(IntKind.u64.wrap (a0))))) else (some (false, IntKind.u64.wrap (a0)))) = some (r1, r2) := h
 clear h
 by_cases c2 : a0 < 0
 ·rw [if_pos c2] at H
  have c2b0 : decide (a0 < 0) = true := decide_eq_true c2
  clear c2
  simp only [Option.some.injEq, Prod.mk.injEq] at H
  obtain ⟨rfl, rfl⟩ := H
  go_enter Tryd.func12, Tryd.ntmps12
  go_wp2
  go_ret2
  exact ⟨by first | rfl | (simp; done) | (simp [*]; done), by repeat (first | exact Drawn0.refl _ | apply Drawn0.step)⟩
 ·rw [if_neg c2] at H
  have c2b0 : decide (a0 < 0) = false := decide_eq_false c2
  clear c2
  simp only [Option.some.injEq, Prod.mk.injEq] at H
  obtain ⟨rfl, rfl⟩ := H
  go_enter Tryd.func12, Tryd.ntmps12
  go_wp2
  go_ret2
  exact ⟨by first | rfl | (simp; done) | (simp [*]; done), by repeat (first | exact Drawn0.refl _ | apply Drawn0.step)⟩

/-! ### cleatref10_Of: function 13 -/
def cleatref10_Of.f (a0 : Int) : Option (Bool × Int) := if a0 ≥ 0 then (some (false, IntKind.u64.wrap (a0))) else (if a0 = (-9223372036854775808) then (some (true, 9223372036854775808)) else (some (true, IntKind.u64.wrap (wrap64 (-a0)))))
set_option maxHeartbeats 8000000 in
set_option maxRecDepth 100000 in
theorem cleatref10_Of.calls (a0 : Int) (r1 : Bool) (r2 : Int) (w : World) (h : cleatref10_Of.f a0 = some (r1, r2)) :
  Calls Tryd.prog 13 #[.int .i64 a0] w fun e w' => e = .returned (.tuple #[.bool r1, .int .u64 r2]) ∧ Drawn0 w w' := by
 have H : (if a0 ≥ 0 then (some (false, IntKind.u64.wrap (a0))) else (if a0 = (-9223372036854775808) then (some (true, 9223372036854775808)) else (some (true, IntKind.u64.wrap (wrap64 (-a0)))))) = some (r1, r2) := h
 clear h
 by_cases c2 : a0 ≥ 0
 ·rw [if_pos c2] at H
  have c2b0 : decide (0 ≤ a0) = true := decide_eq_true c2
  clear c2
  simp only [Option.some.injEq, Prod.mk.injEq] at H
  obtain ⟨rfl, rfl⟩ := H
  go_enter Tryd.func13, Tryd.ntmps13
  go_wp2
  go_ret2
  exact ⟨by first | rfl | (simp; done) | (simp [*]; done), by repeat (first | exact Drawn0.refl _ | apply Drawn0.step)⟩
 ·rw [if_neg c2] at H
  have c2b0 : decide (0 ≤ a0) = false := decide_eq_false c2
  clear c2
  by_cases c3 : a0 = (-9223372036854775808)
  ·rw [if_pos c3] at H
   have c3b0 : (a0 == (-9223372036854775808)) = true := beq_iff_eq.mpr c3
   have c3b1 : (a0 != (-9223372036854775808)) = false := bne_eq_false_iff_eq.mpr c3
   clear c3
   simp only [Option.some.injEq, Prod.mk.injEq] at H
   obtain ⟨rfl, rfl⟩ := H
   go_enter Tryd.func13, Tryd.ntmps13
   go_wp2
   go_ret2
   exact ⟨by first | rfl | (simp; done) | (simp [*]; done), by repeat (first | exact Drawn0.refl _ | apply Drawn0.step)⟩
  ·rw [if_neg c3] at H
   have c3b0 : (a0 == (-9223372036854775808)) = false := beq_eq_false_iff_ne.mpr c3
   have c3b1 : (a0 != (-9223372036854775808)) = true := bne_iff_ne.mpr c3
   simp only [Option.some.injEq, Prod.mk.injEq] at H
   obtain ⟨rfl, rfl⟩ := H
   go_enter Tryd.func13, Tryd.ntmps13
   go_wp2
   go_ret2
   exact ⟨by first | rfl | (simp; done) | (simp [*]; done), by repeat (first | exact Drawn0.refl _ | apply Drawn0.step)⟩

end Go.Proofs.YtefofaamhaiejaaDoor.P
