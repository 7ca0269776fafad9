-- printed by wip/tools/myprint.py out of the translation. Not trusted: Lean checks it.
import Derived.Test.YthhknfbpfdmggaaPx0
namespace Go.Proofs.Ythhknfbpfdmggaa.P
open Go.RowKit Go.Proofs.YthhknfbpfdmggaaW.PrintWords Go.Proofs.YthhknfbpfdmggaaW.PrintLast Go.Proofs.YthhknfbpfdmggaaW.PrintMore
attribute [local go_sem] max2_int min2_int max_two min_two max_three min_three max_four min_four   -- for this text's walks alone
set_option linter.unusedVariables false
set_option linter.unusedSimpArgs false

/-! ### bits_Signed: function 9 -/
def bits_Signed.j0 : Nat → Int → Int → Bool → Option (Int × Int)
  | 0, _, _, _ => none
  | k + 1, x0, x1, x12 => if x12 = true then (some (0, 1)) else (if 0 ≤ x1 then (if (shr .u32 x0 x1) = 0 then (if 0 ≤ (wrap64 (x1 - 1)) then (if (shr .u32 x0 (wrap64 (x1 - 1))) = 1 then (some (wrap64 ((wrap64 (x0)) - (shl .i64 1 x1)), 0)) else (some (wrap64 (x0), 0))) else (none)) else (some (0, 4))) else (none))
def bits_Signed.f (k : Nat) (a0 : Int) (a1 : Int) : Option (Int × Int) := if a1 < 1 then (bits_Signed.j0 k a0 a1 true) else (bits_Signed.j0 k a0 a1 (decide (a1 > 32)))
theorem bits_Signed.mono_l : ∀ k, (∀ y0 y1 y2, LeO (bits_Signed.j0 k y0 y1 y2) (bits_Signed.j0 (k + 1) y0 y1 y2))
  | 0 => fun _ _ _ r h => by simp [bits_Signed.j0] at h
  | k + 1 => by
    have ih0 := bits_Signed.mono_l k
    · intro y0 y1 y2
      unfold bits_Signed.j0
      repeat' first
      | (with_reducible exact ih0 _ _ _)
      | (with_reducible exact LeO.refl _)
      | (with_reducible exact LeO.none _)
      | (with_reducible refine LeO.ite ?_ ?_)
      | (with_reducible refine LeO.bind ?_ (fun _ => ?_))
      | exact ih0 _ _ _
      | exact LeO.none _
      | refine LeO.ite ?_ ?_
      | refine LeO.bind ?_ (fun _ => ?_)
theorem bits_Signed.mono : ∀ a0 a1 k, LeO (bits_Signed.f k a0 a1) (bits_Signed.f (k + 1) a0 a1) := by
  intro a0 a1 k
  have ih0 := bits_Signed.mono_l k
  unfold bits_Signed.f
  repeat' first
      | (with_reducible exact ih0 _ _ _)
      | (with_reducible exact LeO.refl _)
      | (with_reducible exact LeO.none _)
      | (with_reducible refine LeO.ite ?_ ?_)
      | (with_reducible refine LeO.bind ?_ (fun _ => ?_))
      | exact ih0 _ _ _
      | exact LeO.none _
      | refine LeO.ite ?_ ?_
      | refine LeO.bind ?_ (fun _ => ?_)
set_option maxHeartbeats 8000000 in
set_option maxRecDepth 100000 in
theorem bits_Signed.calls (k : Nat) (a0 : Int) (a1 : Int) (r1 : Int) (r2 : Int) (w : World) (h : bits_Signed.f k a0 a1 = some (r1, r2)) :
    Calls Try.prog 9 #[.int .u32 a0, .int .i64 a1] w fun e w' => e = .returned (.tuple #[.int .i64 r1, .int .i64 r2]) ∧ Drawn0 w w' := by
  have H : (if a1 < 1 then (bits_Signed.j0 k a0 a1 true) else (bits_Signed.j0 k a0 a1 (decide (a1 > 32)))) = some (r1, r2) := h
  clear h
  have HC3 := Aside0.mk H
  clear H
  go_enter Try.func9, Try.ntmps9
  go_upto_region 1 with (fail)
  go_cut [12] (fun v12 wc => ∃ (kq : Nat) (x12_2 : Bool), v12 = .bool x12_2 ∧ Aside0 (bits_Signed.j0 kq a0 a1 x12_2 = some (r1, r2)) ∧ Aside0 (kq ≤ k) ∧ Drawn0 w wc)
  case first =>
    have H := HC3.out
    clear HC3
    by_cases c4 : a1 < 1
    · rw [if_pos c4] at H
      have c4b0 : decide (a1 < 1) = true := decide_eq_true c4
      clear c4
      (first | rw [c4b0] | (simp only [i64_w, i32_w]; rw [c4b0]) | skip)
      have H' := Aside0.mk H
      clear H
      go_wp2
      go_meet
      case rel => exact ⟨_, (true), (by first | rfl | (simp; done) | (simp [*]; done)), H', ⟨by first | omega | exact Nat.le_refl _⟩, by repeat (first | exact Drawn0.refl _ | apply Drawn0.step)⟩
    · rw [if_neg c4] at H
      have c4b0 : decide (a1 < 1) = false := decide_eq_false c4
      clear c4
      (first | rw [c4b0] | (simp only [i64_w, i32_w]; rw [c4b0]) | skip)
      have H' := Aside0.mk H
      clear H
      go_wp2
      go_meet
      case rel => exact ⟨_, (decide (a1 > 32)), (by first | rfl | (simp; done) | (simp [*]; done)), H', ⟨by first | omega | exact Nat.le_refl _⟩, by repeat (first | exact Drawn0.refl _ | apply Drawn0.step)⟩
  case rest =>
    clear HC3
    try clear p2
    try clear c4
    try clear c4b0
    obtain ⟨kq, x12_2, rfl, HA, HJ2, ⟨mc2, rfl⟩⟩ := hcut
    cases kq with
    | zero => exact absurd HA.out (by simp [bits_Signed.j0])
    | succ kj2 =>
      have H := HA.out
      clear HA
      simp only [bits_Signed.j0] at H
      by_cases c5 : x12_2 = true
      · subst c5
        have H1 : (some (0, 1)) = some (r1, r2) := by rw [if_pos rfl] at H; exact H
        clear H
        have H := H1
        clear H1
        simp only [Option.some.injEq, Prod.mk.injEq] at H
        obtain ⟨rfl, rfl⟩ := H
        go_wp2
        go_ret2
        exact ⟨by first | rfl | (simp; done) | (simp [*]; done), by repeat (first | exact Drawn0.refl _ | apply Drawn0.step)⟩
      · replace c5 := Bool.eq_false_iff.mpr c5
        subst c5
        have H1 : (if 0 ≤ a1 then (if (shr .u32 a0 a1) = 0 then (if 0 ≤ (wrap64 (a1 - 1)) then (if (shr .u32 a0 (wrap64 (a1 - 1))) = 1 then (some (wrap64 ((wrap64 (a0)) - (shl .i64 1 a1)), 0)) else (some (wrap64 (a0), 0))) else (none)) else (some (0, 4))) else (none)) = some (r1, r2) := by rw [if_neg (show ¬ (false = true) by decide)] at H; exact H
        clear H
        have H := H1
        clear H1
        by_cases c6 : 0 ≤ a1
        · rw [if_pos c6] at H
          have c6b0 := eq_true c6
          have c6b1 : decide (0 ≤ a1) = true := decide_eq_true c6
          clear c6
          obtain ⟨ji7, hji7⟩ : ∃ j_ : Int, (shr .u32 a0 a1) = j_ := ⟨_, rfl⟩
          replace H : (if (ji7) = 0 then (if 0 ≤ (wrap64 (a1 - 1)) then (if (shr .u32 a0 (wrap64 (a1 - 1))) = 1 then (some (wrap64 ((wrap64 (a0)) - (shl .i64 1 a1)), 0)) else (some (wrap64 (a0), 0))) else (none)) else (some (0, 4))) = some (r1, r2) := by first | (rw [hji7] at H; exact H) | (simp only [hji7] at H ⊢; exact H)
          have hji7_ : (a0 / 2 ^ min a1.toNat 32) = ji7 := hji7
          have hji7z : a1 ≤ 32 → (a0 / 2 ^ a1.toNat) = ji7 := shr_small hji7
          by_cases c8 : (ji7) = 0
          · rw [if_pos c8] at H
            have c8b0 : ((ji7) == 0) = true := beq_iff_eq.mpr c8
            have c8b1 : ((ji7) != 0) = false := bne_eq_false_iff_eq.mpr c8
            clear c8
            obtain ⟨ji9, hji9⟩ : ∃ j_ : Int, (wrap64 (a1 - 1)) = j_ := ⟨_, rfl⟩
            replace H : (if 0 ≤ (ji9) then (if (shr .u32 a0 (ji9)) = 1 then (some (wrap64 ((wrap64 (a0)) - (shl .i64 1 a1)), 0)) else (some (wrap64 (a0), 0))) else (none)) = some (r1, r2) := by first | (rw [hji9] at H; exact H) | (simp only [hji9] at H ⊢; exact H)
            have hji9w : (IntKind.i64.wrap (a1 - 1)) = ji9 := (i64_w _).trans hji9
            by_cases c10 : 0 ≤ (ji9)
            · rw [if_pos c10] at H
              have c10b0 := eq_true c10
              have c10b1 : decide (0 ≤ (ji9)) = true := decide_eq_true c10
              clear c10
              obtain ⟨ji11, hji11⟩ : ∃ j_ : Int, (shr .u32 a0 (ji9)) = j_ := ⟨_, rfl⟩
              replace H : (if (ji11) = 1 then (some (wrap64 ((wrap64 (a0)) - (shl .i64 1 a1)), 0)) else (some (wrap64 (a0), 0))) = some (r1, r2) := by first | (rw [hji11] at H; exact H) | (simp only [hji11] at H ⊢; exact H)
              have hji11_ : (a0 / 2 ^ min (ji9).toNat 32) = ji11 := hji11
              have hji11z : (ji9) ≤ 32 → (a0 / 2 ^ (ji9).toNat) = ji11 := shr_small hji11
              by_cases c12 : (ji11) = 1
              · rw [if_pos c12] at H
                have c12b0 : ((ji11) == 1) = true := beq_iff_eq.mpr c12
                have c12b1 : ((ji11) != 1) = false := bne_eq_false_iff_eq.mpr c12
                clear c12
                have c13b0 := eq_true (of_decide_eq_true (by first | (with_reducible assumption) | assumption) : 0 ≤ a1)
                obtain ⟨ji14, hji14⟩ : ∃ j_ : Int, (shl .i64 1 a1) = j_ := ⟨_, rfl⟩
                replace H : (some (wrap64 ((wrap64 (a0)) - (ji14)), 0)) = some (r1, r2) := by first | (rw [hji14] at H; exact H) | (simp only [hji14] at H ⊢; exact H)
                have hji14_ : (IntKind.i64.wrap (1 * 2 ^ min a1.toNat 64)) = ji14 := hji14
                have hji14z : a1 ≤ 64 → (IntKind.i64.wrap (1 * 2 ^ a1.toNat)) = ji14 := shl_small hji14
                have hji14u : (IntKind.i64.wrap (2 ^ min a1.toNat 64)) = ji14 := by have h_ := hji14_; rw [Int.one_mul] at h_; exact h_
                have hji14v : a1 ≤ 64 → (IntKind.i64.wrap (2 ^ a1.toNat)) = ji14 := fun hle_ => by have h_ := hji14z hle_; rw [Int.one_mul] at h_; exact h_
                have hji14y : (wrap64 (1 * 2 ^ min a1.toNat 64)) = ji14 := (i64_w _).symm.trans hji14_
                have hji14x : a1 ≤ 64 → (wrap64 (1 * 2 ^ a1.toNat)) = ji14 := fun h_ => (i64_w _).symm.trans (hji14z h_)
                simp only [Option.some.injEq, Prod.mk.injEq] at H
                obtain ⟨rfl, rfl⟩ := H
                go_wp2
                go_ret2
                exact ⟨by first | rfl | (simp; done) | (simp only [← hji7, ← hji9, ← hji11, ← hji14] <;> (first | rfl | simp)) | (simp [*]; done), by repeat (first | exact Drawn0.refl _ | apply Drawn0.step)⟩
              · rw [if_neg c12] at H
                have c12b0 : ((ji11) == 1) = false := beq_eq_false_iff_ne.mpr c12
                have c12b1 : ((ji11) != 1) = true := bne_iff_ne.mpr c12
                simp only [Option.some.injEq, Prod.mk.injEq] at H
                obtain ⟨rfl, rfl⟩ := H
                go_wp2
                go_ret2
                exact ⟨by first | rfl | (simp; done) | (simp only [← hji7, ← hji9, ← hji11] <;> (first | rfl | simp)) | (simp [*]; done), by repeat (first | exact Drawn0.refl _ | apply Drawn0.step)⟩
            · rw [if_neg c10] at H
              exact absurd H (by simp)
          · rw [if_neg c8] at H
            have c8b0 : ((ji7) == 0) = false := beq_eq_false_iff_ne.mpr c8
            have c8b1 : ((ji7) != 0) = true := bne_iff_ne.mpr c8
            simp only [Option.some.injEq, Prod.mk.injEq] at H
            obtain ⟨rfl, rfl⟩ := H
            go_wp2
            go_ret2
            exact ⟨by first | rfl | (simp; done) | (simp only [← hji7] <;> (first | rfl | simp)) | (simp [*]; done), by repeat (first | exact Drawn0.refl _ | apply Drawn0.step)⟩
        · rw [if_neg c6] at H
          exact absurd H (by simp)

/-! ### cleatref01_Power: function 26 -/
def cleatref01_Power.l0 : Nat → Int → Int → Int → Option (Int)
  | 0, _, _, _ => none
  | k + 1, x0, x3, x4 => if x4 < x0 then (cleatref01_Power.l0 k x0 (IntKind.u64.wrap (2 * x3)) (wrap64 (x4 + 1))) else (some x3)
def cleatref01_Power.f (k : Nat) (a0 : Int) : Option (Int) := cleatref01_Power.l0 k a0 1 0
theorem cleatref01_Power.mono_l : ∀ k, (∀ y0 y1 y2, LeO (cleatref01_Power.l0 k y0 y1 y2) (cleatref01_Power.l0 (k + 1) y0 y1 y2))
  | 0 => fun _ _ _ r h => by simp [cleatref01_Power.l0] at h
  | k + 1 => by
    have ih0 := cleatref01_Power.mono_l k
    · intro y0 y1 y2
      unfold cleatref01_Power.l0
      repeat' first
      | (with_reducible exact ih0 _ _ _)
      | (with_reducible exact LeO.refl _)
      | (with_reducible exact LeO.none _)
      | (with_reducible refine LeO.ite ?_ ?_)
      | (with_reducible refine LeO.bind ?_ (fun _ => ?_))
      | exact ih0 _ _ _
      | exact LeO.none _
      | refine LeO.ite ?_ ?_
      | refine LeO.bind ?_ (fun _ => ?_)
theorem cleatref01_Power.mono : ∀ a0 k, LeO (cleatref01_Power.f k a0) (cleatref01_Power.f (k + 1) a0) := by
  intro a0 k
  have ih0 := cleatref01_Power.mono_l k
  unfold cleatref01_Power.f
  repeat' first
      | (with_reducible exact ih0 _ _ _)
      | (with_reducible exact LeO.refl _)
      | (with_reducible exact LeO.none _)
      | (with_reducible refine LeO.ite ?_ ?_)
      | (with_reducible refine LeO.bind ?_ (fun _ => ?_))
      | exact ih0 _ _ _
      | exact LeO.none _
      | refine LeO.ite ?_ ?_
      | refine LeO.bind ?_ (fun _ => ?_)
set_option maxHeartbeats 8000000 in
set_option maxRecDepth 100000 in
theorem cleatref01_Power.calls (k : Nat) (a0 : Int) (r : Int) (w : World) (h : cleatref01_Power.f k a0 = some r) :
    Calls Try.prog 26 #[.int .i64 a0] w fun e w' => e = .returned (.int .u64 r) ∧ Drawn0 w w' := by
  have H : (cleatref01_Power.l0 k a0 1 0) = some r := h
  clear h
  have H' := Aside0.mk H
  clear H
  go_enter Try.func26, Try.ntmps26
  go_wp2
  go_loopg [3, 4] k (fun kq v3 v4 w' => ∃ (x3_1 : Int) (x4_1 : Int), v3 = .int .u64 x3_1 ∧ v4 = .int .i64 x4_1 ∧ Aside0 (cleatref01_Power.l0 kq a0 x3_1 x4_1 = some r) ∧ Aside0 (kq ≤ k) ∧ Drawn0 w w')
  case atStart => exact ⟨(1), (0), (by first | rfl | (simp; done) | (simp [*]; done)), (by first | rfl | (simp; done) | (simp [*]; done)), H', ⟨Nat.le_refl _⟩, by repeat (first | exact Drawn0.refl _ | apply Drawn0.step)⟩
  case round =>
    clear H'
    obtain ⟨x3_1, x4_1, rfl, rfl, HA, HK1, ⟨m1, rfl⟩⟩ := hrel
    cases gk with
    | zero => exact absurd HA.out (by simp [cleatref01_Power.l0])
    | succ k1 =>
      have H := HA.out
      clear HA
      simp only [cleatref01_Power.l0] at H
      by_cases c2 : x4_1 < a0
      · rw [if_pos c2] at H
        have c2b0 : decide (x4_1 < a0) = true := decide_eq_true c2
        clear c2
        have H' := Aside0.mk H
        clear H
        go_wp2
        go_roundg k1
        case measure => have := HK1.out; omega
        case rel => exact ⟨(IntKind.u64.wrap (2 * x3_1)), (wrap64 (x4_1 + 1)), (by first | rfl | (simp; done) | (simp [*]; done)), (by first | rfl | (simp; done) | (simp [*]; done)), H', ⟨by have := HK1.out; omega⟩, by repeat (first | exact Drawn0.refl _ | apply Drawn0.step)⟩
      · rw [if_neg c2] at H
        have c2b0 : decide (x4_1 < a0) = false := decide_eq_false c2
        clear c2
        obtain rfl := Option.some.inj H
        go_wp2
        go_ret
        exact ⟨by first | rfl | (simp; done) | (simp [*]; done), by repeat (first | exact Drawn0.refl _ | apply Drawn0.step)⟩

/-! ### cleatref01_Small: function 24 -/
def cleatref01_Small.f (k : Nat) (a0 : Int) (a1 : Int) : Option (Bool) := if a1 ≥ 64 then (some true) else ((cleatref01_Power.f k a1).bind fun t101 => (some (decide (a0 < t101))))
theorem cleatref01_Small.mono : ∀ a0 a1 k, LeO (cleatref01_Small.f k a0 a1) (cleatref01_Small.f (k + 1) a0 a1) := by
  intro a0 a1 k
  unfold cleatref01_Small.f
  repeat' first
      | (with_reducible exact cleatref01_Power.mono _ _)
      | (with_reducible exact LeO.refl _)
      | (with_reducible exact LeO.none _)
      | (with_reducible refine LeO.ite ?_ ?_)
      | (with_reducible refine LeO.bind ?_ (fun _ => ?_))
      | exact cleatref01_Power.mono _ _
      | exact LeO.none _
      | refine LeO.ite ?_ ?_
      | refine LeO.bind ?_ (fun _ => ?_)
set_option maxHeartbeats 8000000 in
set_option maxRecDepth 100000 in
theorem cleatref01_Small.calls (k : Nat) (a0 : Int) (a1 : Int) (r : Bool) (w : World) (h : cleatref01_Small.f k a0 a1 = some r) :
    Calls Try.prog 24 #[.int .u64 a0, .int .i64 a1] w fun e w' => e = .returned (.bool r) ∧ Drawn0 w w' := by
  have H : (if a1 ≥ 64 then (some true) else ((cleatref01_Power.f k a1).bind fun t101 => (some (decide (a0 < t101))))) = some r := h
  clear h
  by_cases c3 : a1 ≥ 64
  · rw [if_pos c3] at H
    have c3b0 : decide (64 ≤ a1) = true := decide_eq_true c3
    clear c3
    obtain rfl := Option.some.inj H
    go_enter Try.func24, Try.ntmps24
    go_wp2
    go_ret
    exact ⟨by first | rfl | (simp; done) | (simp [*]; done), by repeat (first | exact Drawn0.refl _ | apply Drawn0.step)⟩
  · rw [if_neg c3] at H
    have c3b0 : decide (64 ≤ a1) = false := decide_eq_false c3
    clear c3
    replace H := Option.bind_eq_some_iff.mp H
    obtain ⟨t101, A40, H⟩ := H
    replace H : (some (decide (a0 < t101))) = some r := H
    have A4 := Aside0.mk A40
    clear A40
    obtain rfl := Option.some.inj H
    go_enter Try.func24, Try.ntmps24
    go_wp2_with (first | (go_at_call 26; (with_reducible refine (cleatref01_Power.calls k a1 t101 _ A4.out).mono ?_); rintro e w' ⟨rfl, ⟨nd, rfl⟩⟩))
    go_ret
    exact ⟨by first | rfl | (simp; done) | (simp [*]; done), by repeat (first | exact Drawn0.refl _ | apply Drawn0.step)⟩

/-! ### cleatref01_Bit: function 25 -/
def cleatref01_Bit.f (k : Nat) (a0 : Int) (a1 : Int) : Option (Bool) := (cleatref01_Power.f k a1).bind fun t102 => (if t102 = 0 then (none) else (some ((Int.tmod (IntKind.u64.wrap (Int.tdiv a0 t102)) 2) == 1)))
theorem cleatref01_Bit.mono : ∀ a0 a1 k, LeO (cleatref01_Bit.f k a0 a1) (cleatref01_Bit.f (k + 1) a0 a1) := by
  intro a0 a1 k
  unfold cleatref01_Bit.f
  repeat' first
      | (with_reducible exact cleatref01_Power.mono _ _)
      | (with_reducible exact LeO.refl _)
      | (with_reducible exact LeO.none _)
      | (with_reducible refine LeO.ite ?_ ?_)
      | (with_reducible refine LeO.bind ?_ (fun _ => ?_))
      | exact cleatref01_Power.mono _ _
      | exact LeO.none _
      | refine LeO.ite ?_ ?_
      | refine LeO.bind ?_ (fun _ => ?_)
set_option maxHeartbeats 8000000 in
set_option maxRecDepth 100000 in
theorem cleatref01_Bit.calls (k : Nat) (a0 : Int) (a1 : Int) (r : Bool) (w : World) (h : cleatref01_Bit.f k a0 a1 = some r) :
    Calls Try.prog 25 #[.int .u64 a0, .int .i64 a1] w fun e w' => e = .returned (.bool r) ∧ Drawn0 w w' := by
  have H : ((cleatref01_Power.f k a1).bind fun t102 => (if t102 = 0 then (none) else (some ((Int.tmod (IntKind.u64.wrap (Int.tdiv a0 t102)) 2) == 1)))) = some r := h
  clear h
  replace H := Option.bind_eq_some_iff.mp H
  obtain ⟨t102, A30, H⟩ := H
  replace H : (if t102 = 0 then (none) else (some ((Int.tmod (IntKind.u64.wrap (Int.tdiv a0 t102)) 2) == 1))) = some r := H
  have A3 := Aside0.mk A30
  clear A30
  by_cases c4 : t102 = 0
  · rw [if_pos c4] at H
    exact absurd H (by simp)
  · rw [if_neg c4] at H
    have c4b0 : (t102 == 0) = false := beq_eq_false_iff_ne.mpr c4
    have c4b1 : (t102 != 0) = true := bne_iff_ne.mpr c4
    obtain rfl := Option.some.inj H
    go_enter Try.func25, Try.ntmps25
    go_wp2_with (first | ((with_reducible refine gate_callee (f := 26) rfl ?_); refine goesL_ (some 7) rfl rfl Try.func26 (by kernel_rfl) rfl #[.int .i64 a1] rfl (by (try simp only [List.map_toArray, List.map_cons, List.map_nil]); first | done | rfl | (simp only [List.length_drop, List.length_take]; rfl)) ?_; (with_reducible refine (cleatref01_Power.calls k a1 t102 _ A3.out).mono ?_); rintro e w' ⟨rfl, ⟨nd, rfl⟩⟩; refine ⟨_, rfl, ?_⟩))
    go_ret
    exact ⟨by first | rfl | (simp; done) | (simp [*]; done), by repeat (first | exact Drawn0.refl _ | apply Drawn0.step)⟩

/-! ### cleatref01_Signed: function 10 -/
def cleatref01_Signed.j0 : Nat → Int → Int → Bool → Option (Int × Int)
  | 0, _, _, _ => none
  | k + 1, x0, x1, x11 => if x11 = true then (some (0, 1)) else ((cleatref01_Small.f k (IntKind.u64.wrap (x0)) x1).bind fun t103 => (if t103 = true then ((cleatref01_Bit.f k (IntKind.u64.wrap (x0)) (wrap64 (x1 - 1))).bind fun t104 => (if t104 = true then ((cleatref01_Power.f k x1).bind fun t105 => (some (wrap64 ((wrap64 (x0)) - (wrap64 (t105))), 0))) else (some (wrap64 (x0), 0)))) else (some (0, 4))))
def cleatref01_Signed.f (k : Nat) (a0 : Int) (a1 : Int) : Option (Int × Int) := if a1 < 1 then (cleatref01_Signed.j0 k a0 a1 true) else (cleatref01_Signed.j0 k a0 a1 (decide (a1 > 32)))
theorem cleatref01_Signed.mono_l : ∀ k, (∀ y0 y1 y2, LeO (cleatref01_Signed.j0 k y0 y1 y2) (cleatref01_Signed.j0 (k + 1) y0 y1 y2))
  | 0 => fun _ _ _ r h => by simp [cleatref01_Signed.j0] at h
  | k + 1 => by
    have ih0 := cleatref01_Signed.mono_l k
    · intro y0 y1 y2
      unfold cleatref01_Signed.j0
      repeat' first
      | (with_reducible exact ih0 _ _ _)
      | (with_reducible exact cleatref01_Bit.mono _ _ _)
      | (with_reducible exact cleatref01_Power.mono _ _)
      | (with_reducible exact cleatref01_Small.mono _ _ _)
      | (with_reducible exact LeO.refl _)
      | (with_reducible exact LeO.none _)
      | (with_reducible refine LeO.ite ?_ ?_)
      | (with_reducible refine LeO.bind ?_ (fun _ => ?_))
      | exact ih0 _ _ _
      | exact cleatref01_Bit.mono _ _ _
      | exact cleatref01_Power.mono _ _
      | exact cleatref01_Small.mono _ _ _
      | exact LeO.none _
      | refine LeO.ite ?_ ?_
      | refine LeO.bind ?_ (fun _ => ?_)
theorem cleatref01_Signed.mono : ∀ a0 a1 k, LeO (cleatref01_Signed.f k a0 a1) (cleatref01_Signed.f (k + 1) a0 a1) := by
  intro a0 a1 k
  have ih0 := cleatref01_Signed.mono_l k
  unfold cleatref01_Signed.f
  repeat' first
      | (with_reducible exact ih0 _ _ _)
      | (with_reducible exact cleatref01_Bit.mono _ _ _)
      | (with_reducible exact cleatref01_Power.mono _ _)
      | (with_reducible exact cleatref01_Small.mono _ _ _)
      | (with_reducible exact LeO.refl _)
      | (with_reducible exact LeO.none _)
      | (with_reducible refine LeO.ite ?_ ?_)
      | (with_reducible refine LeO.bind ?_ (fun _ => ?_))
      | exact ih0 _ _ _
      | exact cleatref01_Bit.mono _ _ _
      | exact cleatref01_Power.mono _ _
      | exact cleatref01_Small.mono _ _ _
      | exact LeO.none _
      | refine LeO.ite ?_ ?_
      | refine LeO.bind ?_ (fun _ => ?_)
set_option maxHeartbeats 8000000 in
set_option maxRecDepth 100000 in
theorem cleatref01_Signed.calls (k : Nat) (a0 : Int) (a1 : Int) (r1 : Int) (r2 : Int) (w : World) (h : cleatref01_Signed.f k a0 a1 = some (r1, r2)) :
    Calls Try.prog 10 #[.int .u32 a0, .int .i64 a1] w fun e w' => e = .returned (.tuple #[.int .i64 r1, .int .i64 r2]) ∧ Drawn0 w w' := by
  have H : (if a1 < 1 then (cleatref01_Signed.j0 k a0 a1 true) else (cleatref01_Signed.j0 k a0 a1 (decide (a1 > 32)))) = some (r1, r2) := h
  clear h
  have HC3 := Aside0.mk H
  clear H
  go_enter Try.func10, Try.ntmps10
  go_upto_region 1 with (fail)
  go_cut [11] (fun v11 wc => ∃ (kq : Nat) (x11_2 : Bool), v11 = .bool x11_2 ∧ Aside0 (cleatref01_Signed.j0 kq a0 a1 x11_2 = some (r1, r2)) ∧ Aside0 (kq ≤ k) ∧ Drawn0 w wc)
  case first =>
    have H := HC3.out
    clear HC3
    by_cases c4 : a1 < 1
    · rw [if_pos c4] at H
      have c4b0 : decide (a1 < 1) = true := decide_eq_true c4
      clear c4
      (first | rw [c4b0] | (simp only [i64_w, i32_w]; rw [c4b0]) | skip)
      have H' := Aside0.mk H
      clear H
      go_wp2
      go_meet
      case rel => exact ⟨_, (true), (by first | rfl | (simp; done) | (simp [*]; done)), H', ⟨by first | omega | exact Nat.le_refl _⟩, by repeat (first | exact Drawn0.refl _ | apply Drawn0.step)⟩
    · rw [if_neg c4] at H
      have c4b0 : decide (a1 < 1) = false := decide_eq_false c4
      clear c4
      (first | rw [c4b0] | (simp only [i64_w, i32_w]; rw [c4b0]) | skip)
      have H' := Aside0.mk H
      clear H
      go_wp2
      go_meet
      case rel => exact ⟨_, (decide (a1 > 32)), (by first | rfl | (simp; done) | (simp [*]; done)), H', ⟨by first | omega | exact Nat.le_refl _⟩, by repeat (first | exact Drawn0.refl _ | apply Drawn0.step)⟩
  case rest =>
    clear HC3
    try clear c1
    try clear p2
    try clear c4
    try clear c4b0
    obtain ⟨kq, x11_2, rfl, HA, HJ2, ⟨mc2, rfl⟩⟩ := hcut
    cases kq with
    | zero => exact absurd HA.out (by simp [cleatref01_Signed.j0])
    | succ kj2 =>
      have H := HA.out
      clear HA
      simp only [cleatref01_Signed.j0] at H
      by_cases c5 : x11_2 = true
      · subst c5
        have H1 : (some (0, 1)) = some (r1, r2) := by rw [if_pos rfl] at H; exact H
        clear H
        have H := H1
        clear H1
        simp only [Option.some.injEq, Prod.mk.injEq] at H
        obtain ⟨rfl, rfl⟩ := H
        go_wp2
        go_ret2
        exact ⟨by first | rfl | (simp; done) | (simp [*]; done), by repeat (first | exact Drawn0.refl _ | apply Drawn0.step)⟩
      · replace c5 := Bool.eq_false_iff.mpr c5
        subst c5
        have H1 : ((cleatref01_Small.f kj2 (IntKind.u64.wrap (a0)) a1).bind fun t103 => (if t103 = true then ((cleatref01_Bit.f kj2 (IntKind.u64.wrap (a0)) (wrap64 (a1 - 1))).bind fun t104 => (if t104 = true then ((cleatref01_Power.f kj2 a1).bind fun t105 => (some (wrap64 ((wrap64 (a0)) - (wrap64 (t105))), 0))) else (some (wrap64 (a0), 0)))) else (some (0, 4)))) = some (r1, r2) := by rw [if_neg (show ¬ (false = true) by decide)] at H; exact H
        clear H
        have H := H1
        clear H1
        replace H := Option.bind_eq_some_iff.mp H
        obtain ⟨t103, A60, H⟩ := H
        replace H : (if t103 = true then ((cleatref01_Bit.f kj2 (IntKind.u64.wrap (a0)) (wrap64 (a1 - 1))).bind fun t104 => (if t104 = true then ((cleatref01_Power.f kj2 a1).bind fun t105 => (some (wrap64 ((wrap64 (a0)) - (wrap64 (t105))), 0))) else (some (wrap64 (a0), 0)))) else (some (0, 4))) = some (r1, r2) := H
        have A6 := Aside0.mk A60
        clear A60
        by_cases c7 : t103 = true
        · subst c7
          have H1 : ((cleatref01_Bit.f kj2 (IntKind.u64.wrap (a0)) (wrap64 (a1 - 1))).bind fun t104 => (if t104 = true then ((cleatref01_Power.f kj2 a1).bind fun t105 => (some (wrap64 ((wrap64 (a0)) - (wrap64 (t105))), 0))) else (some (wrap64 (a0), 0)))) = some (r1, r2) := by rw [if_pos rfl] at H; exact H
          clear H
          have H := H1
          clear H1
          replace H := Option.bind_eq_some_iff.mp H
          obtain ⟨t104, A80, H⟩ := H
          replace H : (if t104 = true then ((cleatref01_Power.f kj2 a1).bind fun t105 => (some (wrap64 ((wrap64 (a0)) - (wrap64 (t105))), 0))) else (some (wrap64 (a0), 0))) = some (r1, r2) := H
          have A8 := Aside0.mk A80
          clear A80
          by_cases c9 : t104 = true
          · subst c9
            have H1 : ((cleatref01_Power.f kj2 a1).bind fun t105 => (some (wrap64 ((wrap64 (a0)) - (wrap64 (t105))), 0))) = some (r1, r2) := by rw [if_pos rfl] at H; exact H
            clear H
            have H := H1
            clear H1
            replace H := Option.bind_eq_some_iff.mp H
            obtain ⟨t105, A100, H⟩ := H
            replace H : (some (wrap64 ((wrap64 (a0)) - (wrap64 (t105))), 0)) = some (r1, r2) := H
            have A10 := Aside0.mk A100
            clear A100
            simp only [Option.some.injEq, Prod.mk.injEq] at H
            obtain ⟨rfl, rfl⟩ := H
            go_wp2_with (first | ((with_reducible refine gate_callee (f := 24) rfl ?_); refine goesL_ (some 15) rfl rfl Try.func24 (by kernel_rfl) rfl #[.int .u64 (IntKind.u64.wrap (a0)), .int .i64 a1] rfl (by (try simp only [List.map_toArray, List.map_cons, List.map_nil]); first | done | rfl | (simp only [List.length_drop, List.length_take]; rfl)) ?_; (with_reducible refine (cleatref01_Small.calls kj2 (IntKind.u64.wrap (a0)) a1 true _ A6.out).mono ?_); rintro e w' ⟨rfl, ⟨nd, rfl⟩⟩; refine ⟨_, rfl, ?_⟩) | ((with_reducible refine gate_callee (f := 25) rfl ?_); refine goesL_ (some 21) rfl rfl Try.func25 (by kernel_rfl) rfl #[.int .u64 (IntKind.u64.wrap (a0)), .int .i64 (wrap64 (a1 - 1))] rfl (by (try simp only [List.map_toArray, List.map_cons, List.map_nil]); first | done | rfl | (simp only [List.length_drop, List.length_take]; rfl)) ?_; (with_reducible refine (cleatref01_Bit.calls kj2 (IntKind.u64.wrap (a0)) (wrap64 (a1 - 1)) true _ A8.out).mono ?_); rintro e w' ⟨rfl, ⟨nd, rfl⟩⟩; refine ⟨_, rfl, ?_⟩) | ((with_reducible refine gate_callee (f := 26) rfl ?_); refine goesL_ (some 25) rfl rfl Try.func26 (by kernel_rfl) rfl #[.int .i64 a1] rfl (by (try simp only [List.map_toArray, List.map_cons, List.map_nil]); first | done | rfl | (simp only [List.length_drop, List.length_take]; rfl)) ?_; (with_reducible refine (cleatref01_Power.calls kj2 a1 t105 _ A10.out).mono ?_); rintro e w' ⟨rfl, ⟨nd, rfl⟩⟩; refine ⟨_, rfl, ?_⟩))
            go_ret2
            exact ⟨by first | rfl | (simp; done) | (simp [*]; done), by repeat (first | exact Drawn0.refl _ | apply Drawn0.step)⟩
          · replace c9 := Bool.eq_false_iff.mpr c9
            subst c9
            have H1 : (some (wrap64 (a0), 0)) = some (r1, r2) := by rw [if_neg (show ¬ (false = true) by decide)] at H; exact H
            clear H
            have H := H1
            clear H1
            simp only [Option.some.injEq, Prod.mk.injEq] at H
            obtain ⟨rfl, rfl⟩ := H
            go_wp2_with (first | ((with_reducible refine gate_callee (f := 24) rfl ?_); refine goesL_ (some 15) rfl rfl Try.func24 (by kernel_rfl) rfl #[.int .u64 (IntKind.u64.wrap (a0)), .int .i64 a1] rfl (by (try simp only [List.map_toArray, List.map_cons, List.map_nil]); first | done | rfl | (simp only [List.length_drop, List.length_take]; rfl)) ?_; (with_reducible refine (cleatref01_Small.calls kj2 (IntKind.u64.wrap (a0)) a1 true _ A6.out).mono ?_); rintro e w' ⟨rfl, ⟨nd, rfl⟩⟩; refine ⟨_, rfl, ?_⟩) | ((with_reducible refine gate_callee (f := 25) rfl ?_); refine goesL_ (some 21) rfl rfl Try.func25 (by kernel_rfl) rfl #[.int .u64 (IntKind.u64.wrap (a0)), .int .i64 (wrap64 (a1 - 1))] rfl (by (try simp only [List.map_toArray, List.map_cons, List.map_nil]); first | done | rfl | (simp only [List.length_drop, List.length_take]; rfl)) ?_; (with_reducible refine (cleatref01_Bit.calls kj2 (IntKind.u64.wrap (a0)) (wrap64 (a1 - 1)) false _ A8.out).mono ?_); rintro e w' ⟨rfl, ⟨nd, rfl⟩⟩; refine ⟨_, rfl, ?_⟩))
            go_ret2
            exact ⟨by first | rfl | (simp; done) | (simp [*]; done), by repeat (first | exact Drawn0.refl _ | apply Drawn0.step)⟩
        · replace c7 := Bool.eq_false_iff.mpr c7
          subst c7
          have H1 : (some (0, 4)) = some (r1, r2) := by rw [if_neg (show ¬ (false = true) by decide)] at H; exact H
          clear H
          have H := H1
          clear H1
          simp only [Option.some.injEq, Prod.mk.injEq] at H
          obtain ⟨rfl, rfl⟩ := H
          go_wp2_with (first | ((with_reducible refine gate_callee (f := 24) rfl ?_); refine goesL_ (some 15) rfl rfl Try.func24 (by kernel_rfl) rfl #[.int .u64 (IntKind.u64.wrap (a0)), .int .i64 a1] rfl (by (try simp only [List.map_toArray, List.map_cons, List.map_nil]); first | done | rfl | (simp only [List.length_drop, List.length_take]; rfl)) ?_; (with_reducible refine (cleatref01_Small.calls kj2 (IntKind.u64.wrap (a0)) a1 false _ A6.out).mono ?_); rintro e w' ⟨rfl, ⟨nd, rfl⟩⟩; refine ⟨_, rfl, ?_⟩))
          go_ret2
          exact ⟨by first | rfl | (simp; done) | (simp [*]; done), by repeat (first | exact Drawn0.refl _ | apply Drawn0.step)⟩

/-! ### bits_Pack: function 11 -/
def bits_Pack.j0 : Nat → Int → Int → Bool → Option (Int × Int)
  | 0, _, _, _ => none
  | k + 1, x0, x1, x12 => if x12 = true then (some (0, 1)) else (if 0 ≤ (wrap64 (x1 - 1)) then (if x0 < (wrap64 (-(shl .i64 1 (wrap64 (x1 - 1))))) then (some (0, 4)) else (if x0 > (wrap64 ((shl .i64 1 (wrap64 (x1 - 1))) - 1)) then (some (0, 4)) else (if 0 ≤ x1 then (some (Go.bits .and .u32 ((x0) % 4294967296) (((shl .u32 1 x1) - 1) % 4294967296), 0)) else (none)))) else (none))
def bits_Pack.f (k : Nat) (a0 : Int) (a1 : Int) : Option (Int × Int) := if a1 < 1 then (bits_Pack.j0 k a0 a1 true) else (bits_Pack.j0 k a0 a1 (decide (a1 > 32)))
theorem bits_Pack.mono_l : ∀ k, (∀ y0 y1 y2, LeO (bits_Pack.j0 k y0 y1 y2) (bits_Pack.j0 (k + 1) y0 y1 y2))
  | 0 => fun _ _ _ r h => by simp [bits_Pack.j0] at h
  | k + 1 => by
    have ih0 := bits_Pack.mono_l k
    · intro y0 y1 y2
      unfold bits_Pack.j0
      repeat' first
      | (with_reducible exact ih0 _ _ _)
      | (with_reducible exact LeO.refl _)
      | (with_reducible exact LeO.none _)
      | (with_reducible refine LeO.ite ?_ ?_)
      | (with_reducible refine LeO.bind ?_ (fun _ => ?_))
      | exact ih0 _ _ _
      | exact LeO.none _
      | refine LeO.ite ?_ ?_
      | refine LeO.bind ?_ (fun _ => ?_)
theorem bits_Pack.mono : ∀ a0 a1 k, LeO (bits_Pack.f k a0 a1) (bits_Pack.f (k + 1) a0 a1) := by
  intro a0 a1 k
  have ih0 := bits_Pack.mono_l k
  unfold bits_Pack.f
  repeat' first
      | (with_reducible exact ih0 _ _ _)
      | (with_reducible exact LeO.refl _)
      | (with_reducible exact LeO.none _)
      | (with_reducible refine LeO.ite ?_ ?_)
      | (with_reducible refine LeO.bind ?_ (fun _ => ?_))
      | exact ih0 _ _ _
      | exact LeO.none _
      | refine LeO.ite ?_ ?_
      | refine LeO.bind ?_ (fun _ => ?_)
set_option maxHeartbeats 8000000 in
set_option maxRecDepth 100000 in
theorem bits_Pack.calls (k : Nat) (a0 : Int) (a1 : Int) (r1 : Int) (r2 : Int) (w : World) (h : bits_Pack.f k a0 a1 = some (r1, r2)) :
    Calls Try.prog 11 #[.int .i64 a0, .int .i64 a1] w fun e w' => e = .returned (.tuple #[.int .u32 r1, .int .i64 r2]) ∧ Drawn0 w w' := by
  have H : (if a1 < 1 then (bits_Pack.j0 k a0 a1 true) else (bits_Pack.j0 k a0 a1 (decide (a1 > 32)))) = some (r1, r2) := h
  clear h
  have HC3 := Aside0.mk H
  clear H
  go_enter Try.func11, Try.ntmps11
  go_upto_region 1 with (fail)
  go_cut [12] (fun v12 wc => ∃ (kq : Nat) (x12_2 : Bool), v12 = .bool x12_2 ∧ Aside0 (bits_Pack.j0 kq a0 a1 x12_2 = some (r1, r2)) ∧ Aside0 (kq ≤ k) ∧ Drawn0 w wc)
  case first =>
    have H := HC3.out
    clear HC3
    by_cases c4 : a1 < 1
    · rw [if_pos c4] at H
      have c4b0 : decide (a1 < 1) = true := decide_eq_true c4
      clear c4
      (first | rw [c4b0] | (simp only [i64_w, i32_w]; rw [c4b0]) | skip)
      have H' := Aside0.mk H
      clear H
      go_wp2
      go_meet
      case rel => exact ⟨_, (true), (by first | rfl | (simp; done) | (simp [*]; done)), H', ⟨by first | omega | exact Nat.le_refl _⟩, by repeat (first | exact Drawn0.refl _ | apply Drawn0.step)⟩
    · rw [if_neg c4] at H
      have c4b0 : decide (a1 < 1) = false := decide_eq_false c4
      clear c4
      (first | rw [c4b0] | (simp only [i64_w, i32_w]; rw [c4b0]) | skip)
      have H' := Aside0.mk H
      clear H
      go_wp2
      go_meet
      case rel => exact ⟨_, (decide (a1 > 32)), (by first | rfl | (simp; done) | (simp [*]; done)), H', ⟨by first | omega | exact Nat.le_refl _⟩, by repeat (first | exact Drawn0.refl _ | apply Drawn0.step)⟩
  case rest =>
    clear HC3
    try clear c1
    try clear p2
    try clear c4
    try clear c4b0
    obtain ⟨kq, x12_2, rfl, HA, HJ2, ⟨mc2, rfl⟩⟩ := hcut
    cases kq with
    | zero => exact absurd HA.out (by simp [bits_Pack.j0])
    | succ kj2 =>
      have H := HA.out
      clear HA
      simp only [bits_Pack.j0] at H
      by_cases c5 : x12_2 = true
      · subst c5
        have H1 : (some (0, 1)) = some (r1, r2) := by rw [if_pos rfl] at H; exact H
        clear H
        have H := H1
        clear H1
        simp only [Option.some.injEq, Prod.mk.injEq] at H
        obtain ⟨rfl, rfl⟩ := H
        go_wp2
        go_ret2
        exact ⟨by first | rfl | (simp; done) | (simp [*]; done), by repeat (first | exact Drawn0.refl _ | apply Drawn0.step)⟩
      · replace c5 := Bool.eq_false_iff.mpr c5
        subst c5
        have H1 : (if 0 ≤ (wrap64 (a1 - 1)) then (if a0 < (wrap64 (-(shl .i64 1 (wrap64 (a1 - 1))))) then (some (0, 4)) else (if a0 > (wrap64 ((shl .i64 1 (wrap64 (a1 - 1))) - 1)) then (some (0, 4)) else (if 0 ≤ a1 then (some (Go.bits .and .u32 ((a0) % 4294967296) (((shl .u32 1 a1) - 1) % 4294967296), 0)) else (none)))) else (none)) = some (r1, r2) := by rw [if_neg (show ¬ (false = true) by decide)] at H; exact H
        clear H
        have H := H1
        clear H1
        obtain ⟨ji6, hji6⟩ : ∃ j_ : Int, (wrap64 (a1 - 1)) = j_ := ⟨_, rfl⟩
        replace H : (if 0 ≤ (ji6) then (if a0 < (wrap64 (-(shl .i64 1 (ji6)))) then (some (0, 4)) else (if a0 > (wrap64 ((shl .i64 1 (ji6)) - 1)) then (some (0, 4)) else (if 0 ≤ a1 then (some (Go.bits .and .u32 ((a0) % 4294967296) (((shl .u32 1 a1) - 1) % 4294967296), 0)) else (none)))) else (none)) = some (r1, r2) := by first | (rw [hji6] at H; exact H) | (simp only [hji6] at H ⊢; exact H)
        have hji6w : (IntKind.i64.wrap (a1 - 1)) = ji6 := (i64_w _).trans hji6
        by_cases c7 : 0 ≤ (ji6)
        · rw [if_pos c7] at H
          have c7b0 := eq_true c7
          have c7b1 : decide (0 ≤ (ji6)) = true := decide_eq_true c7
          clear c7
          obtain ⟨ji8, hji8⟩ : ∃ j_ : Int, (shl .i64 1 (ji6)) = j_ := ⟨_, rfl⟩
          replace H : (if a0 < (wrap64 (-(ji8))) then (some (0, 4)) else (if a0 > (wrap64 ((ji8) - 1)) then (some (0, 4)) else (if 0 ≤ a1 then (some (Go.bits .and .u32 ((a0) % 4294967296) (((shl .u32 1 a1) - 1) % 4294967296), 0)) else (none)))) = some (r1, r2) := by first | (rw [hji8] at H; exact H) | (simp only [hji8] at H ⊢; exact H)
          have hji8_ : (IntKind.i64.wrap (1 * 2 ^ min (ji6).toNat 64)) = ji8 := hji8
          have hji8z : (ji6) ≤ 64 → (IntKind.i64.wrap (1 * 2 ^ (ji6).toNat)) = ji8 := shl_small hji8
          have hji8u : (IntKind.i64.wrap (2 ^ min (ji6).toNat 64)) = ji8 := by have h_ := hji8_; rw [Int.one_mul] at h_; exact h_
          have hji8v : (ji6) ≤ 64 → (IntKind.i64.wrap (2 ^ (ji6).toNat)) = ji8 := fun hle_ => by have h_ := hji8z hle_; rw [Int.one_mul] at h_; exact h_
          have hji8y : (wrap64 (1 * 2 ^ min (ji6).toNat 64)) = ji8 := (i64_w _).symm.trans hji8_
          have hji8x : (ji6) ≤ 64 → (wrap64 (1 * 2 ^ (ji6).toNat)) = ji8 := fun h_ => (i64_w _).symm.trans (hji8z h_)
          by_cases c9 : a0 < (wrap64 (-(ji8)))
          · rw [if_pos c9] at H
            have c9b0 : decide (a0 < (wrap64 (-(ji8)))) = true := decide_eq_true c9
            clear c9
            simp only [Option.some.injEq, Prod.mk.injEq] at H
            obtain ⟨rfl, rfl⟩ := H
            go_wp2
            go_ret2
            exact ⟨by first | rfl | (simp; done) | (simp only [← hji6, ← hji8] <;> (first | rfl | simp)) | (simp [*]; done), by repeat (first | exact Drawn0.refl _ | apply Drawn0.step)⟩
          · rw [if_neg c9] at H
            have c9b0 : decide (a0 < (wrap64 (-(ji8)))) = false := decide_eq_false c9
            clear c9
            by_cases c10 : a0 > (wrap64 ((ji8) - 1))
            · rw [if_pos c10] at H
              have c10b0 : decide ((wrap64 ((ji8) - 1)) < a0) = true := decide_eq_true c10
              clear c10
              simp only [Option.some.injEq, Prod.mk.injEq] at H
              obtain ⟨rfl, rfl⟩ := H
              go_wp2
              go_ret2
              exact ⟨by first | rfl | (simp; done) | (simp only [← hji6, ← hji8] <;> (first | rfl | simp)) | (simp [*]; done), by repeat (first | exact Drawn0.refl _ | apply Drawn0.step)⟩
            · rw [if_neg c10] at H
              have c10b0 : decide ((wrap64 ((ji8) - 1)) < a0) = false := decide_eq_false c10
              clear c10
              by_cases c11 : 0 ≤ a1
              · rw [if_pos c11] at H
                have c11b0 := eq_true c11
                have c11b1 : decide (0 ≤ a1) = true := decide_eq_true c11
                clear c11
                obtain ⟨ji12, hji12⟩ : ∃ j_ : Int, (shl .u32 1 a1) = j_ := ⟨_, rfl⟩
                replace H : (some (Go.bits .and .u32 ((a0) % 4294967296) (((ji12) - 1) % 4294967296), 0)) = some (r1, r2) := by first | (rw [hji12] at H; exact H) | (simp only [hji12] at H ⊢; exact H)
                have hji12_ : (IntKind.u32.wrap (1 * 2 ^ min a1.toNat 32)) = ji12 := hji12
                have hji12z : a1 ≤ 32 → (IntKind.u32.wrap (1 * 2 ^ a1.toNat)) = ji12 := shl_small hji12
                have hji12u : (IntKind.u32.wrap (2 ^ min a1.toNat 32)) = ji12 := by have h_ := hji12_; rw [Int.one_mul] at h_; exact h_
                have hji12v : a1 ≤ 32 → (IntKind.u32.wrap (2 ^ a1.toNat)) = ji12 := fun hle_ => by have h_ := hji12z hle_; rw [Int.one_mul] at h_; exact h_
                simp only [Option.some.injEq, Prod.mk.injEq] at H
                obtain ⟨rfl, rfl⟩ := H
                go_wp2
                go_ret2
                exact ⟨by first | rfl | (simp; done) | (simp only [← hji6, ← hji8, ← hji12] <;> (first | rfl | simp)) | (simp [*]; done), by repeat (first | exact Drawn0.refl _ | apply Drawn0.step)⟩
              · rw [if_neg c11] at H
                exact absurd H (by simp)
        · rw [if_neg c7] at H
          exact absurd H (by simp)

/-! ### cleatref01_Pack: function 12 -/
mutual
def cleatref01_Pack.j0 : Nat → Int → Int → Bool → Option (Int × Int)
  | 0, _, _, _ => none
  | k + 1, x0, x1, x12 => if x12 = true then (some (0, 1)) else ((cleatref01_Power.f k (wrap64 (x1 - 1))).bind fun t106 => (if x0 < (wrap64 (-(wrap64 (t106)))) then (cleatref01_Pack.j1 k x0 (wrap64 (t106)) true) else (cleatref01_Pack.j1 k x0 (wrap64 (t106)) (decide (x0 ≥ (wrap64 (t106)))))))
def cleatref01_Pack.j1 : Nat → Int → Int → Bool → Option (Int × Int)
  | 0, _, _, _ => none
  | k + 1, x0, x6, x25 => if x25 = true then (some (0, 4)) else (if x0 < 0 then (some ((wrap64 (x0 + (wrap64 (2 * x6)))) % 4294967296, 0)) else (some ((x0) % 4294967296, 0)))
end
def cleatref01_Pack.f (k : Nat) (a0 : Int) (a1 : Int) : Option (Int × Int) := if a1 < 1 then (cleatref01_Pack.j0 k a0 a1 true) else (cleatref01_Pack.j0 k a0 a1 (decide (a1 > 32)))
theorem cleatref01_Pack.mono_l : ∀ k, (∀ y0 y1 y2, LeO (cleatref01_Pack.j0 k y0 y1 y2) (cleatref01_Pack.j0 (k + 1) y0 y1 y2)) ∧ (∀ y0 y1 y2, LeO (cleatref01_Pack.j1 k y0 y1 y2) (cleatref01_Pack.j1 (k + 1) y0 y1 y2))
  | 0 => ⟨fun _ _ _ r h => by simp [cleatref01_Pack.j0] at h, fun _ _ _ r h => by simp [cleatref01_Pack.j1] at h⟩
  | k + 1 => by
    obtain ⟨ih0, ih1⟩ := cleatref01_Pack.mono_l k
    refine ⟨?_, ?_⟩
    · intro y0 y1 y2
      unfold cleatref01_Pack.j0
      repeat' first
      | (with_reducible exact ih0 _ _ _)
      | (with_reducible exact ih1 _ _ _)
      | (with_reducible exact cleatref01_Power.mono _ _)
      | (with_reducible exact LeO.refl _)
      | (with_reducible exact LeO.none _)
      | (with_reducible refine LeO.ite ?_ ?_)
      | (with_reducible refine LeO.bind ?_ (fun _ => ?_))
      | exact ih0 _ _ _
      | exact ih1 _ _ _
      | exact cleatref01_Power.mono _ _
      | exact LeO.none _
      | refine LeO.ite ?_ ?_
      | refine LeO.bind ?_ (fun _ => ?_)
    · intro y0 y1 y2
      unfold cleatref01_Pack.j1
      repeat' first
      | (with_reducible exact ih0 _ _ _)
      | (with_reducible exact ih1 _ _ _)
      | (with_reducible exact cleatref01_Power.mono _ _)
      | (with_reducible exact LeO.refl _)
      | (with_reducible exact LeO.none _)
      | (with_reducible refine LeO.ite ?_ ?_)
      | (with_reducible refine LeO.bind ?_ (fun _ => ?_))
      | exact ih0 _ _ _
      | exact ih1 _ _ _
      | exact cleatref01_Power.mono _ _
      | exact LeO.none _
      | refine LeO.ite ?_ ?_
      | refine LeO.bind ?_ (fun _ => ?_)
theorem cleatref01_Pack.mono : ∀ a0 a1 k, LeO (cleatref01_Pack.f k a0 a1) (cleatref01_Pack.f (k + 1) a0 a1) := by
  intro a0 a1 k
  obtain ⟨ih0, ih1⟩ := cleatref01_Pack.mono_l k
  unfold cleatref01_Pack.f
  repeat' first
      | (with_reducible exact ih0 _ _ _)
      | (with_reducible exact ih1 _ _ _)
      | (with_reducible exact cleatref01_Power.mono _ _)
      | (with_reducible exact LeO.refl _)
      | (with_reducible exact LeO.none _)
      | (with_reducible refine LeO.ite ?_ ?_)
      | (with_reducible refine LeO.bind ?_ (fun _ => ?_))
      | exact ih0 _ _ _
      | exact ih1 _ _ _
      | exact cleatref01_Power.mono _ _
      | exact LeO.none _
      | refine LeO.ite ?_ ?_
      | refine LeO.bind ?_ (fun _ => ?_)
set_option maxHeartbeats 8000000 in
set_option maxRecDepth 100000 in
theorem cleatref01_Pack.calls (k : Nat) (a0 : Int) (a1 : Int) (r1 : Int) (r2 : Int) (w : World) (h : cleatref01_Pack.f k a0 a1 = some (r1, r2)) :
    Calls Try.prog 12 #[.int .i64 a0, .int .i64 a1] w fun e w' => e = .returned (.tuple #[.int .u32 r1, .int .i64 r2]) ∧ Drawn0 w w' := by
  have H : (if a1 < 1 then (cleatref01_Pack.j0 k a0 a1 true) else (cleatref01_Pack.j0 k a0 a1 (decide (a1 > 32)))) = some (r1, r2) := h
  clear h
  have HC3 := Aside0.mk H
  clear H
  go_enter Try.func12, Try.ntmps12
  go_upto_region 1 with (fail)
  go_cut [12] (fun v12 wc => ∃ (kq : Nat) (x12_2 : Bool), v12 = .bool x12_2 ∧ Aside0 (cleatref01_Pack.j0 kq a0 a1 x12_2 = some (r1, r2)) ∧ Aside0 (kq ≤ k) ∧ Drawn0 w wc)
  case first =>
    have H := HC3.out
    clear HC3
    by_cases c4 : a1 < 1
    · rw [if_pos c4] at H
      have c4b0 : decide (a1 < 1) = true := decide_eq_true c4
      clear c4
      (first | rw [c4b0] | (simp only [i64_w, i32_w]; rw [c4b0]) | skip)
      have H' := Aside0.mk H
      clear H
      go_wp2
      go_meet
      case rel => exact ⟨_, (true), (by first | rfl | (simp; done) | (simp [*]; done)), H', ⟨by first | omega | exact Nat.le_refl _⟩, by repeat (first | exact Drawn0.refl _ | apply Drawn0.step)⟩
    · rw [if_neg c4] at H
      have c4b0 : decide (a1 < 1) = false := decide_eq_false c4
      clear c4
      (first | rw [c4b0] | (simp only [i64_w, i32_w]; rw [c4b0]) | skip)
      have H' := Aside0.mk H
      clear H
      go_wp2
      go_meet
      case rel => exact ⟨_, (decide (a1 > 32)), (by first | rfl | (simp; done) | (simp [*]; done)), H', ⟨by first | omega | exact Nat.le_refl _⟩, by repeat (first | exact Drawn0.refl _ | apply Drawn0.step)⟩
  case rest =>
    clear HC3
    try clear c1
    try clear p2
    try clear c4
    try clear c4b0
    obtain ⟨kq, x12_2, rfl, HA, HJ2, ⟨mc2, rfl⟩⟩ := hcut
    cases kq with
    | zero => exact absurd HA.out (by simp [cleatref01_Pack.j0])
    | succ kj2 =>
      have H := HA.out
      clear HA
      simp only [cleatref01_Pack.j0] at H
      by_cases c5 : x12_2 = true
      · subst c5
        have H1 : (some (0, 1)) = some (r1, r2) := by rw [if_pos rfl] at H; exact H
        clear H
        have H := H1
        clear H1
        simp only [Option.some.injEq, Prod.mk.injEq] at H
        obtain ⟨rfl, rfl⟩ := H
        go_wp2
        go_ret2
        exact ⟨by first | rfl | (simp; done) | (simp [*]; done), by repeat (first | exact Drawn0.refl _ | apply Drawn0.step)⟩
      · replace c5 := Bool.eq_false_iff.mpr c5
        subst c5
        have H1 : ((cleatref01_Power.f kj2 (wrap64 (a1 - 1))).bind fun t106 => (if a0 < (wrap64 (-(wrap64 (t106)))) then (cleatref01_Pack.j1 kj2 a0 (wrap64 (t106)) true) else (cleatref01_Pack.j1 kj2 a0 (wrap64 (t106)) (decide (a0 ≥ (wrap64 (t106))))))) = some (r1, r2) := by rw [if_neg (show ¬ (false = true) by decide)] at H; exact H
        clear H
        have H := H1
        clear H1
        replace H := Option.bind_eq_some_iff.mp H
        obtain ⟨t106, A60, H⟩ := H
        replace H : (if a0 < (wrap64 (-(wrap64 (t106)))) then (cleatref01_Pack.j1 kj2 a0 (wrap64 (t106)) true) else (cleatref01_Pack.j1 kj2 a0 (wrap64 (t106)) (decide (a0 ≥ (wrap64 (t106)))))) = some (r1, r2) := H
        have A6 := Aside0.mk A60
        clear A60
        have HC7 := Aside0.mk H
        clear H
        go_upto_region 4 with (first | ((with_reducible refine gate_callee (f := 26) rfl ?_); refine goesL_ (some 15) rfl rfl Try.func26 (by kernel_rfl) rfl #[.int .i64 (wrap64 (a1 - 1))] rfl (by (try simp only [List.map_toArray, List.map_cons, List.map_nil]); first | done | rfl | (simp only [List.length_drop, List.length_take]; rfl)) ?_; (with_reducible refine (cleatref01_Power.calls kj2 (wrap64 (a1 - 1)) t106 _ A6.out).mono ?_); rintro e w' ⟨rfl, ⟨nd, rfl⟩⟩; refine ⟨_, rfl, ?_⟩))
        (try simp only [Act.put, List.setIfInBounds_toArray, List.set_cons_zero, List.set_cons_succ])
        go_cut [25] (fun v25 wc => ∃ (kq : Nat) (x25_6 : Bool), v25 = .bool x25_6 ∧ Aside0 (cleatref01_Pack.j1 kq a0 (wrap64 (t106)) x25_6 = some (r1, r2)) ∧ Aside0 (kq ≤ kj2) ∧ Drawn0 w wc)
        case first =>
          have H := HC7.out
          clear HC7
          by_cases c8 : a0 < (wrap64 (-(wrap64 (t106))))
          · rw [if_pos c8] at H
            have c8b0 : decide (a0 < (wrap64 (-(wrap64 (t106))))) = true := decide_eq_true c8
            clear c8
            (first | rw [c8b0] | (simp only [i64_w, i32_w]; rw [c8b0]) | skip)
            have H' := Aside0.mk H
            clear H
            go_wp2
            go_meet
            case rel => exact ⟨_, (true), (by first | rfl | (simp; done) | (simp [*]; done)), H', ⟨by have := HJ2.out; first | omega | exact Nat.le_refl _⟩, by repeat (first | exact Drawn0.refl _ | apply Drawn0.step)⟩
          · rw [if_neg c8] at H
            have c8b0 : decide (a0 < (wrap64 (-(wrap64 (t106))))) = false := decide_eq_false c8
            clear c8
            (first | rw [c8b0] | (simp only [i64_w, i32_w]; rw [c8b0]) | skip)
            have H' := Aside0.mk H
            clear H
            go_wp2
            go_meet
            case rel => exact ⟨_, (decide (a0 ≥ (wrap64 (t106)))), (by first | rfl | (simp; done) | (simp [*]; done)), H', ⟨by have := HJ2.out; first | omega | exact Nat.le_refl _⟩, by repeat (first | exact Drawn0.refl _ | apply Drawn0.step)⟩
        case rest =>
          clear HC7
          try clear c1
          try clear c2
          try clear p2
          try clear c4
          try clear c4b0
          try clear c5
          try clear p6
          try clear c8
          try clear c8b0
          try clear p2
          obtain ⟨kq, x25_6, rfl, HA, HJ6, ⟨mc6, rfl⟩⟩ := hcut
          cases kq with
          | zero => exact absurd HA.out (by simp [cleatref01_Pack.j1])
          | succ kj6 =>
            have H := HA.out
            clear HA
            simp only [cleatref01_Pack.j1] at H
            by_cases c9 : x25_6 = true
            · subst c9
              have H1 : (some (0, 4)) = some (r1, r2) := by rw [if_pos rfl] at H; exact H
              clear H
              have H := H1
              clear H1
              simp only [Option.some.injEq, Prod.mk.injEq] at H
              obtain ⟨rfl, rfl⟩ := H
              go_wp2
              go_ret2
              exact ⟨by first | rfl | (simp; done) | (simp [*]; done), by repeat (first | exact Drawn0.refl _ | apply Drawn0.step)⟩
            · replace c9 := Bool.eq_false_iff.mpr c9
              subst c9
              have H1 : (if a0 < 0 then (some ((wrap64 (a0 + (wrap64 (2 * (wrap64 (t106)))))) % 4294967296, 0)) else (some ((a0) % 4294967296, 0))) = some (r1, r2) := by rw [if_neg (show ¬ (false = true) by decide)] at H; exact H
              clear H
              have H := H1
              clear H1
              by_cases c10 : a0 < 0
              · rw [if_pos c10] at H
                have c10b0 : decide (a0 < 0) = true := decide_eq_true c10
                clear c10
                simp only [Option.some.injEq, Prod.mk.injEq] at H
                obtain ⟨rfl, rfl⟩ := H
                go_wp2
                go_ret2
                exact ⟨by first | rfl | (simp; done) | (simp [*]; done), by repeat (first | exact Drawn0.refl _ | apply Drawn0.step)⟩
              · rw [if_neg c10] at H
                have c10b0 : decide (a0 < 0) = false := decide_eq_false c10
                clear c10
                simp only [Option.some.injEq, Prod.mk.injEq] at H
                obtain ⟨rfl, rfl⟩ := H
                go_wp2
                go_ret2
                exact ⟨by first | rfl | (simp; done) | (simp [*]; done), by repeat (first | exact Drawn0.refl _ | apply Drawn0.step)⟩

/-! ### bits_Low: function 16 -/
def bits_Low.f (a0 : Int) (a1 : Int) : Option (Int) := if a1 ≤ 0 then (some 0) else (if a1 ≥ 64 then (some a0) else (if 0 ≤ a1 then (some (Go.bits .and .u64 a0 (IntKind.u64.wrap ((shl .u64 1 a1) - 1)))) else (none)))
set_option maxHeartbeats 8000000 in
set_option maxRecDepth 100000 in
theorem bits_Low.calls (a0 : Int) (a1 : Int) (r : Int) (w : World) (h : bits_Low.f a0 a1 = some r) :
    Calls Try.prog 16 #[.int .u64 a0, .int .i64 a1] w fun e w' => e = .returned (.int .u64 r) ∧ Drawn0 w w' := by
  have H : (if a1 ≤ 0 then (some 0) else (if a1 ≥ 64 then (some a0) else (if 0 ≤ a1 then (some (Go.bits .and .u64 a0 (IntKind.u64.wrap ((shl .u64 1 a1) - 1)))) else (none)))) = some r := h
  clear h
  by_cases c3 : a1 ≤ 0
  · rw [if_pos c3] at H
    have c3b0 : decide (a1 ≤ 0) = true := decide_eq_true c3
    clear c3
    obtain rfl := Option.some.inj H
    go_enter Try.func16, Try.ntmps16
    go_wp2
    go_ret
    exact ⟨by first | rfl | (simp; done) | (simp [*]; done), by repeat (first | exact Drawn0.refl _ | apply Drawn0.step)⟩
  · rw [if_neg c3] at H
    have c3b0 : decide (a1 ≤ 0) = false := decide_eq_false c3
    clear c3
    by_cases c4 : a1 ≥ 64
    · rw [if_pos c4] at H
      have c4b0 : decide (64 ≤ a1) = true := decide_eq_true c4
      clear c4
      obtain rfl := Option.some.inj H
      go_enter Try.func16, Try.ntmps16
      go_wp2
      go_ret
      exact ⟨by first | rfl | (simp; done) | (simp [*]; done), by repeat (first | exact Drawn0.refl _ | apply Drawn0.step)⟩
    · rw [if_neg c4] at H
      have c4b0 : decide (64 ≤ a1) = false := decide_eq_false c4
      clear c4
      by_cases c5 : 0 ≤ a1
      · rw [if_pos c5] at H
        have c5b0 := eq_true c5
        have c5b1 : decide (0 ≤ a1) = true := decide_eq_true c5
        clear c5
        obtain ⟨ji6, hji6⟩ : ∃ j_ : Int, (shl .u64 1 a1) = j_ := ⟨_, rfl⟩
        replace H : (some (Go.bits .and .u64 a0 (IntKind.u64.wrap ((ji6) - 1)))) = some r := by first | (rw [hji6] at H; exact H) | (simp only [hji6] at H ⊢; exact H)
        have hji6_ : (IntKind.u64.wrap (1 * 2 ^ min a1.toNat 64)) = ji6 := hji6
        have hji6z : a1 ≤ 64 → (IntKind.u64.wrap (1 * 2 ^ a1.toNat)) = ji6 := shl_small hji6
        have hji6u : (IntKind.u64.wrap (2 ^ min a1.toNat 64)) = ji6 := by have h_ := hji6_; rw [Int.one_mul] at h_; exact h_
        have hji6v : a1 ≤ 64 → (IntKind.u64.wrap (2 ^ a1.toNat)) = ji6 := fun hle_ => by have h_ := hji6z hle_; rw [Int.one_mul] at h_; exact h_
        obtain rfl := Option.some.inj H
        go_enter Try.func16, Try.ntmps16
        go_wp2
        go_ret
        exact ⟨by first | rfl | (simp; done) | (simp only [← hji6] <;> (first | rfl | simp)) | (simp [*]; done), by repeat (first | exact Drawn0.refl _ | apply Drawn0.step)⟩
      · rw [if_neg c5] at H
        exact absurd H (by simp)

end Go.Proofs.Ythhknfbpfdmggaa.P
