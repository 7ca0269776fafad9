-- printed by wip/tools/myprint.py out of the translation. Not trusted: Lean checks it.
import Derived.Test.YtdckhlihhbobhaaPx0
namespace Go.Proofs.Ytdckhlihhbobhaa.P
open Go.RowKit Go.Proofs.YtdckhlihhbobhaaW.PrintWords Go.Proofs.YtdckhlihhbobhaaW.PrintLast Go.Proofs.YtdckhlihhbobhaaW.PrintMore
attribute [local go_sem] max2_int min2_int max_two min_two max_three min_three max_four min_four   -- for this text's walks alone
set_option linter.unusedVariables false
set_option linter.unusedSimpArgs false

/-! ### cleatref24_Own: function 9 -/
def cleatref24_Own.f (l0 : List (S34)) : Option ((List (S34))) := if ([] : List (S34)).length + l0.length < 8796093022208 then (some (([] : List (S34)) ++ l0)) else (none)
set_option maxHeartbeats 8000000 in
set_option maxRecDepth 100000 in
theorem cleatref24_Own.calls (A0 : Option Addr) (c0 : Nat) (l0 : List (S34)) (r : List (S34)) (w : World) (hr0 : Kd.C k34 w A0 l0.length l0) (hc0 : l0.length ≤ c0) (h : cleatref24_Own.f l0 = some r) :
    Calls Try.prog 9 #[.slice A0 l0.length c0] w fun e w' => ∃ v0_ : Value, e = .returned (v0_) ∧ Kd.R k34 34 w' w.heap.size (fun _ => True) v0_ r ∧ Below w.heap.size w w' := by
  have HR0 := Aside0.mk hr0
  have HC0 := Aside0.mk hc0
  clear hr0 hc0
  have HB := Aside0.mk (Below.refl w.heap.size w)
  have H : (if ([] : List (S34)).length + l0.length < 8796093022208 then (some (([] : List (S34)) ++ l0)) else (none)) = some r := h
  clear h
  by_cases c2 : ([] : List (S34)).length + l0.length < 8796093022208
  · rw [if_pos c2] at H
    have LMc2 := Aside0.mk c2
    clear c2
    obtain ⟨y101, hy101⟩ : ∃ y_ : List (S34), y_ = (([] : List (S34)) ++ l0) := ⟨_, rfl⟩
    replace H : (some y101) = some r := by first | (rw [hy101]; with_reducible exact H) | (have H2_ := (Option.bind_some _ _).symm.trans H; rw [hy101]; with_reducible exact H2_) | (have H2_ := (Option.bind_some _ _).symm.trans H; with_reducible exact H2_) | with_reducible exact H | (rw [hy101]; exact H) | exact H
    have Ny101 := Aside0.mk hy101
    clear hy101
    obtain rfl := Option.some.inj H
    go_enter Try.func9, Try.ntmps9
    go_wp2_with (first | ((with_reducible refine gate_builtin (b := .append) (xs := #[.tmp 4, .tmp 5]) rfl ?_); at_builtin; refine Kd.R_append_rows k34 (w0 := w) w.heap.size rfl (.tmp 4) (.tmp 5) 25 34 (.agg #[(.int .i64 0), (.int .i64 0)]) 16 rfl Try.underlying25 info34 rfl (by decide) (by omega) (.slice none 0 0) ([] : List (S34)) l0 _ _ _ (fun _ => True) (fun _ => False) rfl rfl ?aO ?aR (fun _ _ h => h) (fun _ h => h.elim) ?aF ?aB ?aS ?aL ?_; (case aR => repeat (first | exact HR0.out | (with_reducible refine Kd.C_alloc ?_ _) | (with_reducible refine Kd.C_drewN ?_ _) | (with_reducible refine Kd.C_drew ?_))); (case aB => exact (by repeat (first | (with_reducible first | exact HB.out | apply below_alloc | apply pw_below_drewN | apply below_drew1) | exact HB.out))); (case aF => exact (fun _ _ => trivial)); (case aO => exact ((Kd.R_nil _ _ _ _ (fun _ => True)))); (case aS => exact (below_size (by repeat (first | (with_reducible first | exact HB.out | apply below_alloc | apply pw_below_drewN | apply below_drew1) | exact HB.out)))); (case aL => have := LMc2.out; omega); intro v102 w3 ho hb hg hat; rw [← Ny101.out] at ho; have n0_ := Aside0.mk (hb); have n1_ := Aside0.mk (ho); clear HB; have HB := n0_; have HO103 := n1_; clear n0_ n1_; clear ho hb hg hat))
    go_ret
    exact ⟨_, by first | rfl | (simp [errW_none, errW_some] <;> rfl) | (simp [*, errW_none, errW_some] <;> rfl), by (with_reducible repeat (first | apply Kd.R_alloc | apply Kd.R_drewN | apply Kd.R_drew)); exact HO103.out, by repeat (first | (with_reducible first | exact HB.out | apply below_alloc | apply pw_below_drewN | apply below_drew1) | exact HB.out)⟩
  · rw [if_neg c2] at H
    exact absurd H (by simp)

/-! ### place_Up: function 10 -/
def place_Up.j0 : Nat → Int → Int → Bool → Option (Int × Int)
  | 0, _, _, _ => none
  | k + 1, x0, x1, x12 => if x12 = true then (some (0, 1)) else (if x0 > 9223372036854775808 then (some (0, 4)) else (if 0 ≤ x1 then (some (Go.bits .andNot .u64 (IntKind.u64.wrap (x0 + (IntKind.u64.wrap ((shl .u64 1 x1) - 1)))) (IntKind.u64.wrap ((shl .u64 1 x1) - 1)), 0)) else (none)))
def place_Up.f (k : Nat) (a0 : Int) (a1 : Int) : Option (Int × Int) := if a1 < 0 then (place_Up.j0 k a0 a1 true) else (place_Up.j0 k a0 a1 (decide (a1 > 12)))
theorem place_Up.mono_l : ∀ k, (∀ y0 y1 y2, LeO (place_Up.j0 k y0 y1 y2) (place_Up.j0 (k + 1) y0 y1 y2))
  | 0 => fun _ _ _ r h => by simp [place_Up.j0] at h
  | k + 1 => by
    have ih0 := place_Up.mono_l k
    · intro y0 y1 y2
      unfold place_Up.j0
      repeat' first
      | (with_reducible exact ih0 _ _ _)
      | (with_reducible exact LeO.refl _)
      | (with_reducible exact LeO.none _)
      | (with_reducible refine LeO.ite ?_ ?_)
      | (with_reducible refine LeO.bind ?_ (fun _ => ?_))
      | exact ih0 _ _ _
      | exact LeO.none _
      | refine LeO.ite ?_ ?_
      | refine LeO.bind ?_ (fun _ => ?_)
theorem place_Up.mono : ∀ a0 a1 k, LeO (place_Up.f k a0 a1) (place_Up.f (k + 1) a0 a1) := by
  intro a0 a1 k
  have ih0 := place_Up.mono_l k
  unfold place_Up.f
  repeat' first
      | (with_reducible exact ih0 _ _ _)
      | (with_reducible exact LeO.refl _)
      | (with_reducible exact LeO.none _)
      | (with_reducible refine LeO.ite ?_ ?_)
      | (with_reducible refine LeO.bind ?_ (fun _ => ?_))
      | exact ih0 _ _ _
      | exact LeO.none _
      | refine LeO.ite ?_ ?_
      | refine LeO.bind ?_ (fun _ => ?_)
set_option maxHeartbeats 8000000 in
set_option maxRecDepth 100000 in
theorem place_Up.calls (k : Nat) (a0 : Int) (a1 : Int) (r1 : Int) (r2 : Int) (w : World) (h : place_Up.f k a0 a1 = some (r1, r2)) :
    Calls Try.prog 10 #[.int .u64 a0, .int .i64 a1] w fun e w' => e = .returned (.tuple #[.int .u64 r1, .int .i64 r2]) ∧ Drawn0 w w' := by
  have H : (if a1 < 0 then (place_Up.j0 k a0 a1 true) else (place_Up.j0 k a0 a1 (decide (a1 > 12)))) = some (r1, r2) := h
  clear h
  have HC3 := Aside0.mk H
  clear H
  go_enter Try.func10, Try.ntmps10
  go_upto_region 1 with (fail)
  go_cut [12] (fun v12 wc => ∃ (kq : Nat) (x12_2 : Bool), v12 = .bool x12_2 ∧ Aside0 (place_Up.j0 kq a0 a1 x12_2 = some (r1, r2)) ∧ Aside0 (kq ≤ k) ∧ Drawn0 w wc)
  case first =>
    have H := HC3.out
    clear HC3
    by_cases c4 : a1 < 0
    · rw [if_pos c4] at H
      have c4b0 : decide (a1 < 0) = true := decide_eq_true c4
      clear c4
      (first | rw [c4b0] | (simp only [i64_w, i32_w]; rw [c4b0]) | skip)
      have H' := Aside0.mk H
      clear H
      go_wp2
      go_meet
      case rel => exact ⟨_, (true), (by first | rfl | (simp; done) | (simp [*]; done)), H', ⟨by first | omega | exact Nat.le_refl _⟩, by repeat (first | exact Drawn0.refl _ | apply Drawn0.step)⟩
    · rw [if_neg c4] at H
      have c4b0 : decide (a1 < 0) = false := decide_eq_false c4
      clear c4
      (first | rw [c4b0] | (simp only [i64_w, i32_w]; rw [c4b0]) | skip)
      have H' := Aside0.mk H
      clear H
      go_wp2
      go_meet
      case rel => exact ⟨_, (decide (a1 > 12)), (by first | rfl | (simp; done) | (simp [*]; done)), H', ⟨by first | omega | exact Nat.le_refl _⟩, by repeat (first | exact Drawn0.refl _ | apply Drawn0.step)⟩
  case rest =>
    clear HC3
    try clear c1
    try clear p2
    try clear c4
    try clear c4b0
    obtain ⟨kq, x12_2, rfl, HA, HJ2, ⟨mc2, rfl⟩⟩ := hcut
    cases kq with
    | zero => exact absurd HA.out (by simp [place_Up.j0])
    | succ kj2 =>
      have H := HA.out
      clear HA
      simp only [place_Up.j0] at H
      by_cases c5 : x12_2 = true
      · subst c5
        have H1 : (some (0, 1)) = some (r1, r2) := by rw [if_pos rfl] at H; exact H
        clear H
        have H := H1
        clear H1
        simp only [Option.some.injEq, Prod.mk.injEq] at H
        obtain ⟨rfl, rfl⟩ := H
        go_wp2
        go_ret2
        exact ⟨by first | rfl | (simp; done) | (simp [*]; done), by repeat (first | exact Drawn0.refl _ | apply Drawn0.step)⟩
      · replace c5 := Bool.eq_false_iff.mpr c5
        subst c5
        have H1 : (if a0 > 9223372036854775808 then (some (0, 4)) else (if 0 ≤ a1 then (some (Go.bits .andNot .u64 (IntKind.u64.wrap (a0 + (IntKind.u64.wrap ((shl .u64 1 a1) - 1)))) (IntKind.u64.wrap ((shl .u64 1 a1) - 1)), 0)) else (none))) = some (r1, r2) := by rw [if_neg (show ¬ (false = true) by decide)] at H; exact H
        clear H
        have H := H1
        clear H1
        by_cases c6 : a0 > 9223372036854775808
        · rw [if_pos c6] at H
          have c6b0 : decide (9223372036854775808 < a0) = true := decide_eq_true c6
          clear c6
          simp only [Option.some.injEq, Prod.mk.injEq] at H
          obtain ⟨rfl, rfl⟩ := H
          go_wp2
          go_ret2
          exact ⟨by first | rfl | (simp; done) | (simp [*]; done), by repeat (first | exact Drawn0.refl _ | apply Drawn0.step)⟩
        · rw [if_neg c6] at H
          have c6b0 : decide (9223372036854775808 < a0) = false := decide_eq_false c6
          clear c6
          by_cases c7 : 0 ≤ a1
          · rw [if_pos c7] at H
            have c7b0 := eq_true c7
            have c7b1 : decide (0 ≤ a1) = true := decide_eq_true c7
            clear c7
            obtain ⟨ji8, hji8⟩ : ∃ j_ : Int, (shl .u64 1 a1) = j_ := ⟨_, rfl⟩
            replace H : (some (Go.bits .andNot .u64 (IntKind.u64.wrap (a0 + (IntKind.u64.wrap ((ji8) - 1)))) (IntKind.u64.wrap ((ji8) - 1)), 0)) = some (r1, r2) := by first | (rw [hji8] at H; exact H) | (simp only [hji8] at H ⊢; exact H)
            have hji8_ : (IntKind.u64.wrap (1 * 2 ^ min a1.toNat 64)) = ji8 := hji8
            have hji8z : a1 ≤ 64 → (IntKind.u64.wrap (1 * 2 ^ a1.toNat)) = ji8 := shl_small hji8
            have hji8u : (IntKind.u64.wrap (2 ^ min a1.toNat 64)) = ji8 := by have h_ := hji8_; rw [Int.one_mul] at h_; exact h_
            have hji8v : a1 ≤ 64 → (IntKind.u64.wrap (2 ^ a1.toNat)) = ji8 := fun hle_ => by have h_ := hji8z hle_; rw [Int.one_mul] at h_; exact h_
            simp only [Option.some.injEq, Prod.mk.injEq] at H
            obtain ⟨rfl, rfl⟩ := H
            go_wp2
            go_ret2
            exact ⟨by first | rfl | (simp; done) | (simp only [← hji8] <;> (first | rfl | simp)) | (simp [*]; done), by repeat (first | exact Drawn0.refl _ | apply Drawn0.step)⟩
          · rw [if_neg c7] at H
            exact absurd H (by simp)

/-! ### cleatref01_Power: function 22 -/
def cleatref01_Power.l0 : Nat → Int → Int → Int → Option (Int)
  | 0, _, _, _ => none
  | k + 1, x0, x3, x4 => if x4 < x0 then (cleatref01_Power.l0 k x0 (IntKind.u64.wrap (2 * x3)) (wrap64 (x4 + 1))) else (some x3)
def cleatref01_Power.f (k : Nat) (a0 : Int) : Option (Int) := cleatref01_Power.l0 k a0 1 0
theorem cleatref01_Power.mono_l : ∀ k, (∀ y0 y1 y2, LeO (cleatref01_Power.l0 k y0 y1 y2) (cleatref01_Power.l0 (k + 1) y0 y1 y2))
  | 0 => fun _ _ _ r h => by simp [cleatref01_Power.l0] at h
  | k + 1 => by
    have ih0 := cleatref01_Power.mono_l k
    · intro y0 y1 y2
      unfold cleatref01_Power.l0
      repeat' first
      | (with_reducible exact ih0 _ _ _)
      | (with_reducible exact LeO.refl _)
      | (with_reducible exact LeO.none _)
      | (with_reducible refine LeO.ite ?_ ?_)
      | (with_reducible refine LeO.bind ?_ (fun _ => ?_))
      | exact ih0 _ _ _
      | exact LeO.none _
      | refine LeO.ite ?_ ?_
      | refine LeO.bind ?_ (fun _ => ?_)
theorem cleatref01_Power.mono : ∀ a0 k, LeO (cleatref01_Power.f k a0) (cleatref01_Power.f (k + 1) a0) := by
  intro a0 k
  have ih0 := cleatref01_Power.mono_l k
  unfold cleatref01_Power.f
  repeat' first
      | (with_reducible exact ih0 _ _ _)
      | (with_reducible exact LeO.refl _)
      | (with_reducible exact LeO.none _)
      | (with_reducible refine LeO.ite ?_ ?_)
      | (with_reducible refine LeO.bind ?_ (fun _ => ?_))
      | exact ih0 _ _ _
      | exact LeO.none _
      | refine LeO.ite ?_ ?_
      | refine LeO.bind ?_ (fun _ => ?_)
set_option maxHeartbeats 8000000 in
set_option maxRecDepth 100000 in
theorem cleatref01_Power.calls (k : Nat) (a0 : Int) (r : Int) (w : World) (h : cleatref01_Power.f k a0 = some r) :
    Calls Try.prog 22 #[.int .i64 a0] w fun e w' => e = .returned (.int .u64 r) ∧ Drawn0 w w' := by
  have H : (cleatref01_Power.l0 k a0 1 0) = some r := h
  clear h
  have H' := Aside0.mk H
  clear H
  go_enter Try.func22, Try.ntmps22
  go_wp2
  go_loopg [3, 4] k (fun kq v3 v4 w' => ∃ (x3_1 : Int) (x4_1 : Int), v3 = .int .u64 x3_1 ∧ v4 = .int .i64 x4_1 ∧ Aside0 (cleatref01_Power.l0 kq a0 x3_1 x4_1 = some r) ∧ Aside0 (kq ≤ k) ∧ Drawn0 w w')
  case atStart => exact ⟨(1), (0), (by first | rfl | (simp; done) | (simp [*]; done)), (by first | rfl | (simp; done) | (simp [*]; done)), H', ⟨Nat.le_refl _⟩, by repeat (first | exact Drawn0.refl _ | apply Drawn0.step)⟩
  case round =>
    clear H'
    obtain ⟨x3_1, x4_1, rfl, rfl, HA, HK1, ⟨m1, rfl⟩⟩ := hrel
    cases gk with
    | zero => exact absurd HA.out (by simp [cleatref01_Power.l0])
    | succ k1 =>
      have H := HA.out
      clear HA
      simp only [cleatref01_Power.l0] at H
      by_cases c2 : x4_1 < a0
      · rw [if_pos c2] at H
        have c2b0 : decide (x4_1 < a0) = true := decide_eq_true c2
        clear c2
        have H' := Aside0.mk H
        clear H
        go_wp2
        go_roundg k1
        case measure => have := HK1.out; omega
        case rel => exact ⟨(IntKind.u64.wrap (2 * x3_1)), (wrap64 (x4_1 + 1)), (by first | rfl | (simp; done) | (simp [*]; done)), (by first | rfl | (simp; done) | (simp [*]; done)), H', ⟨by have := HK1.out; omega⟩, by repeat (first | exact Drawn0.refl _ | apply Drawn0.step)⟩
      · rw [if_neg c2] at H
        have c2b0 : decide (x4_1 < a0) = false := decide_eq_false c2
        clear c2
        obtain rfl := Option.some.inj H
        go_wp2
        go_ret
        exact ⟨by first | rfl | (simp; done) | (simp [*]; done), by repeat (first | exact Drawn0.refl _ | apply Drawn0.step)⟩

/-! ### cleatref24_Up: function 11 -/
mutual
def cleatref24_Up.j0 : Nat → Int → Int → Bool → Option (Int × Int)
  | 0, _, _, _ => none
  | k + 1, x0, x1, x12 => if x12 = true then (some (0, 1)) else (if x0 > 9223372036854775808 then (some (0, 4)) else ((cleatref01_Power.f k x1).bind fun t104 => (cleatref24_Up.l0 k x0 t104)))
def cleatref24_Up.l0 : Nat → Int → Int → Option (Int × Int)
  | 0, _, _ => none
  | k + 1, x0, x6 => if x6 = 0 then (none) else (if (Int.tmod x0 x6) = 0 then (some (x0, 0)) else (cleatref24_Up.l0 k (IntKind.u64.wrap (x0 + 1)) x6))
end
def cleatref24_Up.f (k : Nat) (a0 : Int) (a1 : Int) : Option (Int × Int) := if a1 < 0 then (cleatref24_Up.j0 k a0 a1 true) else (cleatref24_Up.j0 k a0 a1 (decide (a1 > 12)))
theorem cleatref24_Up.mono_l : ∀ k, (∀ y0 y1 y2, LeO (cleatref24_Up.j0 k y0 y1 y2) (cleatref24_Up.j0 (k + 1) y0 y1 y2)) ∧ (∀ y0 y1, LeO (cleatref24_Up.l0 k y0 y1) (cleatref24_Up.l0 (k + 1) y0 y1))
  | 0 => ⟨fun _ _ _ r h => by simp [cleatref24_Up.j0] at h, fun _ _ r h => by simp [cleatref24_Up.l0] at h⟩
  | k + 1 => by
    obtain ⟨ih0, ih1⟩ := cleatref24_Up.mono_l k
    refine ⟨?_, ?_⟩
    · intro y0 y1 y2
      unfold cleatref24_Up.j0
      repeat' first
      | (with_reducible exact ih0 _ _ _)
      | (with_reducible exact ih1 _ _)
      | (with_reducible exact cleatref01_Power.mono _ _)
      | (with_reducible exact LeO.refl _)
      | (with_reducible exact LeO.none _)
      | (with_reducible refine LeO.ite ?_ ?_)
      | (with_reducible refine LeO.bind ?_ (fun _ => ?_))
      | exact ih0 _ _ _
      | exact ih1 _ _
      | exact cleatref01_Power.mono _ _
      | exact LeO.none _
      | refine LeO.ite ?_ ?_
      | refine LeO.bind ?_ (fun _ => ?_)
    · intro y0 y1
      unfold cleatref24_Up.l0
      repeat' first
      | (with_reducible exact ih0 _ _ _)
      | (with_reducible exact ih1 _ _)
      | (with_reducible exact cleatref01_Power.mono _ _)
      | (with_reducible exact LeO.refl _)
      | (with_reducible exact LeO.none _)
      | (with_reducible refine LeO.ite ?_ ?_)
      | (with_reducible refine LeO.bind ?_ (fun _ => ?_))
      | exact ih0 _ _ _
      | exact ih1 _ _
      | exact cleatref01_Power.mono _ _
      | exact LeO.none _
      | refine LeO.ite ?_ ?_
      | refine LeO.bind ?_ (fun _ => ?_)
theorem cleatref24_Up.mono : ∀ a0 a1 k, LeO (cleatref24_Up.f k a0 a1) (cleatref24_Up.f (k + 1) a0 a1) := by
  intro a0 a1 k
  obtain ⟨ih0, ih1⟩ := cleatref24_Up.mono_l k
  unfold cleatref24_Up.f
  repeat' first
      | (with_reducible exact ih0 _ _ _)
      | (with_reducible exact ih1 _ _)
      | (with_reducible exact cleatref01_Power.mono _ _)
      | (with_reducible exact LeO.refl _)
      | (with_reducible exact LeO.none _)
      | (with_reducible refine LeO.ite ?_ ?_)
      | (with_reducible refine LeO.bind ?_ (fun _ => ?_))
      | exact ih0 _ _ _
      | exact ih1 _ _
      | exact cleatref01_Power.mono _ _
      | exact LeO.none _
      | refine LeO.ite ?_ ?_
      | refine LeO.bind ?_ (fun _ => ?_)
set_option maxHeartbeats 8000000 in
set_option maxRecDepth 100000 in
theorem cleatref24_Up.calls (k : Nat) (a0 : Int) (a1 : Int) (r1 : Int) (r2 : Int) (w : World) (h : cleatref24_Up.f k a0 a1 = some (r1, r2)) :
    Calls Try.prog 11 #[.int .u64 a0, .int .i64 a1] w fun e w' => e = .returned (.tuple #[.int .u64 r1, .int .i64 r2]) ∧ Drawn0 w w' := by
  have H : (if a1 < 0 then (cleatref24_Up.j0 k a0 a1 true) else (cleatref24_Up.j0 k a0 a1 (decide (a1 > 12)))) = some (r1, r2) := h
  clear h
  have HC3 := Aside0.mk H
  clear H
  go_enter Try.func11, Try.ntmps11
  go_upto_region 1 with (fail)
  go_cut [12] (fun v12 wc => ∃ (kq : Nat) (x12_2 : Bool), v12 = .bool x12_2 ∧ Aside0 (cleatref24_Up.j0 kq a0 a1 x12_2 = some (r1, r2)) ∧ Aside0 (kq ≤ k) ∧ Drawn0 w wc)
  case first =>
    have H := HC3.out
    clear HC3
    by_cases c4 : a1 < 0
    · rw [if_pos c4] at H
      have c4b0 : decide (a1 < 0) = true := decide_eq_true c4
      clear c4
      (first | rw [c4b0] | (simp only [i64_w, i32_w]; rw [c4b0]) | skip)
      have H' := Aside0.mk H
      clear H
      go_wp2
      go_meet
      case rel => exact ⟨_, (true), (by first | rfl | (simp; done) | (simp [*]; done)), H', ⟨by first | omega | exact Nat.le_refl _⟩, by repeat (first | exact Drawn0.refl _ | apply Drawn0.step)⟩
    · rw [if_neg c4] at H
      have c4b0 : decide (a1 < 0) = false := decide_eq_false c4
      clear c4
      (first | rw [c4b0] | (simp only [i64_w, i32_w]; rw [c4b0]) | skip)
      have H' := Aside0.mk H
      clear H
      go_wp2
      go_meet
      case rel => exact ⟨_, (decide (a1 > 12)), (by first | rfl | (simp; done) | (simp [*]; done)), H', ⟨by first | omega | exact Nat.le_refl _⟩, by repeat (first | exact Drawn0.refl _ | apply Drawn0.step)⟩
  case rest =>
    clear HC3
    try clear c1
    try clear p2
    try clear c4
    try clear c4b0
    obtain ⟨kq, x12_2, rfl, HA, HJ2, ⟨mc2, rfl⟩⟩ := hcut
    cases kq with
    | zero => exact absurd HA.out (by simp [cleatref24_Up.j0])
    | succ kj2 =>
      have H := HA.out
      clear HA
      simp only [cleatref24_Up.j0] at H
      by_cases c5 : x12_2 = true
      · subst c5
        have H1 : (some (0, 1)) = some (r1, r2) := by rw [if_pos rfl] at H; exact H
        clear H
        have H := H1
        clear H1
        simp only [Option.some.injEq, Prod.mk.injEq] at H
        obtain ⟨rfl, rfl⟩ := H
        go_wp2
        go_ret2
        exact ⟨by first | rfl | (simp; done) | (simp [*]; done), by repeat (first | exact Drawn0.refl _ | apply Drawn0.step)⟩
      · replace c5 := Bool.eq_false_iff.mpr c5
        subst c5
        have H1 : (if a0 > 9223372036854775808 then (some (0, 4)) else ((cleatref01_Power.f kj2 a1).bind fun t104 => (cleatref24_Up.l0 kj2 a0 t104))) = some (r1, r2) := by rw [if_neg (show ¬ (false = true) by decide)] at H; exact H
        clear H
        have H := H1
        clear H1
        by_cases c6 : a0 > 9223372036854775808
        · rw [if_pos c6] at H
          have c6b0 : decide (9223372036854775808 < a0) = true := decide_eq_true c6
          clear c6
          simp only [Option.some.injEq, Prod.mk.injEq] at H
          obtain ⟨rfl, rfl⟩ := H
          go_wp2
          go_ret2
          exact ⟨by first | rfl | (simp; done) | (simp [*]; done), by repeat (first | exact Drawn0.refl _ | apply Drawn0.step)⟩
        · rw [if_neg c6] at H
          have c6b0 : decide (9223372036854775808 < a0) = false := decide_eq_false c6
          clear c6
          replace H := Option.bind_eq_some_iff.mp H
          obtain ⟨t104, A70, H⟩ := H
          replace H : (cleatref24_Up.l0 kj2 a0 t104) = some (r1, r2) := H
          have A7 := Aside0.mk A70
          clear A70
          have H' := Aside0.mk H
          clear H
          go_wp2_with (first | ((with_reducible refine gate_callee (f := 22) rfl ?_); refine goesL_ (some 16) rfl rfl Try.func22 (by kernel_rfl) rfl #[.int .i64 a1] rfl (by (try simp only [List.map_toArray, List.map_cons, List.map_nil]); first | done | rfl | (simp only [List.length_drop, List.length_take]; rfl)) ?_; (with_reducible refine (cleatref01_Power.calls kj2 a1 t104 _ A7.out).mono ?_); rintro e w' ⟨rfl, ⟨nd, rfl⟩⟩; refine ⟨_, rfl, ?_⟩))
          go_loopg [0] kj2 (fun kq v0 w' => ∃ (x0_2 : Int), v0 = .int .u64 x0_2 ∧ Aside0 (cleatref24_Up.l0 kq x0_2 t104 = some (r1, r2)) ∧ Aside0 (kq ≤ kj2) ∧ Drawn0 w w')
          case atStart => exact ⟨(a0), (by first | rfl | (simp; done) | (simp [*]; done)), H', ⟨Nat.le_refl _⟩, by repeat (first | exact Drawn0.refl _ | apply Drawn0.step)⟩
          case round =>
            clear H'
            try clear c1
            try clear c2
            try clear p2
            try clear c4
            try clear c4b0
            try clear c5
            try clear c6
            try clear c6b0
            try clear p2
            obtain ⟨x0_2, rfl, HA, HK2, ⟨m2, rfl⟩⟩ := hrel
            cases gk with
            | zero => exact absurd HA.out (by simp [cleatref24_Up.l0])
            | succ k2 =>
              have H := HA.out
              clear HA
              simp only [cleatref24_Up.l0] at H
              by_cases c8 : t104 = 0
              · rw [if_pos c8] at H
                exact absurd H (by simp)
              · rw [if_neg c8] at H
                have c8b0 : (t104 == 0) = false := beq_eq_false_iff_ne.mpr c8
                have c8b1 : (t104 != 0) = true := bne_iff_ne.mpr c8
                by_cases c9 : (Int.tmod x0_2 t104) = 0
                · rw [if_pos c9] at H
                  have c9b0 : ((Int.tmod x0_2 t104) == 0) = true := beq_iff_eq.mpr c9
                  have c9b1 : ((Int.tmod x0_2 t104) != 0) = false := bne_eq_false_iff_eq.mpr c9
                  clear c9
                  simp only [Option.some.injEq, Prod.mk.injEq] at H
                  obtain ⟨rfl, rfl⟩ := H
                  go_wp2
                  go_ret2
                  exact ⟨by first | rfl | (simp; done) | (simp [*]; done), by repeat (first | exact Drawn0.refl _ | apply Drawn0.step)⟩
                · rw [if_neg c9] at H
                  have c9b0 : ((Int.tmod x0_2 t104) == 0) = false := beq_eq_false_iff_ne.mpr c9
                  have c9b1 : ((Int.tmod x0_2 t104) != 0) = true := bne_iff_ne.mpr c9
                  have H' := Aside0.mk H
                  clear H
                  go_wp2
                  go_roundg k2
                  case measure => have := HJ2.out; have := HK2.out; omega
                  case rel => exact ⟨(IntKind.u64.wrap (x0_2 + 1)), (by first | rfl | (simp; done) | (simp [*]; done)), H', ⟨by have := HJ2.out; have := HK2.out; omega⟩, by repeat (first | exact Drawn0.refl _ | apply Drawn0.step)⟩

/-! ### place_Lay: function 12 -/
theorem run_make_0 {P : Program} (t e : TypeId) (z : Value) (bytes : Nat) (ht : P.underlying t = some (.slice e)) (hinfo : (P.info? e).map (fun i => (i.zero, i.size, i.bytes)) = some (some z, 1, bytes)) (hz1 : z.cells = #[z]) (m : Nat) (hn : bytes * m ≤ 281474976710656) (hm : m ≤ 9223372036854775807) :
    ∀ W : World, (Instr.makeSlice t (.int .i64 0) (.int .i64 (m : Int))).run P W = .ok (.slice (some ⟨W.heap.size, 0, none⟩) 0 m) (W.alloc (.cells (madeCells #[z] m) e)) := by
  intro W
  obtain ⟨i, hi, hzz⟩ := Option.map_eq_some_iff.1 hinfo
  simp only [Prod.mk.injEq] at hzz
  obtain ⟨hz, hs, hb⟩ := hzz
  have hb' : (i.bytes : Int) * (m : Int) ≤ 281474976710656 := by
    have h : ((i.bytes * m : Nat) : Int) ≤ 281474976710656 := by rw [hb]; omega
    rwa [Int.natCast_mul] at h
  have hr := run_make (P := P) W t e i z ht hi hz .i64 .i64 0 m (by omega) (by omega) hb' (by omega)
  simp only [Int.toNat_natCast, hs, Nat.mul_one, hz1] at hr
  exact hr
theorem place_Lay.next (k : Nat) (x f0 f1 t1 t2 : Int) (b : Nat) (w : World) (hb : w.heap[b]? = some (.cells #[.int .u64 x] 22 (0, 0))) (h : place_Up.f k x f1 = some (t1, t2)) :
    Calls Try.prog 23 #[.agg #[.int .i64 f0, .int .i64 f1], .pointer (some ⟨b, 0, none⟩)] w fun e w' => e = .returned (.tuple #[.int .u64 t1, .int .i64 t2]) ∧
      ∃ n, w' = ((w.alloc (.cells #[.int .i64 f0, .int .i64 f1] 34)).drewN n).setCell ⟨b, 0, none⟩ (.int .u64 (IntKind.u64.wrap (t1 + IntKind.u64.wrap f0))) := by
  have hb2 := blk_alloc hb (.cells #[.int .i64 f0, .int .i64 f1] 34)
  have hc := blk_cell hb2 0
  have hf := blk_frozen hb2 0
  simp at hc
  have H := Aside0.mk h
  clear h hb hb2
  have hu := Try.underlying34
  go_enter Try.func23, Try.ntmps23
  go_wp2_with (first | (go_at_call 10; refine (place_Up.calls k x f1 t1 t2 _ H.out).mono ?_; rintro e w' ⟨rfl, ⟨nd, rfl⟩⟩))
  go_ret2
  exact ⟨rfl, nd, rfl⟩
/-- A block that may not be laid. -/
def lBad (x : S34) : Bool := decide (x.f0 < 0) || (decide (16384 < x.f0) || (decide (x.f1 < 0) || decide (12 < x.f1)))
mutual
def place_Lay.l0 : Nat → List (S34) → Int → Int → Option (List Int × Int × Int)
  | 0, _, _, _ => none
  | k + 1, x0, x1, i => if i < (x0.length : Int) then (if 0 ≤ i then (if lBad (rd_T34 x0 i) = true then some ([], 0, 1) else place_Lay.l0 k x0 x1 (wrap64 (i + 1))) else none) else (if (x0.length : Int) > 256 then some ([], 0, 2) else (if x1 > 4611686018427387904 then some ([], 0, 4) else place_Lay.l1 k x0 x1 [] 0))
def place_Lay.l1 : Nat → List (S34) → Int → List Int → Int → Option (List Int × Int × Int)
  | 0, _, _, _, _ => none
  | k + 1, x0, x9, out, i => if i < (x0.length : Int) then (if 0 ≤ i then ((place_Up.f k x9 (rd_T34 x0 i).f1).bind fun bt => (if bt.2 = 0 then (if out.length < 17592186044416 then place_Lay.l1 k x0 (IntKind.u64.wrap (bt.1 + IntKind.u64.wrap (rd_T34 x0 i).f0)) (out ++ [bt.1]) (wrap64 (i + 1)) else none) else some ([], 0, bt.2))) else none) else some (out, x9, 0)
end
def place_Lay.f (k : Nat) (l0 : List (S34)) (a1 : Int) : Option (List Int × Int × Int) := place_Lay.l0 k l0 a1 0
theorem place_Lay.mono_l : ∀ k, (∀ y0 y1 y2, LeO (place_Lay.l0 k y0 y1 y2) (place_Lay.l0 (k + 1) y0 y1 y2)) ∧ (∀ y0 y1 y2 y3, LeO (place_Lay.l1 k y0 y1 y2 y3) (place_Lay.l1 (k + 1) y0 y1 y2 y3))
  | 0 => ⟨fun _ _ _ r h => by simp [place_Lay.l0] at h, fun _ _ _ _ r h => by simp [place_Lay.l1] at h⟩
  | k + 1 => by
    obtain ⟨ih0, ih1⟩ := place_Lay.mono_l k
    refine ⟨?_, ?_⟩
    · intro y0 y1 y2
      unfold place_Lay.l0
      exact LeO.ite (LeO.ite (LeO.ite (LeO.refl _) (ih0 _ _ _)) (LeO.refl _)) (LeO.ite (LeO.refl _) (LeO.ite (LeO.refl _) (ih1 _ _ _ _)))
    · intro y0 y1 y2 y3
      unfold place_Lay.l1
      exact LeO.ite (LeO.ite (LeO.bind (place_Up.mono _ _ _) (fun _ => LeO.ite (LeO.ite (ih1 _ _ _ _) (LeO.refl _)) (LeO.refl _))) (LeO.refl _)) (LeO.refl _)
theorem place_Lay.mono : ∀ a0 a1 k, LeO (place_Lay.f k a0 a1) (place_Lay.f (k + 1) a0 a1) := fun a0 a1 k => (place_Lay.mono_l k).1 a0 a1 0
theorem lBad_true {x : S34} (h : lBad x = true) : decide (x.f0 < 0) = true ∨ (decide (x.f0 < 0) = false ∧ decide (16384 < x.f0) = true) ∨ (decide (x.f0 < 0) = false ∧ decide (16384 < x.f0) = false ∧ decide (x.f1 < 0) = true) ∨ (decide (x.f0 < 0) = false ∧ decide (16384 < x.f0) = false ∧ decide (x.f1 < 0) = false ∧ decide (12 < x.f1) = true) := by
  unfold lBad at h
  cases h1 : decide (x.f0 < 0) <;> cases h2 : decide (16384 < x.f0) <;> cases h3 : decide (x.f1 < 0) <;> cases h4 : decide (12 < x.f1) <;> simp_all
theorem lBad_false {x : S34} (h : lBad x = false) : decide (x.f0 < 0) = false ∧ decide (16384 < x.f0) = false ∧ decide (x.f1 < 0) = false ∧ decide (12 < x.f1) = false := by
  unfold lBad at h
  cases h1 : decide (x.f0 < 0) <;> cases h2 : decide (16384 < x.f0) <;> cases h3 : decide (x.f1 < 0) <;> cases h4 : decide (12 < x.f1) <;> simp_all
set_option maxHeartbeats 8000000 in
set_option maxRecDepth 100000 in
theorem place_Lay.calls (k : Nat) (A0 : Option Addr) (c0 : Nat) (l0 : List (S34)) (a1 : Int) (r1 : List Int) (r2 : Int) (r3 : Int) (w : World) (hr0 : Kd.C k34 w A0 l0.length l0) (hc0 : l0.length ≤ c0) (h : place_Lay.f k l0 a1 = some (r1, r2, r3)) :
    Calls Try.prog 12 #[.slice A0 l0.length c0, .int .u64 a1] w fun e w' => ∃ v0_ : Value, e = .returned (.tuple #[v0_, .int .u64 r2, .int .i64 r3]) ∧ Kd.R (Kd.int .u64) 22 w' w.heap.size (fun _ => True) v0_ r1 ∧ Below w.heap.size w w' := by
  have HR0 := Aside0.mk hr0
  have HC0 := Aside0.mk hc0
  have hlen63 : l0.length ≤ 9223372036854775807 := hr0.2.1
  clear hr0 hc0
  have hu34 := Try.underlying34
  have HB := Aside0.mk (Below.refl w.heap.size w)
  have H : (place_Lay.l0 k l0 a1 0) = some (r1, r2, r3) := h
  clear h
  have H' := Aside0.mk H
  clear H
  go_enter Try.func12, Try.ntmps12
  go_wp2
  go_loopg [18] k (fun kq v18 w' => ∃ (x18 : Int), v18 = .int .i64 x18 ∧ Aside0 (place_Lay.l0 kq l0 a1 x18 = some (r1, r2, r3)) ∧ Aside0 (kq ≤ k) ∧ Aside0 (Below w.heap.size w w'))
  case atStart => exact ⟨0, rfl, H', ⟨Nat.le_refl _⟩, HB⟩
  case round =>
    clear H' HB
    obtain ⟨x18, rfl, HA, HK1, HB⟩ := hrel
    cases gk with
    | zero => exact absurd HA.out (by simp [place_Lay.l0])
    | succ k1 =>
      have H := HA.out
      clear HA
      simp only [place_Lay.l0] at H
      by_cases c3 : x18 < (l0.length : Int)
      · rw [if_pos c3] at H
        have c3b0 : decide (x18 < (l0.length : Int)) = true := decide_eq_true c3
        by_cases c4 : 0 ≤ x18
        · rw [if_pos c4] at H
          have c4b0 : decide (0 ≤ x18) = true := decide_eq_true c4
          obtain ⟨ad, e107, hx0, hx1⟩ := at_T34 HR0.out x18 c4 c3
          cases e107
          replace hx0 := (HB.out.cell (World.block_lt_of_cell? w _ hx0)).trans hx0
          replace hx1 := (HB.out.cell (World.block_lt_of_cell? w _ hx1)).trans hx1
          have p107 := eq_true c4
          have q107 := eq_true c3
          clear c3 c4
          generalize rd_T34 l0 x18 = y at *
          cases hbad : lBad y
          · rw [hbad, if_neg (by simp)] at H
            obtain ⟨b1, b2, b3, b4⟩ := lBad_false hbad
            clear hbad
            have HN := Aside0.mk H
            clear H
            go_wp2
            go_roundg k1
            case measure => have := HK1.out; omega
            case rel => exact ⟨_, rfl, HN, ⟨by have := HK1.out; omega⟩, ⟨by repeat (first | (with_reducible first | exact HB.out | apply below_alloc | apply pw_below_drewN | apply below_drew1) | exact HB.out)⟩⟩
          · rw [hbad, if_pos rfl] at H
            simp only [Option.some.injEq, Prod.mk.injEq] at H
            obtain ⟨rfl, rfl, rfl⟩ := H
            rcases lBad_true hbad with b1 | ⟨b1, b2⟩ | ⟨b1, b2, b3⟩ | ⟨b1, b2, b3, b4⟩
            all_goals
              clear hbad
              go_wp2
              go_ret3
              exact ⟨_, rfl, Kd.R_nil _ _ _ _ _, by repeat (first | (with_reducible first | exact HB.out | apply below_alloc | apply pw_below_drewN | apply below_drew1) | exact HB.out)⟩
        · rw [if_neg c4] at H
          exact absurd H (by simp)
      · rw [if_neg c3] at H
        have c3b0 : decide (x18 < (l0.length : Int)) = false := decide_eq_false c3
        clear c3
        by_cases c5 : (l0.length : Int) > 256
        · rw [if_pos c5] at H
          have c5b : decide (256 < (l0.length : Int)) = true := decide_eq_true c5
          have c5c : decide (256 < l0.length) = true := decide_eq_true (by omega)
          clear c5
          simp only [Option.some.injEq, Prod.mk.injEq] at H
          obtain ⟨rfl, rfl, rfl⟩ := H
          go_wp2
          go_ret3
          exact ⟨_, rfl, Kd.R_nil _ _ _ _ _, HB.out⟩
        · rw [if_neg c5] at H
          have c5b : decide (256 < (l0.length : Int)) = false := decide_eq_false c5
          have c5c : decide (256 < l0.length) = false := decide_eq_false (by omega)
          by_cases c6 : a1 > 4611686018427387904
          · rw [if_pos c6] at H
            have c6b : decide (4611686018427387904 < a1) = true := decide_eq_true c6
            clear c6 c5
            simp only [Option.some.injEq, Prod.mk.injEq] at H
            obtain ⟨rfl, rfl, rfl⟩ := H
            go_wp2
            go_ret3
            exact ⟨_, rfl, Kd.R_nil _ _ _ _ _, HB.out⟩
          · rw [if_neg c6] at H
            have c6b : decide (4611686018427387904 < a1) = false := decide_eq_false c6
            clear c6
            have hmk := run_make_0 (P := Try.prog) 30 22 (.int .u64 0) 8 Try.underlying30 (by kernel_rfl) rfl l0.length (by omega) (by omega)
            have HN := Aside0.mk H
            clear H c5
            go_wp2
            obtain ⟨gb, hgb⟩ : ∃ g_ : Nat, wr.heap.size = g_ := ⟨_, rfl⟩
            have hstart : ((wr.alloc (.cells #[.int .u64 a1] 22)).alloc (.cells (madeCells #[.int .u64 0] l0.length) 22)).heap[gb]? = some (.cells #[.int .u64 a1] 22 (0, 0)) := by
              rw [← hgb]; exact blk_alloc (blk_new wr _) _
            have hbe : Below w.heap.size w ((wr.alloc (.cells #[.int .u64 a1] 22)).alloc (.cells (madeCells #[.int .u64 0] l0.length) 22)) := below_alloc (below_alloc HB.out _) _
            have hown : Kd.R (Kd.int .u64) 22 ((wr.alloc (.cells #[.int .u64 a1] 22)).alloc (.cells (madeCells #[.int .u64 0] l0.length) 22)) w.heap.size (fun k => k ≠ gb) (.slice (some ⟨(wr.alloc (.cells #[.int .u64 a1] 22)).heap.size, 0, none⟩) 0 l0.length) ([] : List Int) := by
              refine Kd.R_of_own (World.ownsRow_made _ _ l0.length (Nat.le_trans HB.out.size (by simp)) hlen63 (by simp [size_madeCells])) ?_
              intro k hk
              simp [Value.ownBlock] at hk
              omega
            rw [show (wr.alloc (.cells #[.int .u64 a1] 22)).heap.size = wr.heap.size + 1 by simp] at hown
            have Hgw := Aside0.mk (show w.heap.size ≤ gb by rw [← hgb]; exact HB.out.size)
            rw [hgb] at *
            have HBK := Aside0.mk hstart
            have HBE := Aside0.mk hbe
            have HOW := Aside0.mk hown
            clear hstart hbe hown hmk
            go_loopg [11, 53] k1 (fun kq v11 v53 w' => ∃ (out : List Int) (x i : Int), v53 = .int .i64 i ∧ Aside0 (w'.heap[gb]? = some (.cells #[.int .u64 x] 22 (0, 0))) ∧ Aside0 (Kd.R (Kd.int .u64) 22 w' w.heap.size (fun k => k ≠ gb) v11 out) ∧ Aside0 (place_Lay.l1 kq l0 x out i = some (r1, r2, r3)) ∧ Aside0 (kq ≤ k1) ∧ Aside0 (Below w.heap.size w w'))
            case atStart => exact ⟨[], a1, 0, rfl, HBK, HOW, HN, ⟨Nat.le_refl _⟩, HBE⟩
            case round =>
              clear HBK HBE HOW HN HB
              obtain ⟨out, x, i, rfl, HBK, HOW, HA, HK2, HB⟩ := hrel
              cases gk with
              | zero => exact absurd HA.out (by simp [place_Lay.l1])
              | succ k2 =>
                have H := HA.out
                clear HA
                simp only [place_Lay.l1] at H
                by_cases c7 : i < (l0.length : Int)
                · rw [if_pos c7] at H
                  have c7b : decide (i < (l0.length : Int)) = true := decide_eq_true c7
                  by_cases c8 : 0 ≤ i
                  · rw [if_pos c8] at H
                    have c8b : decide (0 ≤ i) = true := decide_eq_true c8
                    obtain ⟨ad, e107, hx0, hx1⟩ := at_T34 HR0.out i c8 c7
                    cases e107
                    replace hx0 := (HB.out.cell (World.block_lt_of_cell? w _ hx0)).trans hx0
                    replace hx1 := (HB.out.cell (World.block_lt_of_cell? w _ hx1)).trans hx1
                    have p107 := eq_true c8
                    have q107 := eq_true c7
                    clear c7 c8
                    generalize rd_T34 l0 i = y at *
                    replace H := Option.bind_eq_some_iff.mp H
                    obtain ⟨⟨t1, t2⟩, hU, H⟩ := H
                    have HU := Aside0.mk hU
                    clear hU
                    have hgl := blk_lt HBK.out
                    have hgw : w.heap.size ≤ gb := Hgw.out
                    have HX := Aside0.mk (blk_alloc HBK.out (.cells #[.int .i64 y.f0, .int .i64 y.f1] 34))
                    by_cases c9 : t2 = 0
                    · rw [if_pos c9] at H
                      have c9b : (t2 != 0) = false := bne_eq_false_iff_eq.mpr c9
                      clear c9
                      by_cases c10 : out.length < 17592186044416
                      · rw [if_pos c10] at H
                        have LM := Aside0.mk c10
                        have HN := Aside0.mk H
                        clear H c10
                        go_wp2_with (first | (go_at_call 23; refine (place_Lay.next k2 x y.f0 y.f1 t1 t2 gb _ HX.out HU.out).mono ?_; rintro e w' ⟨rfl, ⟨nd, rfl⟩⟩) | ((with_reducible refine gate_builtin (b := .append) (xs := #[.tmp 66, .tmp 68]) rfl ?_); at_builtin; refine Kd.R_append (Kd.int .u64) (w0 := w) w.heap.size rfl (.tmp 66) (.tmp 68) 30 22 (.int .u64 0) 8 rfl Try.underlying30 info22 rfl (by decide) (by omega) u11 out t1 [.int .u64 t1] (fun k => k ≠ gb) (fun _ => False) rfl ?ev ?aP (fun _ hk => hk.elim) ?aF ?aO ?aB ?aS ?aL ?_; (case ev => (refine Eq.trans (b := Value.slice (some ⟨_, 0, none⟩) 1 1) rfl ?_; simp)); (case aP => exact rfl); (case aB => exact ((pw_below_drewN (below_alloc (below_alloc HB.out _) _) _).setCell hgw _)); (case aF => exact (fun k_ hk_ => by simp at hk_; omega)); (case aO => exact (Kd.R_far (p := ⟨gb, 0, none⟩) (Kd.R_drewN (Kd.R_alloc (Kd.R_alloc HOW.out _) _) _) (fun _ hk => hk) _)); (case aS => exact (below_size ((pw_below_drewN (below_alloc (below_alloc HB.out _) _) _).setCell hgw _))); (case aL => have := LM.out; omega); intro v115 w15 ho hb hg hat; have HO15 := Aside0.mk ho; have HB15 := Aside0.mk hb; have HK15 := Aside0.mk (blk_grown (blk_put (blk_drewN (blk_alloc HX.out _) nd) 0 _ rfl) hg (fun e_ => HOW.out.1 gb e_.symm rfl)); clear ho hb hg hat))
                        go_roundg k2
                        case measure => have := HK2.out; omega
                        case rel => exact ⟨_, _, _, rfl, HK15, HO15, HN, ⟨by have := HK2.out; omega⟩, HB15⟩
                      · rw [if_neg c10] at H
                        exact absurd H (by simp)
                    · rw [if_neg c9] at H
                      have c9b : (t2 != 0) = true := bne_iff_ne.mpr c9
                      clear c9
                      simp only [Option.some.injEq, Prod.mk.injEq] at H
                      obtain ⟨rfl, rfl, rfl⟩ := H
                      go_wp2_with (first | (go_at_call 23; refine (place_Lay.next k2 x y.f0 y.f1 t1 t2 gb _ HX.out HU.out).mono ?_; rintro e w' ⟨rfl, ⟨nd, rfl⟩⟩))
                      go_ret3
                      exact ⟨_, rfl, Kd.R_nil _ _ _ _ _, (pw_below_drewN (below_alloc (below_alloc HB.out _) _) _).setCell hgw _⟩
                  · rw [if_neg c8] at H
                    exact absurd H (by simp)
                · rw [if_neg c7] at H
                  have c7b : decide (i < (l0.length : Int)) = false := decide_eq_false c7
                  clear c7
                  simp only [Option.some.injEq, Prod.mk.injEq] at H
                  obtain ⟨rfl, rfl, rfl⟩ := H
                  have hc := blk_cell HBK.out 0
                  simp at hc
                  go_wp2
                  go_quiet (fail)
                  go_wp2
                  go_ret3
                  exact ⟨_, rfl, Kd.R_mono (Kd.R_drewN HOW.out _) (fun _ _ => trivial), pw_below_drewN HB.out _⟩

end Go.Proofs.Ytdckhlihhbobhaa.P
