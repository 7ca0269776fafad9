-- printed by wip/tools/myprint.py out of the translation. Not trusted: Lean checks it.
import Derived.Test.YtemenenkefcebaaDoorPx0
namespace Go.Proofs.YtemenenkefcebaaDoor.P
open Go.RowKit Go.Proofs.YtemenenkefcebaaDoorW.PrintWords Go.Proofs.YtemenenkefcebaaDoorW.PrintLast Go.Proofs.YtemenenkefcebaaDoorW.PrintMore
attribute [local go_sem] max2_int min2_int max_two min_two max_three min_three max_four min_four   -- for this text's walks alone
set_option linter.unusedVariables false
set_option linter.unusedSimpArgs false

/-! ### inst_Shape: function 16 -/
def inst_Shape.f (a0 : Int) : Option Int := some (if 1 ≤ a0 ∧ a0 ≤ 39 then shapesL.getD a0.toNat 0 else 0)
theorem inst_Shape.calls (a0 : Int) (r : Int) (w : World) (h : inst_Shape.f a0 = some r) (HT : Aside0 (Tabs w)) :
    Calls Tryd.prog 16 #[.int .i64 a0] w fun e w' => e = .returned (.int .i64 r) ∧ Drawn0 w w' := by
  obtain rfl := Option.some.inj h
  clear h
  by_cases h1 : a0 < 1
  · rw [if_neg (by omega)]
    go_enter Tryd.func16, Tryd.ntmps16
    go_wp2
    go_ret
    exact ⟨rfl, Drawn0.refl _⟩
  · by_cases h2 : 39 < a0
    · rw [if_neg (by omega)]
      go_enter Tryd.func16, Tryd.ntmps16
      go_wp2
      go_ret
      exact ⟨rfl, Drawn0.refl _⟩
    · rw [if_pos (by omega)]
      have hc := HT.out.shapes a0.toNat (by omega)
      have p0 : 0 ≤ a0 := by omega
      generalize shapesL.getD a0.toNat 0 = r at *
      go_enter Tryd.func16, Tryd.ntmps16
      go_wp2
      go_ret
      exact ⟨rfl, Drawn0.refl _⟩

/-! ### inst_has: function 23 -/
mutual
def inst_has.j0 : Nat → Int → Bool → Option (Bool × Bool × Bool × Bool)
 | 0, _, _ => none
 | k + 1, x6, x7 => if x7 = true then (some (true, false, false, false)) else (if x6 = 2 then (inst_has.j1 k x6 (x6 == 2)) else (if x6 = 3 then (inst_has.j1 k x6 (x6 == 3)) else (if x6 = 7 then (inst_has.j1 k x6 (x6 == 7)) else (inst_has.j1 k x6 (x6 == 8)))))
def inst_has.j1 : Nat → Int → Bool → Option (Bool × Bool × Bool × Bool)
 | 0, _, _ => none
 | k + 1, x6, x11 => if x11 = true then (some (true, true, false, false)) else (if x6 = 4 then (inst_has.j2 k x6 (x6 == 4)) else (if x6 = 5 then (inst_has.j2 k x6 (x6 == 5)) else (inst_has.j2 k x6 (x6 == 16))))
def inst_has.j2 : Nat → Int → Bool → Option (Bool × Bool × Bool × Bool)
 | 0, _, _ => none
 | k + 1, x6, x16 => if x16 = true then (some (true, true, true, false)) else (if x6 = 6 then (some (true, true, true, true)) else (if x6 = 13 then (some (false, true, false, false)) else (some (false, false, false, false))))
end
def inst_has.f (k : Nat) (a0 : Int) : Option (Bool × Bool × Bool × Bool) := if a0 = 1 then (inst_has.j0 k a0 (a0 == 1)) else (if a0 = 9 then (inst_has.j0 k a0 (a0 == 9)) else (inst_has.j0 k a0 (a0 == 10)))
theorem inst_has.mono_l : ∀ k, (∀ y0 y1, LeO (inst_has.j0 k y0 y1) (inst_has.j0 (k + 1) y0 y1)) ∧ (∀ y0 y1, LeO (inst_has.j1 k y0 y1) (inst_has.j1 (k + 1) y0 y1)) ∧ (∀ y0 y1, LeO (inst_has.j2 k y0 y1) (inst_has.j2 (k + 1) y0 y1))
 | 0 => ⟨fun _ _ r h => by simp [inst_has.j0] at h, fun _ _ r h => by simp [inst_has.j1] at h, fun _ _ r h => by simp [inst_has.j2] at h⟩
 | k + 1 => by
  obtain ⟨ih0, ih1, ih2⟩ := inst_has.mono_l k
  refine ⟨?_, ?_, ?_⟩
  ·intro y0 y1
   unfold inst_has.j0
   repeat' first
   | (with_reducible exact ih0 _ _)
   | (with_reducible exact ih1 _ _)
   | (with_reducible exact ih2 _ _)
   | (with_reducible exact LeO.refl _)
   | (with_reducible exact LeO.none _)
   | (with_reducible refine LeO.ite ?_ ?_)
   | (with_reducible refine LeO.bind ?_ (fun _ => ?_))
   | exact ih0 _ _
   | exact ih1 _ _
   | exact ih2 _ _
   | exact LeO.none _
   | refine LeO.ite ?_ ?_
   | refine LeO.bind ?_ (fun _ => ?_)
  ·intro y0 y1
   unfold inst_has.j1
   repeat' first
   | (with_reducible exact ih0 _ _)
   | (with_reducible exact ih1 _ _)
   | (with_reducible exact ih2 _ _)
   | (with_reducible exact LeO.refl _)
   | (with_reducible exact LeO.none _)
   | (with_reducible refine LeO.ite ?_ ?_)
   | (with_reducible refine LeO.bind ?_ (fun _ => ?_))
   | exact ih0 _ _
   | exact ih1 _ _
   | exact ih2 _ _
   | exact LeO.none _
   | refine LeO.ite ?_ ?_
   | refine LeO.bind ?_ (fun _ => ?_)
  ·intro y0 y1
   unfold inst_has.j2
   repeat' first
   | (with_reducible exact ih0 _ _)
   | (with_reducible exact ih1 _ _)
   | (with_reducible exact ih2 _ _)
   | (with_reducible exact LeO.refl _)
   | (with_reducible exact LeO.none _)
   | (with_reducible refine LeO.ite ?_ ?_)
   | (with_reducible refine LeO.bind ?_ (fun _ => ?_))
   | exact ih0 _ _
   | exact ih1 _ _
   | exact ih2 _ _
   | exact LeO.none _
   | refine LeO.ite ?_ ?_
   | refine LeO.bind ?_ (fun _ => ?_)
theorem inst_has.mono : ∀ a0 k, LeO (inst_has.f k a0) (inst_has.f (k + 1) a0) := by
 intro a0 k
 obtain ⟨ih0, ih1, ih2⟩ := inst_has.mono_l k
 unfold inst_has.f
 repeat' first
   | (with_reducible exact ih0 _ _)
   | (with_reducible exact ih1 _ _)
   | (with_reducible exact ih2 _ _)
   | (with_reducible exact LeO.refl _)
   | (with_reducible exact LeO.none _)
   | (with_reducible refine LeO.ite ?_ ?_)
   | (with_reducible refine LeO.bind ?_ (fun _ => ?_))
   | exact ih0 _ _
   | exact ih1 _ _
   | exact ih2 _ _
   | exact LeO.none _
   | refine LeO.ite ?_ ?_
   | refine LeO.bind ?_ (fun _ => ?_)
set_option maxHeartbeats 8000000 in
set_option maxRecDepth 100000 in
theorem inst_has.calls (k : Nat) (a0 : Int) (r1 : Bool) (r2 : Bool) (r3 : Bool) (r4 : Bool) (w : World) (h : inst_has.f k a0 = some (r1, r2, r3, r4)) :
  Calls Tryd.prog 23 #[.int .i64 a0] w fun e w' => e = .returned (.tuple #[.bool r1, .bool r2, .bool r3, .bool r4]) ∧ Drawn0 w w' := by
 have H : (if a0 = 1 then (inst_has.j0 k a0 (a0 == 1)) else (if a0 = 9 then (inst_has.j0 k a0 (a0 == 9)) else (inst_has.j0 k a0 (a0 == 10)))) = some (r1, r2, r3, r4) := h
 clear h
 have HC2 := Aside0.mk H
 clear H
 go_enter Tryd.func23, Tryd.ntmps23
 go_upto_if 7 with (fail)
 go_cut [7] (fun v7 wc => ∃ (kq : Nat) (x7_1 : Bool), v7 = .bool x7_1 ∧ Aside0 (inst_has.j0 kq a0 x7_1 = some (r1, r2, r3, r4)) ∧ Aside0 (kq ≤ k) ∧ Drawn0 w wc)
 case first =>
  have H := HC2.out
  clear HC2
  by_cases c3 : a0 = 1
  ·rw [if_pos c3] at H
   have c3b0 : (a0 == 1) = true := beq_iff_eq.mpr c3
   have c3b1 : (a0 != 1) = false := bne_eq_false_iff_eq.mpr c3
   clear c3
   (first | rw [c3b0] | (simp only [i64_w, i32_w]; rw [c3b0]) | skip)
   have H' := Aside0.mk H
   clear H
   go_wp2
   go_meet
   case rel => exact ⟨_, ((a0 == 1)), (by first | rfl | (simp; done) | (simp [*]; done)), H', ⟨by first | omega | exact Nat.le_refl _⟩, by repeat (first | exact Drawn0.refl _ | apply Drawn0.step)⟩
  ·rw [if_neg c3] at H
   have c3b0 : (a0 == 1) = false := beq_eq_false_iff_ne.mpr c3
   have c3b1 : (a0 != 1) = true := bne_iff_ne.mpr c3
   (first | rw [c3b0] | (simp only [i64_w, i32_w]; rw [c3b0]) | skip)
   by_cases c4 : a0 = 9
   ·rw [if_pos c4] at H
    have c4b0 : (a0 == 9) = true := beq_iff_eq.mpr c4
    have c4b1 : (a0 != 9) = false := bne_eq_false_iff_eq.mpr c4
    clear c4
    have H' := Aside0.mk H
    clear H
    go_wp2
    go_meet
    case rel => exact ⟨_, ((a0 == 9)), (by first | rfl | (simp; done) | (simp [*]; done)), H', ⟨by first | omega | exact Nat.le_refl _⟩, by repeat (first | exact Drawn0.refl _ | apply Drawn0.step)⟩
   ·rw [if_neg c4] at H
    have c4b0 : (a0 == 9) = false := beq_eq_false_iff_ne.mpr c4
    have c4b1 : (a0 != 9) = true := bne_iff_ne.mpr c4
    have H' := Aside0.mk H
    clear H
    go_wp2
    go_meet
    case rel => exact ⟨_, ((a0 == 10)), (by first | rfl | (simp; done) | (simp [*]; done)), H', ⟨by first | omega | exact Nat.le_refl _⟩, by repeat (first | exact Drawn0.refl _ | apply Drawn0.step)⟩
 case rest =>
  clear HC2
  try clear c2
  try clear p2
  try clear c3
  try clear c3b0
  try clear c3b1
  try clear c4
  try clear c4b0
  try clear c4b1
  obtain ⟨kq, x7_1, rfl, HA, HJ1, ⟨mc1, rfl⟩⟩ := hcut
  cases kq with
  | zero => exact absurd HA.out (by simp [inst_has.j0])
  | succ kj1 =>
   have H := HA.out
   clear HA
   simp only [inst_has.j0] at H
   by_cases c5 : x7_1 = true
   ·subst c5
    rw [if_pos rfl] at H
    simp only [Option.some.injEq, Prod.mk.injEq] at H
    obtain ⟨rfl, rfl, rfl, rfl⟩ := H
    go_wp2
    refine bodyPost_ret (results_list (rs := [.tmp 2, .tmp 3, .tmp 4, .tmp 5]) rfl (by simp) (.tmp (.tmp (.tmp (.tmp .nil))))) rfl ?_
    exact ⟨by first | rfl | (simp; done) | (simp [*]; done), by repeat (first | exact Drawn0.refl _ | apply Drawn0.step)⟩
   ·replace c5 := Bool.eq_false_iff.mpr c5
    subst c5
    rw [if_neg (show ¬ (false = true) by decide)] at H
    have HC6 := Aside0.mk H
    clear H
    go_upto_if 11 with (fail)
    go_cut [11] (fun v11 wc => ∃ (kq : Nat) (x11_5 : Bool), v11 = .bool x11_5 ∧ Aside0 (inst_has.j1 kq a0 x11_5 = some (r1, r2, r3, r4)) ∧ Aside0 (kq ≤ kj1) ∧ Drawn0 w wc)
    case first =>
     have H := HC6.out
     clear HC6
     by_cases c7 : a0 = 2
     ·rw [if_pos c7] at H
      have c7b0 : (a0 == 2) = true := beq_iff_eq.mpr c7
      have c7b1 : (a0 != 2) = false := bne_eq_false_iff_eq.mpr c7
      clear c7
      (first | rw [c7b0] | (simp only [i64_w, i32_w]; rw [c7b0]) | skip)
      have H' := Aside0.mk H
      clear H
      go_wp2
      go_meet
      case rel => exact ⟨_, ((a0 == 2)), (by first | rfl | (simp; done) | (simp [*]; done)), H', ⟨by have := HJ1.out; first | omega | exact Nat.le_refl _⟩, by repeat (first | exact Drawn0.refl _ | apply Drawn0.step)⟩
     ·rw [if_neg c7] at H
      have c7b0 : (a0 == 2) = false := beq_eq_false_iff_ne.mpr c7
      have c7b1 : (a0 != 2) = true := bne_iff_ne.mpr c7
      (first | rw [c7b0] | (simp only [i64_w, i32_w]; rw [c7b0]) | skip)
      by_cases c8 : a0 = 3
      ·rw [if_pos c8] at H
       have c8b0 : (a0 == 3) = true := beq_iff_eq.mpr c8
       have c8b1 : (a0 != 3) = false := bne_eq_false_iff_eq.mpr c8
       clear c8
       have H' := Aside0.mk H
       clear H
       go_wp2
       go_meet
       case rel => exact ⟨_, ((a0 == 3)), (by first | rfl | (simp; done) | (simp [*]; done)), H', ⟨by have := HJ1.out; first | omega | exact Nat.le_refl _⟩, by repeat (first | exact Drawn0.refl _ | apply Drawn0.step)⟩
      ·rw [if_neg c8] at H
       have c8b0 : (a0 == 3) = false := beq_eq_false_iff_ne.mpr c8
       have c8b1 : (a0 != 3) = true := bne_iff_ne.mpr c8
       by_cases c9 : a0 = 7
       ·rw [if_pos c9] at H
        have c9b0 : (a0 == 7) = true := beq_iff_eq.mpr c9
        have c9b1 : (a0 != 7) = false := bne_eq_false_iff_eq.mpr c9
        clear c9
        have H' := Aside0.mk H
        clear H
        go_wp2
        go_meet
        case rel => exact ⟨_, ((a0 == 7)), (by first | rfl | (simp; done) | (simp [*]; done)), H', ⟨by have := HJ1.out; first | omega | exact Nat.le_refl _⟩, by repeat (first | exact Drawn0.refl _ | apply Drawn0.step)⟩
       ·rw [if_neg c9] at H
        have c9b0 : (a0 == 7) = false := beq_eq_false_iff_ne.mpr c9
        have c9b1 : (a0 != 7) = true := bne_iff_ne.mpr c9
        have H' := Aside0.mk H
        clear H
        go_wp2
        go_meet
        case rel => exact ⟨_, ((a0 == 8)), (by first | rfl | (simp; done) | (simp [*]; done)), H', ⟨by have := HJ1.out; first | omega | exact Nat.le_refl _⟩, by repeat (first | exact Drawn0.refl _ | apply Drawn0.step)⟩
    case rest =>
     clear HC6
     try clear c1
     try clear c2
     try clear p2
     try clear c3
     try clear c3b0
     try clear c3b1
     try clear c4
     try clear c4b0
     try clear c4b1
     try clear c5
     try clear c7
     try clear c7b0
     try clear c7b1
     try clear c8
     try clear c8b0
     try clear c8b1
     try clear c9
     try clear c9b0
     try clear c9b1
     try clear p2
     obtain ⟨kq, x11_5, rfl, HA, HJ5, ⟨mc5, rfl⟩⟩ := hcut
     cases kq with
     | zero => exact absurd HA.out (by simp [inst_has.j1])
     | succ kj5 =>
      have H := HA.out
      clear HA
      simp only [inst_has.j1] at H
      by_cases c10 : x11_5 = true
      ·subst c10
       rw [if_pos rfl] at H
       simp only [Option.some.injEq, Prod.mk.injEq] at H
       obtain ⟨rfl, rfl, rfl, rfl⟩ := H
       go_wp2
       refine bodyPost_ret (results_list (rs := [.tmp 2, .tmp 3, .tmp 4, .tmp 5]) rfl (by simp) (.tmp (.tmp (.tmp (.tmp .nil))))) rfl ?_
       exact ⟨by first | rfl | (simp; done) | (simp [*]; done), by repeat (first | exact Drawn0.refl _ | apply Drawn0.step)⟩
      ·replace c10 := Bool.eq_false_iff.mpr c10
       subst c10
       rw [if_neg (show ¬ (false = true) by decide)] at H
       have HC11 := Aside0.mk H
       clear H
       go_upto_if 16 with (fail)
       go_cut [16] (fun v16 wc => ∃ (kq : Nat) (x16_10 : Bool), v16 = .bool x16_10 ∧ Aside0 (inst_has.j2 kq a0 x16_10 = some (r1, r2, r3, r4)) ∧ Aside0 (kq ≤ kj5) ∧ Drawn0 w wc)
       case first =>
        have H := HC11.out
        clear HC11
        by_cases c12 : a0 = 4
        ·rw [if_pos c12] at H
         have c12b0 : (a0 == 4) = true := beq_iff_eq.mpr c12
         have c12b1 : (a0 != 4) = false := bne_eq_false_iff_eq.mpr c12
         clear c12
         (first | rw [c12b0] | (simp only [i64_w, i32_w]; rw [c12b0]) | skip)
         have H' := Aside0.mk H
         clear H
         go_wp2
         go_meet
         case rel => exact ⟨_, ((a0 == 4)), (by first | rfl | (simp; done) | (simp [*]; done)), H', ⟨by have := HJ1.out; have := HJ5.out; first | omega | exact Nat.le_refl _⟩, by repeat (first | exact Drawn0.refl _ | apply Drawn0.step)⟩
        ·rw [if_neg c12] at H
         have c12b0 : (a0 == 4) = false := beq_eq_false_iff_ne.mpr c12
         have c12b1 : (a0 != 4) = true := bne_iff_ne.mpr c12
         (first | rw [c12b0] | (simp only [i64_w, i32_w]; rw [c12b0]) | skip)
         by_cases c13 : a0 = 5
         ·rw [if_pos c13] at H
          have c13b0 : (a0 == 5) = true := beq_iff_eq.mpr c13
          have c13b1 : (a0 != 5) = false := bne_eq_false_iff_eq.mpr c13
          clear c13
          have H' := Aside0.mk H
          clear H
          go_wp2
          go_meet
          case rel => exact ⟨_, ((a0 == 5)), (by first | rfl | (simp; done) | (simp [*]; done)), H', ⟨by have := HJ1.out; have := HJ5.out; first | omega | exact Nat.le_refl _⟩, by repeat (first | exact Drawn0.refl _ | apply Drawn0.step)⟩
         ·rw [if_neg c13] at H
          have c13b0 : (a0 == 5) = false := beq_eq_false_iff_ne.mpr c13
          have c13b1 : (a0 != 5) = true := bne_iff_ne.mpr c13
          have H' := Aside0.mk H
          clear H
          go_wp2
          go_meet
          case rel => exact ⟨_, ((a0 == 16)), (by first | rfl | (simp; done) | (simp [*]; done)), H', ⟨by have := HJ1.out; have := HJ5.out; first | omega | exact Nat.le_refl _⟩, by repeat (first | exact Drawn0.refl _ | apply Drawn0.step)⟩
       case rest =>
        clear HC11
        try clear c1
        try clear c2
        try clear p2
        try clear c3
        try clear c3b0
        try clear c3b1
        try clear c4
        try clear c4b0
        try clear c4b1
        try clear c5
        try clear c7
        try clear c7b0
        try clear c7b1
        try clear c8
        try clear c8b0
        try clear c8b1
        try clear c9
        try clear c9b0
        try clear c9b1
        try clear c10
        try clear c12
        try clear c12b0
        try clear c12b1
        try clear c13
        try clear c13b0
        try clear c13b1
        try clear p2
        obtain ⟨kq, x16_10, rfl, HA, HJ10, ⟨mc10, rfl⟩⟩ := hcut
        cases kq with
        | zero => exact absurd HA.out (by simp [inst_has.j2])
        | succ kj10 =>
         have H := HA.out
         clear HA
         simp only [inst_has.j2] at H
         by_cases c14 : x16_10 = true
         ·subst c14
          rw [if_pos rfl] at H
          simp only [Option.some.injEq, Prod.mk.injEq] at H
          obtain ⟨rfl, rfl, rfl, rfl⟩ := H
          go_wp2
          refine bodyPost_ret (results_list (rs := [.tmp 2, .tmp 3, .tmp 4, .tmp 5]) rfl (by simp) (.tmp (.tmp (.tmp (.tmp .nil))))) rfl ?_
          exact ⟨by first | rfl | (simp; done) | (simp [*]; done), by repeat (first | exact Drawn0.refl _ | apply Drawn0.step)⟩
         ·replace c14 := Bool.eq_false_iff.mpr c14
          subst c14
          rw [if_neg (show ¬ (false = true) by decide)] at H
          by_cases c15 : a0 = 6
          ·rw [if_pos c15] at H
           have c15b0 : (a0 == 6) = true := beq_iff_eq.mpr c15
           have c15b1 : (a0 != 6) = false := bne_eq_false_iff_eq.mpr c15
           clear c15
           simp only [Option.some.injEq, Prod.mk.injEq] at H
           obtain ⟨rfl, rfl, rfl, rfl⟩ := H
           go_wp2
           refine bodyPost_ret (results_list (rs := [.tmp 2, .tmp 3, .tmp 4, .tmp 5]) rfl (by simp) (.tmp (.tmp (.tmp (.tmp .nil))))) rfl ?_
           exact ⟨by first | rfl | (simp; done) | (simp [*]; done), by repeat (first | exact Drawn0.refl _ | apply Drawn0.step)⟩
          ·rw [if_neg c15] at H
           have c15b0 : (a0 == 6) = false := beq_eq_false_iff_ne.mpr c15
           have c15b1 : (a0 != 6) = true := bne_iff_ne.mpr c15
           by_cases c16 : a0 = 13
           ·rw [if_pos c16] at H
            have c16b0 : (a0 == 13) = true := beq_iff_eq.mpr c16
            have c16b1 : (a0 != 13) = false := bne_eq_false_iff_eq.mpr c16
            clear c16
            simp only [Option.some.injEq, Prod.mk.injEq] at H
            obtain ⟨rfl, rfl, rfl, rfl⟩ := H
            go_wp2
            refine bodyPost_ret (results_list (rs := [.tmp 2, .tmp 3, .tmp 4, .tmp 5]) rfl (by simp) (.tmp (.tmp (.tmp (.tmp .nil))))) rfl ?_
            exact ⟨by first | rfl | (simp; done) | (simp [*]; done), by repeat (first | exact Drawn0.refl _ | apply Drawn0.step)⟩
           ·rw [if_neg c16] at H
            have c16b0 : (a0 == 13) = false := beq_eq_false_iff_ne.mpr c16
            have c16b1 : (a0 != 13) = true := bne_iff_ne.mpr c16
            simp only [Option.some.injEq, Prod.mk.injEq] at H
            obtain ⟨rfl, rfl, rfl, rfl⟩ := H
            go_wp2
            refine bodyPost_ret (results_list (rs := [.tmp 2, .tmp 3, .tmp 4, .tmp 5]) rfl (by simp) (.tmp (.tmp (.tmp (.tmp .nil))))) rfl ?_
            exact ⟨by first | rfl | (simp; done) | (simp [*]; done), by repeat (first | exact Drawn0.refl _ | apply Drawn0.step)⟩

/-! ### inst_register: function 24 -/
def inst_register.f (a0 : Int) (a1 : Bool) : Option (Bool) := if a1 = true then (if a0 ≥ 0 then (some (decide (a0 ≤ 31))) else (some false)) else (some (a0 == 0))
set_option maxHeartbeats 8000000 in
set_option maxRecDepth 100000 in
theorem inst_register.calls (a0 : Int) (a1 : Bool) (r : Bool) (w : World) (h : inst_register.f a0 a1 = some r) :
  Calls Tryd.prog 24 #[.int .i64 a0, .bool a1] w fun e w' => e = .returned (.bool r) ∧ Drawn0 w w' := by
 have H : (if a1 = true then (if a0 ≥ 0 then (some (decide (a0 ≤ 31))) else (some false)) else (some (a0 == 0))) = some r := h
 clear h
 by_cases c3 : a1 = true
 ·subst c3
  rw [if_pos rfl] at H
  by_cases c4 : a0 ≥ 0
  ·rw [if_pos c4] at H
   have c4b0 : decide (0 ≤ a0) = true := decide_eq_true c4
   clear c4
   obtain rfl := Option.some.inj H
   go_enter Tryd.func24, Tryd.ntmps24
   go_wp2
   go_ret
   exact ⟨by first | rfl | (simp; done) | (simp [*]; done), by repeat (first | exact Drawn0.refl _ | apply Drawn0.step)⟩
  ·rw [if_neg c4] at H
   have c4b0 : decide (0 ≤ a0) = false := decide_eq_false c4
   clear c4
   obtain rfl := Option.some.inj H
   go_enter Tryd.func24, Tryd.ntmps24
   go_wp2
   go_ret
   exact ⟨by first | rfl | (simp; done) | (simp [*]; done), by repeat (first | exact Drawn0.refl _ | apply Drawn0.step)⟩
 ·replace c3 := Bool.eq_false_iff.mpr c3
  subst c3
  rw [if_neg (show ¬ (false = true) by decide)] at H
  obtain rfl := Option.some.inj H
  go_enter Tryd.func24, Tryd.ntmps24
  go_wp2
  go_ret
  exact ⟨by first | rfl | (simp; done) | (simp [*]; done), by repeat (first | exact Drawn0.refl _ | apply Drawn0.step)⟩

/-! ### mask_sizes: function 73 -/
theorem mask_sizes.next (b : Nat) (s : Int) (w : World) (hc : w.cell? ⟨b, 0, none⟩ = some (.int .i64 s)) (hf : w.frozen? ⟨b, 0, none⟩ = false) :
    Calls Tryd.prog 79 #[.pointer (some ⟨b, 0, none⟩)] w fun e w' => e = .returned (.int .i64 (wrap64 (s * 2))) ∧ w' = w.setCell ⟨b, 0, none⟩ (.int .i64 (wrap64 (s * 2))) := by
  go_enter Tryd.func79, Tryd.ntmps79
  go_wp2
  go_ret
  exact ⟨rfl, rfl⟩
theorem mask_sizes.made (w : World) :
    Calls Tryd.prog 73 #[] w fun e w' => e = .returned (.func (.func 79) #[] #[.pointer (some ⟨w.heap.size, 0, none⟩)]) ∧ w' = w.alloc (.cells #[.int .i64 1] 3) := by
  go_enter Tryd.func73, Tryd.ntmps73
  go_wp2
  go_ret
  exact ⟨rfl, rfl⟩
/-- The captured size: the one cell of a block of the call's own. -/
structure AtSize (w0 : World) (b : Nat) (s : Int) (w : World) : Prop where
  cell : w.cell? ⟨b, 0, none⟩ = some (.int .i64 s)
  free : w.frozen? ⟨b, 0, none⟩ = false
  below : Below w0.heap.size w0 w
  own : w0.heap.size ≤ b
  lt : b < w.heap.size
theorem AtSize.made (w : World) (s : Int) : AtSize w w.heap.size s (w.alloc (.cells #[.int .i64 s] 3)) where
  cell := by simp [World.cell?_alloc_at]
  free := by simp [World.frozen?_alloc_at]
  below := (Below.refl _ _).alloc (Nat.le_refl _) _
  own := Nat.le_refl _
  lt := by simp
theorem AtSize.drewN {w0 : World} {b : Nat} {s : Int} {w : World} (h : AtSize w0 b s w) (n : Nat) : AtSize w0 b s (w.drewN n) where
  cell := by simpa using h.cell
  free := by simpa using h.free
  below := pw_below_drewN h.below n
  own := h.own
  lt := by simpa using h.lt
theorem AtSize.set {w0 : World} {b : Nat} {s : Int} {w : World} (h : AtSize w0 b s w) (s' : Int) : AtSize w0 b s' (w.setCell ⟨b, 0, none⟩ (.int .i64 s')) where
  cell := World.cell?_setCell_same _ _ _ h.cell
  free := by simpa using h.free
  below := h.below.setCell h.own _
  own := h.own
  lt := by simpa using h.lt

/-! ### bits_Low: function 62 -/
def bits_Low.f (a0 : Int) (a1 : Int) : Option (Int) := if a1 ≤ 0 then (some 0) else (if a1 ≥ 64 then (some a0) else (if 0 ≤ a1 then (some (Go.bits .and .u64 a0 (IntKind.u64.wrap ((shl .u64 1 a1) - 1)))) else (none)))
set_option maxHeartbeats 8000000 in
set_option maxRecDepth 100000 in
theorem bits_Low.calls (a0 : Int) (a1 : Int) (r : Int) (w : World) (h : bits_Low.f a0 a1 = some r) :
  Calls Tryd.prog 62 #[.int .u64 a0, .int .i64 a1] w fun e w' => e = .returned (.int .u64 r) ∧ Drawn0 w w' := by
 have H : (if a1 ≤ 0 then (some 0) else (if a1 ≥ 64 then (some a0) else (if 0 ≤ a1 then (some (Go.bits .and .u64 a0 (IntKind.u64.wrap ((shl .u64 1 a1) - 1)))) else (none)))) = some r := h
 clear h
 by_cases c3 : a1 ≤ 0
 ·rw [if_pos c3] at H
  have c3b0 : decide (a1 ≤ 0) = true := decide_eq_true c3
  clear c3
  obtain rfl := Option.some.inj H
  go_enter Tryd.func62, Tryd.ntmps62
  go_wp2
  go_ret
  exact ⟨by first | rfl | (simp; done) | (simp [*]; done), by repeat (first | exact Drawn0.refl _ | apply Drawn0.step)⟩
 ·rw [if_neg c3] at H
  have c3b0 : decide (a1 ≤ 0) = false := decide_eq_false c3
  clear c3
  by_cases c4 : a1 ≥ 64
  ·rw [if_pos c4] at H
   have c4b0 : decide (64 ≤ a1) = true := decide_eq_true c4
   clear c4
   obtain rfl := Option.some.inj H
   go_enter Tryd.func62, Tryd.ntmps62
   go_wp2
   go_ret
   exact ⟨by first | rfl | (simp; done) | (simp [*]; done), by repeat (first | exact Drawn0.refl _ | apply Drawn0.step)⟩
  ·rw [if_neg c4] at H
   have c4b0 : decide (64 ≤ a1) = false := decide_eq_false c4
   clear c4
   by_cases c5 : 0 ≤ a1
   ·rw [if_pos c5] at H
    have c5b0 := eq_true c5
    have c5b1 : decide (0 ≤ a1) = true := decide_eq_true c5
    clear c5
    obtain ⟨ji6, hji6⟩ : ∃ j_ : Int, (shl .u64 1 a1) = j_ := ⟨_, rfl⟩
    replace H : (some (Go.bits .and .u64 a0 (IntKind.u64.wrap ((ji6) - 1)))) = some r := by first | (rw [hji6] at H; exact H) | (simp only [hji6] at H ⊢; exact H)
    have hji6_ : (IntKind.u64.wrap (1 * 2 ^ min a1.toNat 64)) = ji6 := hji6
    have hji6z : a1 ≤ 64 → (IntKind.u64.wrap (1 * 2 ^ a1.toNat)) = ji6 := shl_small hji6
    have hji6u : (IntKind.u64.wrap (2 ^ min a1.toNat 64)) = ji6 := by have h_ := hji6_; rw [Int.one_mul] at h_; exact h_
    have hji6v : a1 ≤ 64 → (IntKind.u64.wrap (2 ^ a1.toNat)) = ji6 := fun hle_ => by have h_ := hji6z hle_; rw [Int.one_mul] at h_; exact h_
    obtain rfl := Option.some.inj H
    go_enter Tryd.func62, Tryd.ntmps62
    go_wp2
    go_ret
    exact ⟨by first | rfl | (simp; done) | (simp only [← hji6] <;> (first | rfl | simp)) | (simp [*]; done), by repeat (first | exact Drawn0.refl _ | apply Drawn0.step)⟩
   ·rw [if_neg c5] at H
    exact absurd H (by simp)

/-! ### bits_Rotate: function 74 -/
mutual
def bits_Rotate.j0 : Nat → Int → Int → Int → Option (Int × Int)
 | 0, _, _, _ => none
 | k + 1, x0, x1, x2 => if x1 < 0 then (bits_Rotate.j1 k x0 x1 x2 true) else (bits_Rotate.j1 k x0 x1 x2 (decide (x1 ≥ x2)))
def bits_Rotate.j1 : Nat → Int → Int → Int → Bool → Option (Int × Int)
 | 0, _, _, _, _ => none
 | k + 1, x0, x1, x2, x22 => if x22 = true then (some (0, 1)) else ((bits_Low.f x0 x2).bind fun t101 => (if t101 = x0 then (if 0 ≤ x1 then (if 0 ≤ (wrap64 (x2 - x1)) then ((bits_Low.f (Go.bits .or .u64 (shr .u64 x0 x1) (shl .u64 x0 (wrap64 (x2 - x1)))) x2).bind fun t102 => (some (t102, 0))) else (none)) else (none)) else (some (0, 4))))
end
def bits_Rotate.f (k : Nat) (a0 : Int) (a1 : Int) (a2 : Int) : Option (Int × Int) := if a2 = 2 then (bits_Rotate.j0 k a0 a1 a2) else (if a2 = 4 then (bits_Rotate.j0 k a0 a1 a2) else (if a2 = 8 then (bits_Rotate.j0 k a0 a1 a2) else (if a2 = 16 then (bits_Rotate.j0 k a0 a1 a2) else (if a2 = 32 then (bits_Rotate.j0 k a0 a1 a2) else (if a2 = 64 then (bits_Rotate.j0 k a0 a1 a2) else (some (0, 1)))))))
theorem bits_Rotate.mono_l : ∀ k, (∀ y0 y1 y2, LeO (bits_Rotate.j0 k y0 y1 y2) (bits_Rotate.j0 (k + 1) y0 y1 y2)) ∧ (∀ y0 y1 y2 y3, LeO (bits_Rotate.j1 k y0 y1 y2 y3) (bits_Rotate.j1 (k + 1) y0 y1 y2 y3))
 | 0 => ⟨fun _ _ _ r h => by simp [bits_Rotate.j0] at h, fun _ _ _ _ r h => by simp [bits_Rotate.j1] at h⟩
 | k + 1 => by
  obtain ⟨ih0, ih1⟩ := bits_Rotate.mono_l k
  refine ⟨?_, ?_⟩
  ·intro y0 y1 y2
   unfold bits_Rotate.j0
   repeat' first
   | (with_reducible exact ih0 _ _ _)
   | (with_reducible exact ih1 _ _ _ _)
   | (with_reducible exact LeO.refl _)
   | (with_reducible exact LeO.none _)
   | (with_reducible refine LeO.ite ?_ ?_)
   | (with_reducible refine LeO.bind ?_ (fun _ => ?_))
   | exact ih0 _ _ _
   | exact ih1 _ _ _ _
   | exact LeO.none _
   | refine LeO.ite ?_ ?_
   | refine LeO.bind ?_ (fun _ => ?_)
  ·intro y0 y1 y2 y3
   unfold bits_Rotate.j1
   repeat' first
   | (with_reducible exact ih0 _ _ _)
   | (with_reducible exact ih1 _ _ _ _)
   | (with_reducible exact LeO.refl _)
   | (with_reducible exact LeO.none _)
   | (with_reducible refine LeO.ite ?_ ?_)
   | (with_reducible refine LeO.bind ?_ (fun _ => ?_))
   | exact ih0 _ _ _
   | exact ih1 _ _ _ _
   | exact LeO.none _
   | refine LeO.ite ?_ ?_
   | refine LeO.bind ?_ (fun _ => ?_)
theorem bits_Rotate.mono : ∀ a0 a1 a2 k, LeO (bits_Rotate.f k a0 a1 a2) (bits_Rotate.f (k + 1) a0 a1 a2) := by
 intro a0 a1 a2 k
 obtain ⟨ih0, ih1⟩ := bits_Rotate.mono_l k
 unfold bits_Rotate.f
 repeat' first
   | (with_reducible exact ih0 _ _ _)
   | (with_reducible exact ih1 _ _ _ _)
   | (with_reducible exact LeO.refl _)
   | (with_reducible exact LeO.none _)
   | (with_reducible refine LeO.ite ?_ ?_)
   | (with_reducible refine LeO.bind ?_ (fun _ => ?_))
   | exact ih0 _ _ _
   | exact ih1 _ _ _ _
   | exact LeO.none _
   | refine LeO.ite ?_ ?_
   | refine LeO.bind ?_ (fun _ => ?_)
set_option maxHeartbeats 8000000 in
set_option maxRecDepth 100000 in
theorem bits_Rotate.calls (k : Nat) (a0 : Int) (a1 : Int) (a2 : Int) (r1 : Int) (r2 : Int) (w : World) (h : bits_Rotate.f k a0 a1 a2 = some (r1, r2)) :
  Calls Tryd.prog 74 #[.int .u64 a0, .int .i64 a1, .int .i64 a2] w fun e w' => e = .returned (.tuple #[.int .u64 r1, .int .i64 r2]) ∧ Drawn0 w w' := by
 have H : (if a2 = 2 then (bits_Rotate.j0 k a0 a1 a2) else (if a2 = 4 then (bits_Rotate.j0 k a0 a1 a2) else (if a2 = 8 then (bits_Rotate.j0 k a0 a1 a2) else (if a2 = 16 then (bits_Rotate.j0 k a0 a1 a2) else (if a2 = 32 then (bits_Rotate.j0 k a0 a1 a2) else (if a2 = 64 then (bits_Rotate.j0 k a0 a1 a2) else (some (0, 1)))))))) = some (r1, r2) := h
 clear h
 have HC4 := Aside0.mk H
 clear H
 go_enter Tryd.func74, Tryd.ntmps74
 go_upto_block 0 with (fail)
 repeat (go_quiet (fail); go_upto_block 0 with (fail))
 go_cut [] (fun wc => ∃ (kq : Nat), Aside0 (bits_Rotate.j0 kq a0 a1 a2 = some (r1, r2)) ∧ Aside0 (kq ≤ k) ∧ Drawn0 w wc)
 case first =>
  have H := HC4.out
  clear HC4
  by_cases c5 : a2 = 2
  ·rw [if_pos c5] at H
   have c5b0 : (a2 == 2) = true := beq_iff_eq.mpr c5
   have c5b1 : (a2 != 2) = false := bne_eq_false_iff_eq.mpr c5
   clear c5
   (first | rw [c5b0] | (simp only [i64_w, i32_w]; rw [c5b0]) | skip)
   have H' := Aside0.mk H
   clear H
   go_wp2
   repeat (go_quiet (fail); try go_wp2)
   go_meet
   case rel => exact ⟨_, H', ⟨by first | omega | exact Nat.le_refl _⟩, by repeat (first | exact Drawn0.refl _ | apply Drawn0.step)⟩
  ·rw [if_neg c5] at H
   have c5b0 : (a2 == 2) = false := beq_eq_false_iff_ne.mpr c5
   have c5b1 : (a2 != 2) = true := bne_iff_ne.mpr c5
   (first | rw [c5b0] | (simp only [i64_w, i32_w]; rw [c5b0]) | skip)
   by_cases c6 : a2 = 4
   ·rw [if_pos c6] at H
    have c6b0 : (a2 == 4) = true := beq_iff_eq.mpr c6
    have c6b1 : (a2 != 4) = false := bne_eq_false_iff_eq.mpr c6
    clear c6
    have H' := Aside0.mk H
    clear H
    go_wp2
    repeat (go_quiet (fail); try go_wp2)
    go_meet
    case rel => exact ⟨_, H', ⟨by first | omega | exact Nat.le_refl _⟩, by repeat (first | exact Drawn0.refl _ | apply Drawn0.step)⟩
   ·rw [if_neg c6] at H
    have c6b0 : (a2 == 4) = false := beq_eq_false_iff_ne.mpr c6
    have c6b1 : (a2 != 4) = true := bne_iff_ne.mpr c6
    by_cases c7 : a2 = 8
    ·rw [if_pos c7] at H
     have c7b0 : (a2 == 8) = true := beq_iff_eq.mpr c7
     have c7b1 : (a2 != 8) = false := bne_eq_false_iff_eq.mpr c7
     clear c7
     have H' := Aside0.mk H
     clear H
     go_wp2
     repeat (go_quiet (fail); try go_wp2)
     go_meet
     case rel => exact ⟨_, H', ⟨by first | omega | exact Nat.le_refl _⟩, by repeat (first | exact Drawn0.refl _ | apply Drawn0.step)⟩
    ·rw [if_neg c7] at H
     have c7b0 : (a2 == 8) = false := beq_eq_false_iff_ne.mpr c7
     have c7b1 : (a2 != 8) = true := bne_iff_ne.mpr c7
     by_cases c8 : a2 = 16
     ·rw [if_pos c8] at H
      have c8b0 : (a2 == 16) = true := beq_iff_eq.mpr c8
      have c8b1 : (a2 != 16) = false := bne_eq_false_iff_eq.mpr c8
      clear c8
      have H' := Aside0.mk H
      clear H
      go_wp2
      repeat (go_quiet (fail); try go_wp2)
      go_meet
      case rel => exact ⟨_, H', ⟨by first | omega | exact Nat.le_refl _⟩, by repeat (first | exact Drawn0.refl _ | apply Drawn0.step)⟩
     ·rw [if_neg c8] at H
      have c8b0 : (a2 == 16) = false := beq_eq_false_iff_ne.mpr c8
      have c8b1 : (a2 != 16) = true := bne_iff_ne.mpr c8
      by_cases c9 : a2 = 32
      ·rw [if_pos c9] at H
       have c9b0 : (a2 == 32) = true := beq_iff_eq.mpr c9
       have c9b1 : (a2 != 32) = false := bne_eq_false_iff_eq.mpr c9
       clear c9
       have H' := Aside0.mk H
       clear H
       go_wp2
       repeat (go_quiet (fail); try go_wp2)
       go_meet
       case rel => exact ⟨_, H', ⟨by first | omega | exact Nat.le_refl _⟩, by repeat (first | exact Drawn0.refl _ | apply Drawn0.step)⟩
      ·rw [if_neg c9] at H
       have c9b0 : (a2 == 32) = false := beq_eq_false_iff_ne.mpr c9
       have c9b1 : (a2 != 32) = true := bne_iff_ne.mpr c9
       by_cases c10 : a2 = 64
       ·rw [if_pos c10] at H
        have c10b0 : (a2 == 64) = true := beq_iff_eq.mpr c10
        have c10b1 : (a2 != 64) = false := bne_eq_false_iff_eq.mpr c10
        clear c10
        have H' := Aside0.mk H
        clear H
        go_wp2
        repeat (go_quiet (fail); try go_wp2)
        go_meet
        case rel => exact ⟨_, H', ⟨by first | omega | exact Nat.le_refl _⟩, by repeat (first | exact Drawn0.refl _ | apply Drawn0.step)⟩
       ·rw [if_neg c10] at H
        have c10b0 : (a2 == 64) = false := beq_eq_false_iff_ne.mpr c10
        have c10b1 : (a2 != 64) = true := bne_iff_ne.mpr c10
        simp only [Option.some.injEq, Prod.mk.injEq] at H
        obtain ⟨rfl, rfl⟩ := H
        go_wp2
        repeat (go_quiet (fail); try go_wp2)
        go_ret2
        exact ⟨by first | rfl | (simp; done) | (simp [*]; done), by repeat (first | exact Drawn0.refl _ | apply Drawn0.step)⟩
 case rest =>
  clear HC4
  try clear c1
  try clear p2
  try clear c5
  try clear c5b0
  try clear c5b1
  try clear c6
  try clear c6b0
  try clear c6b1
  try clear c7
  try clear c7b0
  try clear c7b1
  try clear c8
  try clear c8b0
  try clear c8b1
  try clear c9
  try clear c9b0
  try clear c9b1
  try clear c10
  try clear c10b0
  try clear c10b1
  obtain ⟨kq, HA, HJ3, ⟨mc3, rfl⟩⟩ := hcut
  cases kq with
  | zero => exact absurd HA.out (by simp [bits_Rotate.j0])
  | succ kj3 =>
   have H := HA.out
   clear HA
   simp only [bits_Rotate.j0] at H
   have HC11 := Aside0.mk H
   clear H
   go_upto_region 9 with (fail)
   repeat (go_quiet (fail); go_upto_region 9 with (fail))
   go_cut [22] (fun v22 wc => ∃ (kq : Nat) (x22_10 : Bool), v22 = .bool x22_10 ∧ Aside0 (bits_Rotate.j1 kq a0 a1 a2 x22_10 = some (r1, r2)) ∧ Aside0 (kq ≤ kj3) ∧ Drawn0 w wc)
   case first =>
    have H := HC11.out
    clear HC11
    by_cases c12 : a1 < 0
    ·rw [if_pos c12] at H
     have c12b0 : decide (a1 < 0) = true := decide_eq_true c12
     clear c12
     (first | rw [c12b0] | (simp only [i64_w, i32_w]; rw [c12b0]) | skip)
     have H' := Aside0.mk H
     clear H
     go_wp2
     repeat (go_quiet (fail); try go_wp2)
     go_meet
     case rel => exact ⟨_, (true), (by first | rfl | (simp; done) | (simp [*]; done)), H', ⟨by have := HJ3.out; first | omega | exact Nat.le_refl _⟩, by repeat (first | exact Drawn0.refl _ | apply Drawn0.step)⟩
    ·rw [if_neg c12] at H
     have c12b0 : decide (a1 < 0) = false := decide_eq_false c12
     clear c12
     (first | rw [c12b0] | (simp only [i64_w, i32_w]; rw [c12b0]) | skip)
     have H' := Aside0.mk H
     clear H
     go_wp2
     repeat (go_quiet (fail); try go_wp2)
     go_meet
     case rel => exact ⟨_, (decide (a1 ≥ a2)), (by first | rfl | (simp; done) | (simp [*]; done)), H', ⟨by have := HJ3.out; first | omega | exact Nat.le_refl _⟩, by repeat (first | exact Drawn0.refl _ | apply Drawn0.step)⟩
   case rest =>
    clear HC11
    try clear c1
    try clear p2
    try clear c3
    try clear c5
    try clear c5b0
    try clear c5b1
    try clear c6
    try clear c6b0
    try clear c6b1
    try clear c7
    try clear c7b0
    try clear c7b1
    try clear c8
    try clear c8b0
    try clear c8b1
    try clear c9
    try clear c9b0
    try clear c9b1
    try clear c10
    try clear c10b0
    try clear c10b1
    try clear c12
    try clear c12b0
    try clear p2
    obtain ⟨kq, x22_10, rfl, HA, HJ10, ⟨mc10, rfl⟩⟩ := hcut
    cases kq with
    | zero => exact absurd HA.out (by simp [bits_Rotate.j1])
    | succ kj10 =>
     have H := HA.out
     clear HA
     simp only [bits_Rotate.j1] at H
     by_cases c13 : x22_10 = true
     ·subst c13
      rw [if_pos rfl] at H
      simp only [Option.some.injEq, Prod.mk.injEq] at H
      obtain ⟨rfl, rfl⟩ := H
      go_wp2
      repeat (go_quiet (fail); try go_wp2)
      go_ret2
      exact ⟨by first | rfl | (simp; done) | (simp [*]; done), by repeat (first | exact Drawn0.refl _ | apply Drawn0.step)⟩
     ·replace c13 := Bool.eq_false_iff.mpr c13
      subst c13
      rw [if_neg (show ¬ (false = true) by decide)] at H
      replace H := Option.bind_eq_some_iff.mp H
      obtain ⟨t101, A140, H⟩ := H
      replace H : (if t101 = a0 then (if 0 ≤ a1 then (if 0 ≤ (wrap64 (a2 - a1)) then ((bits_Low.f (Go.bits .or .u64 (shr .u64 a0 a1) (shl .u64 a0 (wrap64 (a2 - a1)))) a2).bind fun t102 => (some (t102, 0))) else (none)) else (none)) else (some (0, 4))) = some (r1, r2) := H
      have A14 := Aside0.mk A140
      clear A140
      by_cases c15 : t101 = a0
      ·rw [if_pos c15] at H
       have c15b0 : (t101 == a0) = true := beq_iff_eq.mpr c15
       have c15b1 : (t101 != a0) = false := bne_eq_false_iff_eq.mpr c15
       clear c15
       by_cases c16 : 0 ≤ a1
       ·rw [if_pos c16] at H
        have c16b0 := eq_true c16
        have c16b1 : decide (0 ≤ a1) = true := decide_eq_true c16
        clear c16
        obtain ⟨ji17, hji17⟩ : ∃ j_ : Int, (shr .u64 a0 a1) = j_ := ⟨_, rfl⟩
        replace H : (if 0 ≤ (wrap64 (a2 - a1)) then ((bits_Low.f (Go.bits .or .u64 (ji17) (shl .u64 a0 (wrap64 (a2 - a1)))) a2).bind fun t102 => (some (t102, 0))) else (none)) = some (r1, r2) := by first | (rw [hji17] at H; exact H) | (simp only [hji17] at H ⊢; exact H)
        (try rw [hji17] at A14)
        have hji17_ : (a0 / 2 ^ min a1.toNat 64) = ji17 := hji17
        have hji17z : a1 ≤ 64 → (a0 / 2 ^ a1.toNat) = ji17 := shr_small hji17
        obtain ⟨ji18, hji18⟩ : ∃ j_ : Int, (wrap64 (a2 - a1)) = j_ := ⟨_, rfl⟩
        replace H : (if 0 ≤ (ji18) then ((bits_Low.f (Go.bits .or .u64 (ji17) (shl .u64 a0 (ji18))) a2).bind fun t102 => (some (t102, 0))) else (none)) = some (r1, r2) := by first | (rw [hji18] at H; exact H) | (simp only [hji18] at H ⊢; exact H)
        (try rw [hji18] at A14)
        have hji18w : (IntKind.i64.wrap (a2 - a1)) = ji18 := (i64_w _).trans hji18
        by_cases c19 : 0 ≤ (ji18)
        ·rw [if_pos c19] at H
         have c19b0 := eq_true c19
         have c19b1 : decide (0 ≤ (ji18)) = true := decide_eq_true c19
         clear c19
         obtain ⟨ji20, hji20⟩ : ∃ j_ : Int, (shl .u64 a0 (ji18)) = j_ := ⟨_, rfl⟩
         replace H : ((bits_Low.f (Go.bits .or .u64 (ji17) (ji20)) a2).bind fun t102 => (some (t102, 0))) = some (r1, r2) := by first | (rw [hji20] at H; exact H) | (simp only [hji20] at H ⊢; exact H)
         (try rw [hji20] at A14)
         have hji20_ : (IntKind.u64.wrap (a0 * 2 ^ min (ji18).toNat 64)) = ji20 := hji20
         have hji20z : (ji18) ≤ 64 → (IntKind.u64.wrap (a0 * 2 ^ (ji18).toNat)) = ji20 := shl_small hji20
         replace H := Option.bind_eq_some_iff.mp H
         obtain ⟨t102, A210, H⟩ := H
         replace H : (some (t102, 0)) = some (r1, r2) := H
         have A21 := Aside0.mk A210
         clear A210
         simp only [Option.some.injEq, Prod.mk.injEq] at H
         obtain ⟨rfl, rfl⟩ := H
         go_wp2_with (first | (go_at_call 62; (with_reducible refine (bits_Low.calls a0 a2 t101 _ A14.out).mono ?_); rintro e w' ⟨rfl, ⟨nd, rfl⟩⟩; (try first | exact ⟨rfl, _, World.drewN_drewN _ _ _⟩ | exact ⟨rfl, _, Eq.trans (World.drewN_drewN _ _ _) (congrArg (World.drewN _) (Nat.add_assoc _ _ _))⟩)) | (go_at_call 62; (with_reducible refine (bits_Low.calls (Go.bits .or .u64 (ji17) (ji20)) a2 t102 _ A21.out).mono ?_); rintro e w' ⟨rfl, ⟨nd, rfl⟩⟩; (try first | exact ⟨rfl, _, World.drewN_drewN _ _ _⟩ | exact ⟨rfl, _, Eq.trans (World.drewN_drewN _ _ _) (congrArg (World.drewN _) (Nat.add_assoc _ _ _))⟩)))
         repeat (go_quiet (first | (go_at_call 62; (with_reducible refine (bits_Low.calls a0 a2 t101 _ A14.out).mono ?_); rintro e w' ⟨rfl, ⟨nd, rfl⟩⟩; (try first | exact ⟨rfl, _, World.drewN_drewN _ _ _⟩ | exact ⟨rfl, _, Eq.trans (World.drewN_drewN _ _ _) (congrArg (World.drewN _) (Nat.add_assoc _ _ _))⟩)) | (go_at_call 62; (with_reducible refine (bits_Low.calls (Go.bits .or .u64 (ji17) (ji20)) a2 t102 _ A21.out).mono ?_); rintro e w' ⟨rfl, ⟨nd, rfl⟩⟩; (try first | exact ⟨rfl, _, World.drewN_drewN _ _ _⟩ | exact ⟨rfl, _, Eq.trans (World.drewN_drewN _ _ _) (congrArg (World.drewN _) (Nat.add_assoc _ _ _))⟩))); try go_wp2_with (first | (go_at_call 62; (with_reducible refine (bits_Low.calls a0 a2 t101 _ A14.out).mono ?_); rintro e w' ⟨rfl, ⟨nd, rfl⟩⟩; (try first | exact ⟨rfl, _, World.drewN_drewN _ _ _⟩ | exact ⟨rfl, _, Eq.trans (World.drewN_drewN _ _ _) (congrArg (World.drewN _) (Nat.add_assoc _ _ _))⟩)) | (go_at_call 62; (with_reducible refine (bits_Low.calls (Go.bits .or .u64 (ji17) (ji20)) a2 t102 _ A21.out).mono ?_); rintro e w' ⟨rfl, ⟨nd, rfl⟩⟩; (try first | exact ⟨rfl, _, World.drewN_drewN _ _ _⟩ | exact ⟨rfl, _, Eq.trans (World.drewN_drewN _ _ _) (congrArg (World.drewN _) (Nat.add_assoc _ _ _))⟩))))
         go_ret2
         exact ⟨by first | rfl | (simp; done) | (simp only [← hji17, ← hji18, ← hji20] <;> (first | rfl | simp)) | (simp [*]; done), by repeat (first | exact Drawn0.refl _ | apply Drawn0.step)⟩
        ·rw [if_neg c19] at H
         exact absurd H (by simp)
       ·rw [if_neg c16] at H
        exact absurd H (by simp)
      ·rw [if_neg c15] at H
       have c15b0 : (t101 == a0) = false := beq_eq_false_iff_ne.mpr c15
       have c15b1 : (t101 != a0) = true := bne_iff_ne.mpr c15
       simp only [Option.some.injEq, Prod.mk.injEq] at H
       obtain ⟨rfl, rfl⟩ := H
       go_wp2_with (first | (go_at_call 62; (with_reducible refine (bits_Low.calls a0 a2 t101 _ A14.out).mono ?_); rintro e w' ⟨rfl, ⟨nd, rfl⟩⟩; (try first | exact ⟨rfl, _, World.drewN_drewN _ _ _⟩ | exact ⟨rfl, _, Eq.trans (World.drewN_drewN _ _ _) (congrArg (World.drewN _) (Nat.add_assoc _ _ _))⟩)))
       repeat (go_quiet (first | (go_at_call 62; (with_reducible refine (bits_Low.calls a0 a2 t101 _ A14.out).mono ?_); rintro e w' ⟨rfl, ⟨nd, rfl⟩⟩; (try first | exact ⟨rfl, _, World.drewN_drewN _ _ _⟩ | exact ⟨rfl, _, Eq.trans (World.drewN_drewN _ _ _) (congrArg (World.drewN _) (Nat.add_assoc _ _ _))⟩))); try go_wp2_with (first | (go_at_call 62; (with_reducible refine (bits_Low.calls a0 a2 t101 _ A14.out).mono ?_); rintro e w' ⟨rfl, ⟨nd, rfl⟩⟩; (try first | exact ⟨rfl, _, World.drewN_drewN _ _ _⟩ | exact ⟨rfl, _, Eq.trans (World.drewN_drewN _ _ _) (congrArg (World.drewN _) (Nat.add_assoc _ _ _))⟩))))
       go_ret2
       exact ⟨by first | rfl | (simp; done) | (simp [*]; done), by repeat (first | exact Drawn0.refl _ | apply Drawn0.step)⟩

end Go.Proofs.YtemenenkefcebaaDoor.P
