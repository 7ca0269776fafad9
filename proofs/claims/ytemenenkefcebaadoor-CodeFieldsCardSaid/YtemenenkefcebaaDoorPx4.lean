-- printed by wip/tools/myprint.py out of the translation. Not trusted: Lean checks it.
import Derived.Test.YtemenenkefcebaaDoorPx0
import Derived.Test.YtemenenkefcebaaDoorPx2
import Derived.Test.YtemenenkefcebaaDoorPx3
namespace Go.Proofs.YtemenenkefcebaaDoor.P
open Go.RowKit Go.Proofs.YtemenenkefcebaaDoorW.PrintWords Go.Proofs.YtemenenkefcebaaDoorW.PrintLast Go.Proofs.YtemenenkefcebaaDoorW.PrintMore
attribute [local go_sem] max2_int min2_int max_two min_two max_three min_three max_four min_four   -- for this text's walks alone
set_option linter.unusedVariables false
set_option linter.unusedSimpArgs false

/-! ### inst_amount: function 27 -/
def inst_amount.f (a0 : Int) (a1 : Int) (a2 : Int) : Option (Bool) := if a0 = 1 then (if a1 = 0 then ((inst_within.f a2 0 48 16).bind fun t122 => (some t122)) else (some false)) else (if a0 = 2 then (if a1 = 0 then ((inst_within.f a2 0 12 12).bind fun t123 => (some t123)) else (some false)) else (if a0 = 4 then ((inst_within.f a1 0 2 1).bind fun t124 => (if t124 = true then ((inst_within.f a2 0 63 1).bind fun t125 => (some t125)) else (some false))) else (if a0 = 5 then ((inst_within.f a1 0 3 1).bind fun t126 => (if t126 = true then ((inst_within.f a2 0 63 1).bind fun t127 => (some t127)) else (some false))) else (if a1 = 0 then (some (a2 == 0)) else (some false)))))
set_option maxHeartbeats 8000000 in
set_option maxRecDepth 100000 in
theorem inst_amount.calls (a0 : Int) (a1 : Int) (a2 : Int) (r : Bool) (w : World) (h : inst_amount.f a0 a1 a2 = some r) :
  Calls Tryd.prog 27 #[.int .i64 a0, .int .i64 a1, .int .i64 a2] w fun e w' => e = .returned (.bool r) ∧ Drawn0 w w' := by
 have H : (if a0 = 1 then (if a1 = 0 then ((inst_within.f a2 0 48 16).bind fun t122 => (some t122)) else (some false)) else (if a0 = 2 then (if a1 = 0 then ((inst_within.f a2 0 12 12).bind fun t123 => (some t123)) else (some false)) else (if a0 = 4 then ((inst_within.f a1 0 2 1).bind fun t124 => (if t124 = true then ((inst_within.f a2 0 63 1).bind fun t125 => (some t125)) else (some false))) else (if a0 = 5 then ((inst_within.f a1 0 3 1).bind fun t126 => (if t126 = true then ((inst_within.f a2 0 63 1).bind fun t127 => (some t127)) else (some false))) else (if a1 = 0 then (some (a2 == 0)) else (some false)))))) = some r := h
 clear h
 by_cases c4 : a0 = 1
 ·rw [if_pos c4] at H
  have c4b0 : (a0 == 1) = true := beq_iff_eq.mpr c4
  have c4b1 : (a0 != 1) = false := bne_eq_false_iff_eq.mpr c4
  clear c4
  by_cases c5 : a1 = 0
  ·rw [if_pos c5] at H
   have c5b0 : (a1 == 0) = true := beq_iff_eq.mpr c5
   have c5b1 : (a1 != 0) = false := bne_eq_false_iff_eq.mpr c5
   clear c5
   replace H := Option.bind_eq_some_iff.mp H
   obtain ⟨t122, A60, H⟩ := H
   replace H : (some t122) = some r := H
   have A6 := Aside0.mk A60
   clear A60
   obtain rfl := Option.some.inj H
   go_enter Tryd.func27, Tryd.ntmps27
   go_wp2_with (first | (go_at_call 44; (with_reducible refine (inst_within.calls a2 0 48 16 t122 _ A6.out).mono ?_); rintro e w' ⟨rfl, ⟨nd, rfl⟩⟩))
   go_ret
   exact ⟨by first | rfl | (simp; done) | (simp [*]; done), by repeat (first | exact Drawn0.refl _ | apply Drawn0.step)⟩
  ·rw [if_neg c5] at H
   have c5b0 : (a1 == 0) = false := beq_eq_false_iff_ne.mpr c5
   have c5b1 : (a1 != 0) = true := bne_iff_ne.mpr c5
   obtain rfl := Option.some.inj H
   go_enter Tryd.func27, Tryd.ntmps27
   go_wp2
   go_ret
   exact ⟨by first | rfl | (simp; done) | (simp [*]; done), by repeat (first | exact Drawn0.refl _ | apply Drawn0.step)⟩
 ·rw [if_neg c4] at H
  have c4b0 : (a0 == 1) = false := beq_eq_false_iff_ne.mpr c4
  have c4b1 : (a0 != 1) = true := bne_iff_ne.mpr c4
  by_cases c7 : a0 = 2
  ·rw [if_pos c7] at H
   have c7b0 : (a0 == 2) = true := beq_iff_eq.mpr c7
   have c7b1 : (a0 != 2) = false := bne_eq_false_iff_eq.mpr c7
   clear c7
   by_cases c8 : a1 = 0
   ·rw [if_pos c8] at H
    have c8b0 : (a1 == 0) = true := beq_iff_eq.mpr c8
    have c8b1 : (a1 != 0) = false := bne_eq_false_iff_eq.mpr c8
    clear c8
    replace H := Option.bind_eq_some_iff.mp H
    obtain ⟨t123, A90, H⟩ := H
    replace H : (some t123) = some r := H
    have A9 := Aside0.mk A90
    clear A90
    obtain rfl := Option.some.inj H
    go_enter Tryd.func27, Tryd.ntmps27
    go_wp2_with (first | (go_at_call 44; (with_reducible refine (inst_within.calls a2 0 12 12 t123 _ A9.out).mono ?_); rintro e w' ⟨rfl, ⟨nd, rfl⟩⟩))
    go_ret
    exact ⟨by first | rfl | (simp; done) | (simp [*]; done), by repeat (first | exact Drawn0.refl _ | apply Drawn0.step)⟩
   ·rw [if_neg c8] at H
    have c8b0 : (a1 == 0) = false := beq_eq_false_iff_ne.mpr c8
    have c8b1 : (a1 != 0) = true := bne_iff_ne.mpr c8
    obtain rfl := Option.some.inj H
    go_enter Tryd.func27, Tryd.ntmps27
    go_wp2
    go_ret
    exact ⟨by first | rfl | (simp; done) | (simp [*]; done), by repeat (first | exact Drawn0.refl _ | apply Drawn0.step)⟩
  ·rw [if_neg c7] at H
   have c7b0 : (a0 == 2) = false := beq_eq_false_iff_ne.mpr c7
   have c7b1 : (a0 != 2) = true := bne_iff_ne.mpr c7
   by_cases c10 : a0 = 4
   ·rw [if_pos c10] at H
    have c10b0 : (a0 == 4) = true := beq_iff_eq.mpr c10
    have c10b1 : (a0 != 4) = false := bne_eq_false_iff_eq.mpr c10
    clear c10
    replace H := Option.bind_eq_some_iff.mp H
    obtain ⟨t124, A110, H⟩ := H
    replace H : (if t124 = true then ((inst_within.f a2 0 63 1).bind fun t125 => (some t125)) else (some false)) = some r := H
    have A11 := Aside0.mk A110
    clear A110
    by_cases c12 : t124 = true
    ·subst c12
     rw [if_pos rfl] at H
     replace H := Option.bind_eq_some_iff.mp H
     obtain ⟨t125, A130, H⟩ := H
     replace H : (some t125) = some r := H
     have A13 := Aside0.mk A130
     clear A130
     obtain rfl := Option.some.inj H
     go_enter Tryd.func27, Tryd.ntmps27
     go_wp2_with (first | ((with_reducible refine gate_callee (f := 44) rfl ?_); refine goesL_ (some 27) rfl rfl Tryd.func44 (by kernel_rfl) rfl #[.int .i64 a1, .int .i64 0, .int .i64 2, .int .i64 1] rfl (by (try simp only [List.map_toArray, List.map_cons, List.map_nil]); first | done | rfl | (simp only [List.length_drop, List.length_take]; rfl)) ?_; (with_reducible refine (inst_within.calls a1 0 2 1 true _ A11.out).mono ?_); rintro e w' ⟨rfl, ⟨nd, rfl⟩⟩; refine ⟨_, rfl, ?_⟩) | (go_at_call 44; (with_reducible refine (inst_within.calls a2 0 63 1 t125 _ A13.out).mono ?_); rintro e w' ⟨rfl, ⟨nd, rfl⟩⟩))
     go_ret
     exact ⟨by first | rfl | (simp; done) | (simp [*]; done), by repeat (first | exact Drawn0.refl _ | apply Drawn0.step)⟩
    ·replace c12 := Bool.eq_false_iff.mpr c12
     subst c12
     rw [if_neg (show ¬ (false = true) by decide)] at H
     obtain rfl := Option.some.inj H
     go_enter Tryd.func27, Tryd.ntmps27
     go_wp2_with (first | ((with_reducible refine gate_callee (f := 44) rfl ?_); refine goesL_ (some 27) rfl rfl Tryd.func44 (by kernel_rfl) rfl #[.int .i64 a1, .int .i64 0, .int .i64 2, .int .i64 1] rfl (by (try simp only [List.map_toArray, List.map_cons, List.map_nil]); first | done | rfl | (simp only [List.length_drop, List.length_take]; rfl)) ?_; (with_reducible refine (inst_within.calls a1 0 2 1 false _ A11.out).mono ?_); rintro e w' ⟨rfl, ⟨nd, rfl⟩⟩; refine ⟨_, rfl, ?_⟩))
     go_ret
     exact ⟨by first | rfl | (simp; done) | (simp [*]; done), by repeat (first | exact Drawn0.refl _ | apply Drawn0.step)⟩
   ·rw [if_neg c10] at H
    have c10b0 : (a0 == 4) = false := beq_eq_false_iff_ne.mpr c10
    have c10b1 : (a0 != 4) = true := bne_iff_ne.mpr c10
    by_cases c14 : a0 = 5
    ·rw [if_pos c14] at H
     have c14b0 : (a0 == 5) = true := beq_iff_eq.mpr c14
     have c14b1 : (a0 != 5) = false := bne_eq_false_iff_eq.mpr c14
     clear c14
     replace H := Option.bind_eq_some_iff.mp H
     obtain ⟨t126, A150, H⟩ := H
     replace H : (if t126 = true then ((inst_within.f a2 0 63 1).bind fun t127 => (some t127)) else (some false)) = some r := H
     have A15 := Aside0.mk A150
     clear A150
     by_cases c16 : t126 = true
     ·subst c16
      rw [if_pos rfl] at H
      replace H := Option.bind_eq_some_iff.mp H
      obtain ⟨t127, A170, H⟩ := H
      replace H : (some t127) = some r := H
      have A17 := Aside0.mk A170
      clear A170
      obtain rfl := Option.some.inj H
      go_enter Tryd.func27, Tryd.ntmps27
      go_wp2_with (first | ((with_reducible refine gate_callee (f := 44) rfl ?_); refine goesL_ (some 35) rfl rfl Tryd.func44 (by kernel_rfl) rfl #[.int .i64 a1, .int .i64 0, .int .i64 3, .int .i64 1] rfl (by (try simp only [List.map_toArray, List.map_cons, List.map_nil]); first | done | rfl | (simp only [List.length_drop, List.length_take]; rfl)) ?_; (with_reducible refine (inst_within.calls a1 0 3 1 true _ A15.out).mono ?_); rintro e w' ⟨rfl, ⟨nd, rfl⟩⟩; refine ⟨_, rfl, ?_⟩) | (go_at_call 44; (with_reducible refine (inst_within.calls a2 0 63 1 t127 _ A17.out).mono ?_); rintro e w' ⟨rfl, ⟨nd, rfl⟩⟩))
      go_ret
      exact ⟨by first | rfl | (simp; done) | (simp [*]; done), by repeat (first | exact Drawn0.refl _ | apply Drawn0.step)⟩
     ·replace c16 := Bool.eq_false_iff.mpr c16
      subst c16
      rw [if_neg (show ¬ (false = true) by decide)] at H
      obtain rfl := Option.some.inj H
      go_enter Tryd.func27, Tryd.ntmps27
      go_wp2_with (first | ((with_reducible refine gate_callee (f := 44) rfl ?_); refine goesL_ (some 35) rfl rfl Tryd.func44 (by kernel_rfl) rfl #[.int .i64 a1, .int .i64 0, .int .i64 3, .int .i64 1] rfl (by (try simp only [List.map_toArray, List.map_cons, List.map_nil]); first | done | rfl | (simp only [List.length_drop, List.length_take]; rfl)) ?_; (with_reducible refine (inst_within.calls a1 0 3 1 false _ A15.out).mono ?_); rintro e w' ⟨rfl, ⟨nd, rfl⟩⟩; refine ⟨_, rfl, ?_⟩))
      go_ret
      exact ⟨by first | rfl | (simp; done) | (simp [*]; done), by repeat (first | exact Drawn0.refl _ | apply Drawn0.step)⟩
    ·rw [if_neg c14] at H
     have c14b0 : (a0 == 5) = false := beq_eq_false_iff_ne.mpr c14
     have c14b1 : (a0 != 5) = true := bne_iff_ne.mpr c14
     by_cases c18 : a1 = 0
     ·rw [if_pos c18] at H
      have c18b0 : (a1 == 0) = true := beq_iff_eq.mpr c18
      have c18b1 : (a1 != 0) = false := bne_eq_false_iff_eq.mpr c18
      clear c18
      obtain rfl := Option.some.inj H
      go_enter Tryd.func27, Tryd.ntmps27
      go_wp2
      go_ret
      exact ⟨by first | rfl | (simp; done) | (simp [*]; done), by repeat (first | exact Drawn0.refl _ | apply Drawn0.step)⟩
     ·rw [if_neg c18] at H
      have c18b0 : (a1 == 0) = false := beq_eq_false_iff_ne.mpr c18
      have c18b1 : (a1 != 0) = true := bne_iff_ne.mpr c18
      obtain rfl := Option.some.inj H
      go_enter Tryd.func27, Tryd.ntmps27
      go_wp2
      go_ret
      exact ⟨by first | rfl | (simp; done) | (simp [*]; done), by repeat (first | exact Drawn0.refl _ | apply Drawn0.step)⟩

/-! ### inst_cond: function 28 -/
def inst_cond.f (a0 : Int) (a1 : Int) : Option (Bool) := if a0 = 12 then ((inst_within.f a1 0 13 1).bind fun t128 => (some t128)) else (if a0 = 16 then ((inst_within.f a1 0 13 1).bind fun t129 => (some t129)) else (some (a1 == 0)))
set_option maxHeartbeats 8000000 in
set_option maxRecDepth 100000 in
theorem inst_cond.calls (a0 : Int) (a1 : Int) (r : Bool) (w : World) (h : inst_cond.f a0 a1 = some r) :
  Calls Tryd.prog 28 #[.int .i64 a0, .int .i64 a1] w fun e w' => e = .returned (.bool r) ∧ Drawn0 w w' := by
 have H : (if a0 = 12 then ((inst_within.f a1 0 13 1).bind fun t128 => (some t128)) else (if a0 = 16 then ((inst_within.f a1 0 13 1).bind fun t129 => (some t129)) else (some (a1 == 0)))) = some r := h
 clear h
 by_cases c3 : a0 = 12
 ·rw [if_pos c3] at H
  have c3b0 : (a0 == 12) = true := beq_iff_eq.mpr c3
  have c3b1 : (a0 != 12) = false := bne_eq_false_iff_eq.mpr c3
  clear c3
  replace H := Option.bind_eq_some_iff.mp H
  obtain ⟨t128, A40, H⟩ := H
  replace H : (some t128) = some r := H
  have A4 := Aside0.mk A40
  clear A40
  obtain rfl := Option.some.inj H
  go_enter Tryd.func28, Tryd.ntmps28
  go_wp2_with (first | ((with_reducible refine gate_callee (f := 44) rfl ?_); refine goesL_ (some 12) rfl rfl Tryd.func44 (by kernel_rfl) rfl #[.int .i64 a1, .int .i64 0, .int .i64 13, .int .i64 1] rfl (by (try simp only [List.map_toArray, List.map_cons, List.map_nil]); first | done | rfl | (simp only [List.length_drop, List.length_take]; rfl)) ?_; (with_reducible refine (inst_within.calls a1 0 13 1 t128 _ A4.out).mono ?_); rintro e w' ⟨rfl, ⟨nd, rfl⟩⟩; refine ⟨_, rfl, ?_⟩))
  go_ret
  exact ⟨by first | rfl | (simp; done) | (simp [*]; done), by repeat (first | exact Drawn0.refl _ | apply Drawn0.step)⟩
 ·rw [if_neg c3] at H
  have c3b0 : (a0 == 12) = false := beq_eq_false_iff_ne.mpr c3
  have c3b1 : (a0 != 12) = true := bne_iff_ne.mpr c3
  by_cases c5 : a0 = 16
  ·rw [if_pos c5] at H
   have c5b0 : (a0 == 16) = true := beq_iff_eq.mpr c5
   have c5b1 : (a0 != 16) = false := bne_eq_false_iff_eq.mpr c5
   clear c5
   replace H := Option.bind_eq_some_iff.mp H
   obtain ⟨t129, A60, H⟩ := H
   replace H : (some t129) = some r := H
   have A6 := Aside0.mk A60
   clear A60
   obtain rfl := Option.some.inj H
   go_enter Tryd.func28, Tryd.ntmps28
   go_wp2_with (first | ((with_reducible refine gate_callee (f := 44) rfl ?_); refine goesL_ (some 12) rfl rfl Tryd.func44 (by kernel_rfl) rfl #[.int .i64 a1, .int .i64 0, .int .i64 13, .int .i64 1] rfl (by (try simp only [List.map_toArray, List.map_cons, List.map_nil]); first | done | rfl | (simp only [List.length_drop, List.length_take]; rfl)) ?_; (with_reducible refine (inst_within.calls a1 0 13 1 t129 _ A6.out).mono ?_); rintro e w' ⟨rfl, ⟨nd, rfl⟩⟩; refine ⟨_, rfl, ?_⟩))
   go_ret
   exact ⟨by first | rfl | (simp; done) | (simp [*]; done), by repeat (first | exact Drawn0.refl _ | apply Drawn0.step)⟩
  ·rw [if_neg c5] at H
   have c5b0 : (a0 == 16) = false := beq_eq_false_iff_ne.mpr c5
   have c5b1 : (a0 != 16) = true := bne_iff_ne.mpr c5
   obtain rfl := Option.some.inj H
   go_enter Tryd.func28, Tryd.ntmps28
   go_wp2
   go_ret
   exact ⟨by first | rfl | (simp; done) | (simp [*]; done), by repeat (first | exact Drawn0.refl _ | apply Drawn0.step)⟩

/-! ### inst_Is: function 9 -/
def inst_Is.j0 : Nat → Int → Bool → Int → Int → Int → Int → Int → Int → Int → Int → Int → Int → Option (Bool)
 | 0, _, _, _, _, _, _, _, _, _, _, _, _ => none
 | k + 1, x3, x45, x131000, x131001, x131002, x131003, x131004, x131005, x131006, x131007, x131008, x131009 => if x45 = true then (some false) else (if x3 = 3 then ((mask_Is.f k x131006).bind fun t140 => (if t140 = true then ((inst_number.f k x3 x131005).bind fun t141 => (if t141 = true then ((inst_amount.f x3 x131007 x131008).bind fun t142 => (if t142 = true then ((inst_cond.f x3 x131009).bind fun t143 => (some t143)) else (some false))) else (some false))) else (some false))) else (if x131006 = 0 then ((inst_number.f k x3 x131005).bind fun t144 => (if t144 = true then ((inst_amount.f x3 x131007 x131008).bind fun t145 => (if t145 = true then ((inst_cond.f x3 x131009).bind fun t146 => (some t146)) else (some false))) else (some false))) else (some false)))
def inst_Is.f (k : Nat) (a0_0 : Int) (a0_1 : Int) (a0_2 : Int) (a0_3 : Int) (a0_4 : Int) (a0_5 : Int) (a0_6 : Int) (a0_7 : Int) (a0_8 : Int) (a0_9 : Int) : Option (Bool) := (inst_Shape.f a0_0).bind fun t131 => (if t131 = 0 then (some false) else ((inst_has.f k t131).bind fun bt132 => ((inst_register.f a0_1 bt132.1).bind fun t136 => (if t136 = true then ((inst_register.f a0_2 bt132.2.1).bind fun t137 => (if t137 = true then ((inst_register.f a0_3 bt132.2.2.1).bind fun t138 => (if t138 = true then ((inst_register.f a0_4 bt132.2.2.2).bind fun t139 => (inst_Is.j0 k t131 (!t139) a0_0 a0_1 a0_2 a0_3 a0_4 a0_5 a0_6 a0_7 a0_8 a0_9)) else (inst_Is.j0 k t131 true a0_0 a0_1 a0_2 a0_3 a0_4 a0_5 a0_6 a0_7 a0_8 a0_9))) else (inst_Is.j0 k t131 true a0_0 a0_1 a0_2 a0_3 a0_4 a0_5 a0_6 a0_7 a0_8 a0_9))) else (inst_Is.j0 k t131 true a0_0 a0_1 a0_2 a0_3 a0_4 a0_5 a0_6 a0_7 a0_8 a0_9)))))
theorem inst_Is.mono_l : ∀ k, (∀ y0 y1 y2 y3 y4 y5 y6 y7 y8 y9 y10 y11, LeO (inst_Is.j0 k y0 y1 y2 y3 y4 y5 y6 y7 y8 y9 y10 y11) (inst_Is.j0 (k + 1) y0 y1 y2 y3 y4 y5 y6 y7 y8 y9 y10 y11))
 | 0 => fun _ _ _ _ _ _ _ _ _ _ _ _ r h => by simp [inst_Is.j0] at h
 | k + 1 => by
  have ih0 := inst_Is.mono_l k
  ·intro y0 y1 y2 y3 y4 y5 y6 y7 y8 y9 y10 y11
   unfold inst_Is.j0
   repeat' first
   | (with_reducible exact ih0 _ _ _ _ _ _ _ _ _ _ _ _)
   | (with_reducible exact inst_has.mono _ _)
   | (with_reducible exact inst_number.mono _ _ _)
   | (with_reducible exact mask_Is.mono _ _)
   | (with_reducible exact LeO.refl _)
   | (with_reducible exact LeO.none _)
   | (with_reducible refine LeO.ite ?_ ?_)
   | (with_reducible refine LeO.bind ?_ (fun _ => ?_))
   | exact ih0 _ _ _ _ _ _ _ _ _ _ _ _
   | exact inst_has.mono _ _
   | exact inst_number.mono _ _ _
   | exact mask_Is.mono _ _
   | exact LeO.none _
   | refine LeO.ite ?_ ?_
   | refine LeO.bind ?_ (fun _ => ?_)
theorem inst_Is.mono : ∀ a0 a1 a2 a3 a4 a5 a6 a7 a8 a9 k, LeO (inst_Is.f k a0 a1 a2 a3 a4 a5 a6 a7 a8 a9) (inst_Is.f (k + 1) a0 a1 a2 a3 a4 a5 a6 a7 a8 a9) := by
 intro a0 a1 a2 a3 a4 a5 a6 a7 a8 a9 k
 have ih0 := inst_Is.mono_l k
 unfold inst_Is.f
 repeat' first
   | (with_reducible exact ih0 _ _ _ _ _ _ _ _ _ _ _ _)
   | (with_reducible exact inst_has.mono _ _)
   | (with_reducible exact inst_number.mono _ _ _)
   | (with_reducible exact mask_Is.mono _ _)
   | (with_reducible exact LeO.refl _)
   | (with_reducible exact LeO.none _)
   | (with_reducible refine LeO.ite ?_ ?_)
   | (with_reducible refine LeO.bind ?_ (fun _ => ?_))
   | exact ih0 _ _ _ _ _ _ _ _ _ _ _ _
   | exact inst_has.mono _ _
   | exact inst_number.mono _ _ _
   | exact mask_Is.mono _ _
   | exact LeO.none _
   | refine LeO.ite ?_ ?_
   | refine LeO.bind ?_ (fun _ => ?_)
set_option maxHeartbeats 8000000 in
set_option maxRecDepth 100000 in
theorem inst_Is.calls (k : Nat) (a0_0 : Int) (a0_1 : Int) (a0_2 : Int) (a0_3 : Int) (a0_4 : Int) (a0_5 : Int) (a0_6 : Int) (a0_7 : Int) (a0_8 : Int) (a0_9 : Int) (r : Bool) (w : World) (h : inst_Is.f k a0_0 a0_1 a0_2 a0_3 a0_4 a0_5 a0_6 a0_7 a0_8 a0_9 = some r) (HT : Aside0 (Tabs w)) :
  Calls Tryd.prog 9 #[.agg #[.int .i64 a0_0, .int .i64 a0_1, .int .i64 a0_2, .int .i64 a0_3, .int .i64 a0_4, .int .i64 a0_5, .int .u64 a0_6, .int .i64 a0_7, .int .i64 a0_8, .int .i64 a0_9]] w fun e w' => e = .returned (.bool r) ∧ Below w.heap.size w w' := by
 have hu24 := Tryd.underlying24
 have HB := Aside0.mk (Below.refl w.heap.size w)
 have H : ((inst_Shape.f a0_0).bind fun t131 => (if t131 = 0 then (some false) else ((inst_has.f k t131).bind fun bt132 => ((inst_register.f a0_1 bt132.1).bind fun t136 => (if t136 = true then ((inst_register.f a0_2 bt132.2.1).bind fun t137 => (if t137 = true then ((inst_register.f a0_3 bt132.2.2.1).bind fun t138 => (if t138 = true then ((inst_register.f a0_4 bt132.2.2.2).bind fun t139 => (inst_Is.j0 k t131 (!t139) a0_0 a0_1 a0_2 a0_3 a0_4 a0_5 a0_6 a0_7 a0_8 a0_9)) else (inst_Is.j0 k t131 true a0_0 a0_1 a0_2 a0_3 a0_4 a0_5 a0_6 a0_7 a0_8 a0_9))) else (inst_Is.j0 k t131 true a0_0 a0_1 a0_2 a0_3 a0_4 a0_5 a0_6 a0_7 a0_8 a0_9))) else (inst_Is.j0 k t131 true a0_0 a0_1 a0_2 a0_3 a0_4 a0_5 a0_6 a0_7 a0_8 a0_9)))))) = some r := h
 clear h
 replace H := Option.bind_eq_some_iff.mp H
 obtain ⟨t131, A20, H⟩ := H
 replace H : (if t131 = 0 then (some false) else ((inst_has.f k t131).bind fun bt132 => ((inst_register.f a0_1 bt132.1).bind fun t136 => (if t136 = true then ((inst_register.f a0_2 bt132.2.1).bind fun t137 => (if t137 = true then ((inst_register.f a0_3 bt132.2.2.1).bind fun t138 => (if t138 = true then ((inst_register.f a0_4 bt132.2.2.2).bind fun t139 => (inst_Is.j0 k t131 (!t139) a0_0 a0_1 a0_2 a0_3 a0_4 a0_5 a0_6 a0_7 a0_8 a0_9)) else (inst_Is.j0 k t131 true a0_0 a0_1 a0_2 a0_3 a0_4 a0_5 a0_6 a0_7 a0_8 a0_9))) else (inst_Is.j0 k t131 true a0_0 a0_1 a0_2 a0_3 a0_4 a0_5 a0_6 a0_7 a0_8 a0_9))) else (inst_Is.j0 k t131 true a0_0 a0_1 a0_2 a0_3 a0_4 a0_5 a0_6 a0_7 a0_8 a0_9))))) = some r := H
 have A2 := Aside0.mk A20
 clear A20
 by_cases c3 : t131 = 0
 ·rw [if_pos c3] at H
  have c3b0 : (t131 == 0) = true := beq_iff_eq.mpr c3
  have c3b1 : (t131 != 0) = false := bne_eq_false_iff_eq.mpr c3
  clear c3
  obtain rfl := Option.some.inj H
  go_enter Tryd.func9, Tryd.ntmps9
  go_wp2_with (first | ((with_reducible refine gate_dst (N := 1) rfl ?_); refine box_event ?hg (N := 1) ?hd (cs := #[.int .i64 a0_0, .int .i64 a0_1, .int .i64 a0_2, .int .i64 a0_3, .int .i64 a0_4, .int .i64 a0_5, .int .u64 a0_6, .int .i64 a0_7, .int .i64 a0_8, .int .i64 a0_9]) (t := 24) ?hr ?_; (case hd => rfl); (case hg => rfl); (case hr => first | (go_simp; done) | (go_simp; rfl)); intro gb130 hg w4 hbox hb; have n0_ := Aside0.mk (below_step (by repeat (first | (with_reducible first | exact HB.out | apply below_alloc | apply pw_below_drewN | apply below_drew1) | exact HB.out)) hb); have n1_ := Aside0.mk (hbox); have n2_ := Aside0.mk ((by rw [hg]; exact (below_size (by repeat (first | (with_reducible first | exact HB.out | apply below_alloc | apply pw_below_drewN | apply below_drew1) | exact HB.out))) : w.heap.size ≤ gb130)); have n3_ := Aside0.mk ((by rw [hg]; exact (below_size (by repeat (first | (with_reducible first | exact HB.out | apply below_alloc | apply pw_below_drewN | apply below_drew1) | exact HB.out))) : w.heap.size ≤ gb130)); clear HB; have HB := n0_; have BK130 := n1_; have GW130 := n2_; have GE130 := n3_; clear n0_ n1_ n2_ n3_; clear hb hbox hg; have hcz5_0 : w4.cell? ⟨gb130, 0, none⟩ = some (.int .i64 a0_0) := (blk_cell BK130.out 0).trans rfl; have hcz5_1 : w4.cell? ⟨gb130, 1, none⟩ = some (.int .i64 a0_1) := (blk_cell BK130.out 1).trans rfl; have hcz5_2 : w4.cell? ⟨gb130, 2, none⟩ = some (.int .i64 a0_2) := (blk_cell BK130.out 2).trans rfl; have hcz5_3 : w4.cell? ⟨gb130, 3, none⟩ = some (.int .i64 a0_3) := (blk_cell BK130.out 3).trans rfl; have hcz5_4 : w4.cell? ⟨gb130, 4, none⟩ = some (.int .i64 a0_4) := (blk_cell BK130.out 4).trans rfl; have hcz5_5 : w4.cell? ⟨gb130, 5, none⟩ = some (.int .i64 a0_5) := (blk_cell BK130.out 5).trans rfl; have hcz5_6 : w4.cell? ⟨gb130, 6, none⟩ = some (.int .u64 a0_6) := (blk_cell BK130.out 6).trans rfl; have hcz5_7 : w4.cell? ⟨gb130, 7, none⟩ = some (.int .i64 a0_7) := (blk_cell BK130.out 7).trans rfl; have hcz5_8 : w4.cell? ⟨gb130, 8, none⟩ = some (.int .i64 a0_8) := (blk_cell BK130.out 8).trans rfl; have hcz5_9 : w4.cell? ⟨gb130, 9, none⟩ = some (.int .i64 a0_9) := (blk_cell BK130.out 9).trans rfl; have hfz5_0 := blk_frozen BK130.out 0; have hfz5_1 := blk_frozen BK130.out 1; have hfz5_2 := blk_frozen BK130.out 2; have hfz5_3 := blk_frozen BK130.out 3; have hfz5_4 := blk_frozen BK130.out 4; have hfz5_5 := blk_frozen BK130.out 5; have hfz5_6 := blk_frozen BK130.out 6; have hfz5_7 := blk_frozen BK130.out 7; have hfz5_8 := blk_frozen BK130.out 8; have hfz5_9 := blk_frozen BK130.out 9) | ((with_reducible refine gate_callee (f := 16) rfl ?_); refine goesL_ (some 10) rfl rfl Tryd.func16 (by kernel_rfl) rfl #[.int .i64 a0_0] rfl (by (try simp only [List.map_toArray, List.map_cons, List.map_nil]); first | done | rfl | (simp only [List.length_drop, List.length_take]; rfl)) ?_; (with_reducible refine (inst_Shape.calls a0_0 t131 _ A2.out ?tabs).mono ?_); (case tabs => (first | exact HT | (refine tabs_of HT ?_; repeat (first | (with_reducible first | exact Below.refl _ _ | exact (Aside0.out (by assumption)) | exact (Drawn0.below (by assumption)) | apply below_alloc | apply pw_below_drewN | apply below_drew1 | assumption) | exact HB.out)))); rintro e w' ⟨rfl, ⟨nd, rfl⟩⟩; refine ⟨_, rfl, ?_⟩))
  go_ret
  exact ⟨by first | rfl | (simp [errW_none, errW_some] <;> rfl) | (simp [*, errW_none, errW_some] <;> rfl), by repeat (first | (with_reducible first | exact HB.out | apply below_alloc | apply pw_below_drewN | apply below_drew1 | refine below_set ?_ GE130.out) | exact HB.out)⟩
 ·rw [if_neg c3] at H
  have c3b0 : (t131 == 0) = false := beq_eq_false_iff_ne.mpr c3
  have c3b1 : (t131 != 0) = true := bne_iff_ne.mpr c3
  replace H := Option.bind_eq_some_iff.mp H
  obtain ⟨⟨t132, t133, t134, t135⟩, A60, H⟩ := H
  replace H : ((inst_register.f a0_1 t132).bind fun t136 => (if t136 = true then ((inst_register.f a0_2 t133).bind fun t137 => (if t137 = true then ((inst_register.f a0_3 t134).bind fun t138 => (if t138 = true then ((inst_register.f a0_4 t135).bind fun t139 => (inst_Is.j0 k t131 (!t139) a0_0 a0_1 a0_2 a0_3 a0_4 a0_5 a0_6 a0_7 a0_8 a0_9)) else (inst_Is.j0 k t131 true a0_0 a0_1 a0_2 a0_3 a0_4 a0_5 a0_6 a0_7 a0_8 a0_9))) else (inst_Is.j0 k t131 true a0_0 a0_1 a0_2 a0_3 a0_4 a0_5 a0_6 a0_7 a0_8 a0_9))) else (inst_Is.j0 k t131 true a0_0 a0_1 a0_2 a0_3 a0_4 a0_5 a0_6 a0_7 a0_8 a0_9))) = some r := H
  have A6 := Aside0.mk A60
  clear A60
  have HC7 := Aside0.mk H
  clear H
  go_enter Tryd.func9, Tryd.ntmps9
  go_upto_region 5 with (first | ((with_reducible refine gate_dst (N := 1) rfl ?_); refine box_event ?hg (N := 1) ?hd (cs := #[.int .i64 a0_0, .int .i64 a0_1, .int .i64 a0_2, .int .i64 a0_3, .int .i64 a0_4, .int .i64 a0_5, .int .u64 a0_6, .int .i64 a0_7, .int .i64 a0_8, .int .i64 a0_9]) (t := 24) ?hr ?_; (case hd => rfl); (case hg => rfl); (case hr => first | (go_simp; done) | (go_simp; rfl)); intro gb130 hg w8 hbox hb; have n0_ := Aside0.mk (below_step (by repeat (first | (with_reducible first | exact HB.out | apply below_alloc | apply pw_below_drewN | apply below_drew1) | exact HB.out)) hb); have n1_ := Aside0.mk (hbox); have n2_ := Aside0.mk ((by rw [hg]; exact (below_size (by repeat (first | (with_reducible first | exact HB.out | apply below_alloc | apply pw_below_drewN | apply below_drew1) | exact HB.out))) : w.heap.size ≤ gb130)); have n3_ := Aside0.mk ((by rw [hg]; exact (below_size (by repeat (first | (with_reducible first | exact HB.out | apply below_alloc | apply pw_below_drewN | apply below_drew1) | exact HB.out))) : w.heap.size ≤ gb130)); clear HB; have HB := n0_; have BK130 := n1_; have GW130 := n2_; have GE130 := n3_; clear n0_ n1_ n2_ n3_; clear hb hbox hg; have hcz9_0 : w8.cell? ⟨gb130, 0, none⟩ = some (.int .i64 a0_0) := (blk_cell BK130.out 0).trans rfl; have hcz9_1 : w8.cell? ⟨gb130, 1, none⟩ = some (.int .i64 a0_1) := (blk_cell BK130.out 1).trans rfl; have hcz9_2 : w8.cell? ⟨gb130, 2, none⟩ = some (.int .i64 a0_2) := (blk_cell BK130.out 2).trans rfl; have hcz9_3 : w8.cell? ⟨gb130, 3, none⟩ = some (.int .i64 a0_3) := (blk_cell BK130.out 3).trans rfl; have hcz9_4 : w8.cell? ⟨gb130, 4, none⟩ = some (.int .i64 a0_4) := (blk_cell BK130.out 4).trans rfl; have hcz9_5 : w8.cell? ⟨gb130, 5, none⟩ = some (.int .i64 a0_5) := (blk_cell BK130.out 5).trans rfl; have hcz9_6 : w8.cell? ⟨gb130, 6, none⟩ = some (.int .u64 a0_6) := (blk_cell BK130.out 6).trans rfl; have hcz9_7 : w8.cell? ⟨gb130, 7, none⟩ = some (.int .i64 a0_7) := (blk_cell BK130.out 7).trans rfl; have hcz9_8 : w8.cell? ⟨gb130, 8, none⟩ = some (.int .i64 a0_8) := (blk_cell BK130.out 8).trans rfl; have hcz9_9 : w8.cell? ⟨gb130, 9, none⟩ = some (.int .i64 a0_9) := (blk_cell BK130.out 9).trans rfl; have hfz9_0 := blk_frozen BK130.out 0; have hfz9_1 := blk_frozen BK130.out 1; have hfz9_2 := blk_frozen BK130.out 2; have hfz9_3 := blk_frozen BK130.out 3; have hfz9_4 := blk_frozen BK130.out 4; have hfz9_5 := blk_frozen BK130.out 5; have hfz9_6 := blk_frozen BK130.out 6; have hfz9_7 := blk_frozen BK130.out 7; have hfz9_8 := blk_frozen BK130.out 8; have hfz9_9 := blk_frozen BK130.out 9) | ((with_reducible refine gate_callee (f := 16) rfl ?_); refine goesL_ (some 10) rfl rfl Tryd.func16 (by kernel_rfl) rfl #[.int .i64 a0_0] rfl (by (try simp only [List.map_toArray, List.map_cons, List.map_nil]); first | done | rfl | (simp only [List.length_drop, List.length_take]; rfl)) ?_; (with_reducible refine (inst_Shape.calls a0_0 t131 _ A2.out ?tabs).mono ?_); (case tabs => (first | exact HT | (refine tabs_of HT ?_; repeat (first | (with_reducible first | exact Below.refl _ _ | exact (Aside0.out (by assumption)) | exact (Drawn0.below (by assumption)) | apply below_alloc | apply pw_below_drewN | apply below_drew1 | assumption) | exact HB.out)))); rintro e w' ⟨rfl, ⟨nd, rfl⟩⟩; refine ⟨_, rfl, ?_⟩) | ((with_reducible refine gate_callee (f := 23) rfl ?_); refine goesL_ (some 15) rfl rfl Tryd.func23 (by kernel_rfl) rfl #[.int .i64 t131] rfl (by (try simp only [List.map_toArray, List.map_cons, List.map_nil]); first | done | rfl | (simp only [List.length_drop, List.length_take]; rfl)) ?_; (with_reducible refine (inst_has.calls k t131 t132 t133 t134 t135 _ A6.out).mono ?_); rintro e w' ⟨rfl, ⟨nd, rfl⟩⟩; refine ⟨_, rfl, ?_⟩))
  (try simp only [Act.put, List.setIfInBounds_toArray, List.set_cons_zero, List.set_cons_succ])
  go_cut [45] (fun v45 wc => ∃ (kq : Nat) (x45_6 : Bool), v45 = .bool x45_6 ∧ Aside0 (inst_Is.j0 kq t131 x45_6 a0_0 a0_1 a0_2 a0_3 a0_4 a0_5 a0_6 a0_7 a0_8 a0_9 = some r) ∧ Aside0 (kq ≤ k) ∧ Aside0 (wc.heap[gb130]? = some (.cells #[.int .i64 a0_0, .int .i64 a0_1, .int .i64 a0_2, .int .i64 a0_3, .int .i64 a0_4, .int .i64 a0_5, .int .u64 a0_6, .int .i64 a0_7, .int .i64 a0_8, .int .i64 a0_9] 24 (0, 0))) ∧ Aside0 (Below w.heap.size w wc))
  case first =>
   have H := HC7.out
   clear HC7
   replace H := Option.bind_eq_some_iff.mp H
   obtain ⟨t136, A100, H⟩ := H
   replace H : (if t136 = true then ((inst_register.f a0_2 t133).bind fun t137 => (if t137 = true then ((inst_register.f a0_3 t134).bind fun t138 => (if t138 = true then ((inst_register.f a0_4 t135).bind fun t139 => (inst_Is.j0 k t131 (!t139) a0_0 a0_1 a0_2 a0_3 a0_4 a0_5 a0_6 a0_7 a0_8 a0_9)) else (inst_Is.j0 k t131 true a0_0 a0_1 a0_2 a0_3 a0_4 a0_5 a0_6 a0_7 a0_8 a0_9))) else (inst_Is.j0 k t131 true a0_0 a0_1 a0_2 a0_3 a0_4 a0_5 a0_6 a0_7 a0_8 a0_9))) else (inst_Is.j0 k t131 true a0_0 a0_1 a0_2 a0_3 a0_4 a0_5 a0_6 a0_7 a0_8 a0_9)) = some r := H
   have A10 := Aside0.mk A100
   clear A100
   by_cases c11 : t136 = true
   ·subst c11
    rw [if_pos rfl] at H
    replace H := Option.bind_eq_some_iff.mp H
    obtain ⟨t137, A120, H⟩ := H
    replace H : (if t137 = true then ((inst_register.f a0_3 t134).bind fun t138 => (if t138 = true then ((inst_register.f a0_4 t135).bind fun t139 => (inst_Is.j0 k t131 (!t139) a0_0 a0_1 a0_2 a0_3 a0_4 a0_5 a0_6 a0_7 a0_8 a0_9)) else (inst_Is.j0 k t131 true a0_0 a0_1 a0_2 a0_3 a0_4 a0_5 a0_6 a0_7 a0_8 a0_9))) else (inst_Is.j0 k t131 true a0_0 a0_1 a0_2 a0_3 a0_4 a0_5 a0_6 a0_7 a0_8 a0_9)) = some r := H
    have A12 := Aside0.mk A120
    clear A120
    by_cases c13 : t137 = true
    ·subst c13
     rw [if_pos rfl] at H
     replace H := Option.bind_eq_some_iff.mp H
     obtain ⟨t138, A140, H⟩ := H
     replace H : (if t138 = true then ((inst_register.f a0_4 t135).bind fun t139 => (inst_Is.j0 k t131 (!t139) a0_0 a0_1 a0_2 a0_3 a0_4 a0_5 a0_6 a0_7 a0_8 a0_9)) else (inst_Is.j0 k t131 true a0_0 a0_1 a0_2 a0_3 a0_4 a0_5 a0_6 a0_7 a0_8 a0_9)) = some r := H
     have A14 := Aside0.mk A140
     clear A140
     by_cases c15 : t138 = true
     ·subst c15
      rw [if_pos rfl] at H
      replace H := Option.bind_eq_some_iff.mp H
      obtain ⟨t139, A160, H⟩ := H
      replace H : (inst_Is.j0 k t131 (!t139) a0_0 a0_1 a0_2 a0_3 a0_4 a0_5 a0_6 a0_7 a0_8 a0_9) = some r := H
      have A16 := Aside0.mk A160
      clear A160
      have H' := Aside0.mk H
      clear H
      have hcz17_0 : w8.cell? ⟨gb130, 0, none⟩ = some (.int .i64 a0_0) := (blk_cell BK130.out 0).trans rfl
      have hcz17_1 : w8.cell? ⟨gb130, 1, none⟩ = some (.int .i64 a0_1) := (blk_cell BK130.out 1).trans rfl
      have hcz17_2 : w8.cell? ⟨gb130, 2, none⟩ = some (.int .i64 a0_2) := (blk_cell BK130.out 2).trans rfl
      have hcz17_3 : w8.cell? ⟨gb130, 3, none⟩ = some (.int .i64 a0_3) := (blk_cell BK130.out 3).trans rfl
      have hcz17_4 : w8.cell? ⟨gb130, 4, none⟩ = some (.int .i64 a0_4) := (blk_cell BK130.out 4).trans rfl
      have hcz17_5 : w8.cell? ⟨gb130, 5, none⟩ = some (.int .i64 a0_5) := (blk_cell BK130.out 5).trans rfl
      have hcz17_6 : w8.cell? ⟨gb130, 6, none⟩ = some (.int .u64 a0_6) := (blk_cell BK130.out 6).trans rfl
      have hcz17_7 : w8.cell? ⟨gb130, 7, none⟩ = some (.int .i64 a0_7) := (blk_cell BK130.out 7).trans rfl
      have hcz17_8 : w8.cell? ⟨gb130, 8, none⟩ = some (.int .i64 a0_8) := (blk_cell BK130.out 8).trans rfl
      have hcz17_9 : w8.cell? ⟨gb130, 9, none⟩ = some (.int .i64 a0_9) := (blk_cell BK130.out 9).trans rfl
      have hfz17_0 := blk_frozen BK130.out 0
      have hfz17_1 := blk_frozen BK130.out 1
      have hfz17_2 := blk_frozen BK130.out 2
      have hfz17_3 := blk_frozen BK130.out 3
      have hfz17_4 := blk_frozen BK130.out 4
      have hfz17_5 := blk_frozen BK130.out 5
      have hfz17_6 := blk_frozen BK130.out 6
      have hfz17_7 := blk_frozen BK130.out 7
      have hfz17_8 := blk_frozen BK130.out 8
      have hfz17_9 := blk_frozen BK130.out 9
      go_wp2_with (first | ((with_reducible refine gate_callee (f := 24) rfl ?_); refine goesL_ (some 23) rfl rfl Tryd.func24 (by kernel_rfl) rfl #[.int .i64 a0_1, .bool t132] rfl (by (try simp only [List.map_toArray, List.map_cons, List.map_nil]); first | done | rfl | (simp only [List.length_drop, List.length_take]; rfl)) ?_; (with_reducible refine (inst_register.calls a0_1 t132 true _ A10.out).mono ?_); rintro e w' ⟨rfl, ⟨nd, rfl⟩⟩; refine ⟨_, rfl, ?_⟩) | (go_at_call 24; (with_reducible refine (inst_register.calls a0_2 t133 true _ A12.out).mono ?_); rintro e w' ⟨rfl, ⟨nd, rfl⟩⟩) | (go_at_call 24; (with_reducible refine (inst_register.calls a0_3 t134 true _ A14.out).mono ?_); rintro e w' ⟨rfl, ⟨nd, rfl⟩⟩) | (go_at_call 24; (with_reducible refine (inst_register.calls a0_4 t135 t139 _ A16.out).mono ?_); rintro e w' ⟨rfl, ⟨nd, rfl⟩⟩))
      go_meet
      case rel => exact ⟨_, (!t139), (by first | rfl | (simp; done) | (simp [*]; done)), H', ⟨by first | omega | exact Nat.le_refl _⟩, ⟨by (with_reducible repeat (first | refine blk_drewN ?_ _ | refine blk_drew ?_ | refine blk_alloc ?_ _)); exact BK130.out⟩, ⟨by repeat (first | (with_reducible first | exact HB.out | apply below_alloc | apply pw_below_drewN | apply below_drew1 | refine below_set ?_ GE130.out) | exact HB.out)⟩⟩
     ·replace c15 := Bool.eq_false_iff.mpr c15
      subst c15
      rw [if_neg (show ¬ (false = true) by decide)] at H
      have H' := Aside0.mk H
      clear H
      have hcz18_0 : w8.cell? ⟨gb130, 0, none⟩ = some (.int .i64 a0_0) := (blk_cell BK130.out 0).trans rfl
      have hcz18_1 : w8.cell? ⟨gb130, 1, none⟩ = some (.int .i64 a0_1) := (blk_cell BK130.out 1).trans rfl
      have hcz18_2 : w8.cell? ⟨gb130, 2, none⟩ = some (.int .i64 a0_2) := (blk_cell BK130.out 2).trans rfl
      have hcz18_3 : w8.cell? ⟨gb130, 3, none⟩ = some (.int .i64 a0_3) := (blk_cell BK130.out 3).trans rfl
      have hcz18_4 : w8.cell? ⟨gb130, 4, none⟩ = some (.int .i64 a0_4) := (blk_cell BK130.out 4).trans rfl
      have hcz18_5 : w8.cell? ⟨gb130, 5, none⟩ = some (.int .i64 a0_5) := (blk_cell BK130.out 5).trans rfl
      have hcz18_6 : w8.cell? ⟨gb130, 6, none⟩ = some (.int .u64 a0_6) := (blk_cell BK130.out 6).trans rfl
      have hcz18_7 : w8.cell? ⟨gb130, 7, none⟩ = some (.int .i64 a0_7) := (blk_cell BK130.out 7).trans rfl
      have hcz18_8 : w8.cell? ⟨gb130, 8, none⟩ = some (.int .i64 a0_8) := (blk_cell BK130.out 8).trans rfl
      have hcz18_9 : w8.cell? ⟨gb130, 9, none⟩ = some (.int .i64 a0_9) := (blk_cell BK130.out 9).trans rfl
      have hfz18_0 := blk_frozen BK130.out 0
      have hfz18_1 := blk_frozen BK130.out 1
      have hfz18_2 := blk_frozen BK130.out 2
      have hfz18_3 := blk_frozen BK130.out 3
      have hfz18_4 := blk_frozen BK130.out 4
      have hfz18_5 := blk_frozen BK130.out 5
      have hfz18_6 := blk_frozen BK130.out 6
      have hfz18_7 := blk_frozen BK130.out 7
      have hfz18_8 := blk_frozen BK130.out 8
      have hfz18_9 := blk_frozen BK130.out 9
      go_wp2_with (first | ((with_reducible refine gate_callee (f := 24) rfl ?_); refine goesL_ (some 23) rfl rfl Tryd.func24 (by kernel_rfl) rfl #[.int .i64 a0_1, .bool t132] rfl (by (try simp only [List.map_toArray, List.map_cons, List.map_nil]); first | done | rfl | (simp only [List.length_drop, List.length_take]; rfl)) ?_; (with_reducible refine (inst_register.calls a0_1 t132 true _ A10.out).mono ?_); rintro e w' ⟨rfl, ⟨nd, rfl⟩⟩; refine ⟨_, rfl, ?_⟩) | (go_at_call 24; (with_reducible refine (inst_register.calls a0_2 t133 true _ A12.out).mono ?_); rintro e w' ⟨rfl, ⟨nd, rfl⟩⟩) | (go_at_call 24; (with_reducible refine (inst_register.calls a0_3 t134 false _ A14.out).mono ?_); rintro e w' ⟨rfl, ⟨nd, rfl⟩⟩))
      go_meet
      case rel => exact ⟨_, (true), (by first | rfl | (simp; done) | (simp [*]; done)), H', ⟨by first | omega | exact Nat.le_refl _⟩, ⟨by (with_reducible repeat (first | refine blk_drewN ?_ _ | refine blk_drew ?_ | refine blk_alloc ?_ _)); exact BK130.out⟩, ⟨by repeat (first | (with_reducible first | exact HB.out | apply below_alloc | apply pw_below_drewN | apply below_drew1 | refine below_set ?_ GE130.out) | exact HB.out)⟩⟩
    ·replace c13 := Bool.eq_false_iff.mpr c13
     subst c13
     rw [if_neg (show ¬ (false = true) by decide)] at H
     have H' := Aside0.mk H
     clear H
     have hcz19_0 : w8.cell? ⟨gb130, 0, none⟩ = some (.int .i64 a0_0) := (blk_cell BK130.out 0).trans rfl
     have hcz19_1 : w8.cell? ⟨gb130, 1, none⟩ = some (.int .i64 a0_1) := (blk_cell BK130.out 1).trans rfl
     have hcz19_2 : w8.cell? ⟨gb130, 2, none⟩ = some (.int .i64 a0_2) := (blk_cell BK130.out 2).trans rfl
     have hcz19_3 : w8.cell? ⟨gb130, 3, none⟩ = some (.int .i64 a0_3) := (blk_cell BK130.out 3).trans rfl
     have hcz19_4 : w8.cell? ⟨gb130, 4, none⟩ = some (.int .i64 a0_4) := (blk_cell BK130.out 4).trans rfl
     have hcz19_5 : w8.cell? ⟨gb130, 5, none⟩ = some (.int .i64 a0_5) := (blk_cell BK130.out 5).trans rfl
     have hcz19_6 : w8.cell? ⟨gb130, 6, none⟩ = some (.int .u64 a0_6) := (blk_cell BK130.out 6).trans rfl
     have hcz19_7 : w8.cell? ⟨gb130, 7, none⟩ = some (.int .i64 a0_7) := (blk_cell BK130.out 7).trans rfl
     have hcz19_8 : w8.cell? ⟨gb130, 8, none⟩ = some (.int .i64 a0_8) := (blk_cell BK130.out 8).trans rfl
     have hcz19_9 : w8.cell? ⟨gb130, 9, none⟩ = some (.int .i64 a0_9) := (blk_cell BK130.out 9).trans rfl
     have hfz19_0 := blk_frozen BK130.out 0
     have hfz19_1 := blk_frozen BK130.out 1
     have hfz19_2 := blk_frozen BK130.out 2
     have hfz19_3 := blk_frozen BK130.out 3
     have hfz19_4 := blk_frozen BK130.out 4
     have hfz19_5 := blk_frozen BK130.out 5
     have hfz19_6 := blk_frozen BK130.out 6
     have hfz19_7 := blk_frozen BK130.out 7
     have hfz19_8 := blk_frozen BK130.out 8
     have hfz19_9 := blk_frozen BK130.out 9
     go_wp2_with (first | ((with_reducible refine gate_callee (f := 24) rfl ?_); refine goesL_ (some 23) rfl rfl Tryd.func24 (by kernel_rfl) rfl #[.int .i64 a0_1, .bool t132] rfl (by (try simp only [List.map_toArray, List.map_cons, List.map_nil]); first | done | rfl | (simp only [List.length_drop, List.length_take]; rfl)) ?_; (with_reducible refine (inst_register.calls a0_1 t132 true _ A10.out).mono ?_); rintro e w' ⟨rfl, ⟨nd, rfl⟩⟩; refine ⟨_, rfl, ?_⟩) | (go_at_call 24; (with_reducible refine (inst_register.calls a0_2 t133 false _ A12.out).mono ?_); rintro e w' ⟨rfl, ⟨nd, rfl⟩⟩))
     go_meet
     case rel => exact ⟨_, (true), (by first | rfl | (simp; done) | (simp [*]; done)), H', ⟨by first | omega | exact Nat.le_refl _⟩, ⟨by (with_reducible repeat (first | refine blk_drewN ?_ _ | refine blk_drew ?_ | refine blk_alloc ?_ _)); exact BK130.out⟩, ⟨by repeat (first | (with_reducible first | exact HB.out | apply below_alloc | apply pw_below_drewN | apply below_drew1 | refine below_set ?_ GE130.out) | exact HB.out)⟩⟩
   ·replace c11 := Bool.eq_false_iff.mpr c11
    subst c11
    rw [if_neg (show ¬ (false = true) by decide)] at H
    have H' := Aside0.mk H
    clear H
    have hcz20_0 : w8.cell? ⟨gb130, 0, none⟩ = some (.int .i64 a0_0) := (blk_cell BK130.out 0).trans rfl
    have hcz20_1 : w8.cell? ⟨gb130, 1, none⟩ = some (.int .i64 a0_1) := (blk_cell BK130.out 1).trans rfl
    have hcz20_2 : w8.cell? ⟨gb130, 2, none⟩ = some (.int .i64 a0_2) := (blk_cell BK130.out 2).trans rfl
    have hcz20_3 : w8.cell? ⟨gb130, 3, none⟩ = some (.int .i64 a0_3) := (blk_cell BK130.out 3).trans rfl
    have hcz20_4 : w8.cell? ⟨gb130, 4, none⟩ = some (.int .i64 a0_4) := (blk_cell BK130.out 4).trans rfl
    have hcz20_5 : w8.cell? ⟨gb130, 5, none⟩ = some (.int .i64 a0_5) := (blk_cell BK130.out 5).trans rfl
    have hcz20_6 : w8.cell? ⟨gb130, 6, none⟩ = some (.int .u64 a0_6) := (blk_cell BK130.out 6).trans rfl
    have hcz20_7 : w8.cell? ⟨gb130, 7, none⟩ = some (.int .i64 a0_7) := (blk_cell BK130.out 7).trans rfl
    have hcz20_8 : w8.cell? ⟨gb130, 8, none⟩ = some (.int .i64 a0_8) := (blk_cell BK130.out 8).trans rfl
    have hcz20_9 : w8.cell? ⟨gb130, 9, none⟩ = some (.int .i64 a0_9) := (blk_cell BK130.out 9).trans rfl
    have hfz20_0 := blk_frozen BK130.out 0
    have hfz20_1 := blk_frozen BK130.out 1
    have hfz20_2 := blk_frozen BK130.out 2
    have hfz20_3 := blk_frozen BK130.out 3
    have hfz20_4 := blk_frozen BK130.out 4
    have hfz20_5 := blk_frozen BK130.out 5
    have hfz20_6 := blk_frozen BK130.out 6
    have hfz20_7 := blk_frozen BK130.out 7
    have hfz20_8 := blk_frozen BK130.out 8
    have hfz20_9 := blk_frozen BK130.out 9
    go_wp2_with (first | ((with_reducible refine gate_callee (f := 24) rfl ?_); refine goesL_ (some 23) rfl rfl Tryd.func24 (by kernel_rfl) rfl #[.int .i64 a0_1, .bool t132] rfl (by (try simp only [List.map_toArray, List.map_cons, List.map_nil]); first | done | rfl | (simp only [List.length_drop, List.length_take]; rfl)) ?_; (with_reducible refine (inst_register.calls a0_1 t132 false _ A10.out).mono ?_); rintro e w' ⟨rfl, ⟨nd, rfl⟩⟩; refine ⟨_, rfl, ?_⟩))
    go_meet
    case rel => exact ⟨_, (true), (by first | rfl | (simp; done) | (simp [*]; done)), H', ⟨by first | omega | exact Nat.le_refl _⟩, ⟨by (with_reducible repeat (first | refine blk_drewN ?_ _ | refine blk_drew ?_ | refine blk_alloc ?_ _)); exact BK130.out⟩, ⟨by repeat (first | (with_reducible first | exact HB.out | apply below_alloc | apply pw_below_drewN | apply below_drew1 | refine below_set ?_ GE130.out) | exact HB.out)⟩⟩
  case rest =>
   clear HC7
   try clear c1
   try clear c2
   try clear p2
   try clear c3
   try clear c3b0
   try clear c3b1
   try clear c9
   try clear c11
   try clear c13
   try clear c15
   try clear c16
   try clear hcz17_0
   try clear hcz17_1
   try clear hcz17_2
   try clear hcz17_3
   try clear hcz17_4
   try clear hcz17_5
   try clear hcz17_6
   try clear hcz17_7
   try clear hcz17_8
   try clear hcz17_9
   try clear hcz18_0
   try clear hcz18_1
   try clear hcz18_2
   try clear hcz18_3
   try clear hcz18_4
   try clear hcz18_5
   try clear hcz18_6
   try clear hcz18_7
   try clear hcz18_8
   try clear hcz18_9
   try clear hcz19_0
   try clear hcz19_1
   try clear hcz19_2
   try clear hcz19_3
   try clear hcz19_4
   try clear hcz19_5
   try clear hcz19_6
   try clear hcz19_7
   try clear hcz19_8
   try clear hcz19_9
   try clear hcz20_0
   try clear hcz20_1
   try clear hcz20_2
   try clear hcz20_3
   try clear hcz20_4
   try clear hcz20_5
   try clear hcz20_6
   try clear hcz20_7
   try clear hcz20_8
   try clear hcz20_9
   try clear hcz5_0
   try clear hcz5_1
   try clear hcz5_2
   try clear hcz5_3
   try clear hcz5_4
   try clear hcz5_5
   try clear hcz5_6
   try clear hcz5_7
   try clear hcz5_8
   try clear hcz5_9
   try clear hcz9_0
   try clear hcz9_1
   try clear hcz9_2
   try clear hcz9_3
   try clear hcz9_4
   try clear hcz9_5
   try clear hcz9_6
   try clear hcz9_7
   try clear hcz9_8
   try clear hcz9_9
   try clear hfz17_0
   try clear hfz17_1
   try clear hfz17_2
   try clear hfz17_3
   try clear hfz17_4
   try clear hfz17_5
   try clear hfz17_6
   try clear hfz17_7
   try clear hfz17_8
   try clear hfz17_9
   try clear hfz18_0
   try clear hfz18_1
   try clear hfz18_2
   try clear hfz18_3
   try clear hfz18_4
   try clear hfz18_5
   try clear hfz18_6
   try clear hfz18_7
   try clear hfz18_8
   try clear hfz18_9
   try clear hfz19_0
   try clear hfz19_1
   try clear hfz19_2
   try clear hfz19_3
   try clear hfz19_4
   try clear hfz19_5
   try clear hfz19_6
   try clear hfz19_7
   try clear hfz19_8
   try clear hfz19_9
   try clear hfz20_0
   try clear hfz20_1
   try clear hfz20_2
   try clear hfz20_3
   try clear hfz20_4
   try clear hfz20_5
   try clear hfz20_6
   try clear hfz20_7
   try clear hfz20_8
   try clear hfz20_9
   try clear hfz5_0
   try clear hfz5_1
   try clear hfz5_2
   try clear hfz5_3
   try clear hfz5_4
   try clear hfz5_5
   try clear hfz5_6
   try clear hfz5_7
   try clear hfz5_8
   try clear hfz5_9
   try clear hfz9_0
   try clear hfz9_1
   try clear hfz9_2
   try clear hfz9_3
   try clear hfz9_4
   try clear hfz9_5
   try clear hfz9_6
   try clear hfz9_7
   try clear hfz9_8
   try clear hfz9_9
   obtain ⟨kq, x45_6, rfl, HA, HJ6, BK130, HB⟩ := hcut
   cases kq with
   | zero => exact absurd HA.out (by simp [inst_Is.j0])
   | succ kj6 =>
    have H := HA.out
    clear HA
    simp only [inst_Is.j0] at H
    by_cases c21 : x45_6 = true
    ·subst c21
     rw [if_pos rfl] at H
     obtain rfl := Option.some.inj H
     go_wp2
     go_ret
     exact ⟨by first | rfl | (simp [errW_none, errW_some] <;> rfl) | (simp [*, errW_none, errW_some] <;> rfl), by repeat (first | (with_reducible first | exact HB.out | apply below_alloc | apply pw_below_drewN | apply below_drew1 | refine below_set ?_ GE130.out) | exact HB.out)⟩
    ·replace c21 := Bool.eq_false_iff.mpr c21
     subst c21
     rw [if_neg (show ¬ (false = true) by decide)] at H
     by_cases c22 : t131 = 3
     ·rw [if_pos c22] at H
      have c22b0 : (t131 == 3) = true := beq_iff_eq.mpr c22
      have c22b1 : (t131 != 3) = false := bne_eq_false_iff_eq.mpr c22
      clear c22
      replace H := Option.bind_eq_some_iff.mp H
      obtain ⟨t140, A230, H⟩ := H
      replace H : (if t140 = true then ((inst_number.f kj6 t131 a0_5).bind fun t141 => (if t141 = true then ((inst_amount.f t131 a0_7 a0_8).bind fun t142 => (if t142 = true then ((inst_cond.f t131 a0_9).bind fun t143 => (some t143)) else (some false))) else (some false))) else (some false)) = some r := H
      have A23 := Aside0.mk A230
      clear A230
      by_cases c24 : t140 = true
      ·subst c24
       rw [if_pos rfl] at H
       replace H := Option.bind_eq_some_iff.mp H
       obtain ⟨t141, A250, H⟩ := H
       replace H : (if t141 = true then ((inst_amount.f t131 a0_7 a0_8).bind fun t142 => (if t142 = true then ((inst_cond.f t131 a0_9).bind fun t143 => (some t143)) else (some false))) else (some false)) = some r := H
       have A25 := Aside0.mk A250
       clear A250
       by_cases c26 : t141 = true
       ·subst c26
        rw [if_pos rfl] at H
        replace H := Option.bind_eq_some_iff.mp H
        obtain ⟨t142, A270, H⟩ := H
        replace H : (if t142 = true then ((inst_cond.f t131 a0_9).bind fun t143 => (some t143)) else (some false)) = some r := H
        have A27 := Aside0.mk A270
        clear A270
        by_cases c28 : t142 = true
        ·subst c28
         rw [if_pos rfl] at H
         replace H := Option.bind_eq_some_iff.mp H
         obtain ⟨t143, A290, H⟩ := H
         replace H : (some t143) = some r := H
         have A29 := Aside0.mk A290
         clear A290
         obtain rfl := Option.some.inj H
         have hcz30_0 : wc.cell? ⟨gb130, 0, none⟩ = some (.int .i64 a0_0) := (blk_cell BK130.out 0).trans rfl
         have hcz30_1 : wc.cell? ⟨gb130, 1, none⟩ = some (.int .i64 a0_1) := (blk_cell BK130.out 1).trans rfl
         have hcz30_2 : wc.cell? ⟨gb130, 2, none⟩ = some (.int .i64 a0_2) := (blk_cell BK130.out 2).trans rfl
         have hcz30_3 : wc.cell? ⟨gb130, 3, none⟩ = some (.int .i64 a0_3) := (blk_cell BK130.out 3).trans rfl
         have hcz30_4 : wc.cell? ⟨gb130, 4, none⟩ = some (.int .i64 a0_4) := (blk_cell BK130.out 4).trans rfl
         have hcz30_5 : wc.cell? ⟨gb130, 5, none⟩ = some (.int .i64 a0_5) := (blk_cell BK130.out 5).trans rfl
         have hcz30_6 : wc.cell? ⟨gb130, 6, none⟩ = some (.int .u64 a0_6) := (blk_cell BK130.out 6).trans rfl
         have hcz30_7 : wc.cell? ⟨gb130, 7, none⟩ = some (.int .i64 a0_7) := (blk_cell BK130.out 7).trans rfl
         have hcz30_8 : wc.cell? ⟨gb130, 8, none⟩ = some (.int .i64 a0_8) := (blk_cell BK130.out 8).trans rfl
         have hcz30_9 : wc.cell? ⟨gb130, 9, none⟩ = some (.int .i64 a0_9) := (blk_cell BK130.out 9).trans rfl
         have hfz30_0 := blk_frozen BK130.out 0
         have hfz30_1 := blk_frozen BK130.out 1
         have hfz30_2 := blk_frozen BK130.out 2
         have hfz30_3 := blk_frozen BK130.out 3
         have hfz30_4 := blk_frozen BK130.out 4
         have hfz30_5 := blk_frozen BK130.out 5
         have hfz30_6 := blk_frozen BK130.out 6
         have hfz30_7 := blk_frozen BK130.out 7
         have hfz30_8 := blk_frozen BK130.out 8
         have hfz30_9 := blk_frozen BK130.out 9
         go_wp2_with (first | ((with_reducible refine gate_callee (f := 25) rfl ?_); refine goesL_ (some 50) rfl rfl Tryd.func25 (by kernel_rfl) rfl #[.int .u64 a0_6] rfl (by (try simp only [List.map_toArray, List.map_cons, List.map_nil]); first | done | rfl | (simp only [List.length_drop, List.length_take]; rfl)) ?_; (with_reducible refine (mask_Is.calls kj6 a0_6 true _ A23.out).mono ?_); rintro e w31 ⟨rfl, hb⟩; refine ⟨_, rfl, ?_⟩; have n0_ := Aside0.mk (blk_below (g := gb130) (o := .cells #[.int .i64 a0_0, .int .i64 a0_1, .int .i64 a0_2, .int .i64 a0_3, .int .i64 a0_4, .int .i64 a0_5, .int .u64 a0_6, .int .i64 a0_7, .int .i64 a0_8, .int .i64 a0_9] 24 (0, 0)) (by (with_reducible repeat (first | refine blk_drewN ?_ _ | refine blk_drew ?_ | refine blk_alloc ?_ _)); exact BK130.out) hb); have n1_ := Aside0.mk (below_step (by repeat (first | (with_reducible first | exact HB.out | apply below_alloc | apply pw_below_drewN | apply below_drew1 | refine below_set ?_ GE130.out) | exact HB.out)) hb); clear BK130; clear HB; have BK130 := n0_; have HB := n1_; clear n0_ n1_; (try clear hb); (try clear hb2); (try clear hk); (try clear hi); have hcz32_0 : w31.cell? ⟨gb130, 0, none⟩ = some (.int .i64 a0_0) := (blk_cell BK130.out 0).trans rfl; have hcz32_1 : w31.cell? ⟨gb130, 1, none⟩ = some (.int .i64 a0_1) := (blk_cell BK130.out 1).trans rfl; have hcz32_2 : w31.cell? ⟨gb130, 2, none⟩ = some (.int .i64 a0_2) := (blk_cell BK130.out 2).trans rfl; have hcz32_3 : w31.cell? ⟨gb130, 3, none⟩ = some (.int .i64 a0_3) := (blk_cell BK130.out 3).trans rfl; have hcz32_4 : w31.cell? ⟨gb130, 4, none⟩ = some (.int .i64 a0_4) := (blk_cell BK130.out 4).trans rfl; have hcz32_5 : w31.cell? ⟨gb130, 5, none⟩ = some (.int .i64 a0_5) := (blk_cell BK130.out 5).trans rfl; have hcz32_6 : w31.cell? ⟨gb130, 6, none⟩ = some (.int .u64 a0_6) := (blk_cell BK130.out 6).trans rfl; have hcz32_7 : w31.cell? ⟨gb130, 7, none⟩ = some (.int .i64 a0_7) := (blk_cell BK130.out 7).trans rfl; have hcz32_8 : w31.cell? ⟨gb130, 8, none⟩ = some (.int .i64 a0_8) := (blk_cell BK130.out 8).trans rfl; have hcz32_9 : w31.cell? ⟨gb130, 9, none⟩ = some (.int .i64 a0_9) := (blk_cell BK130.out 9).trans rfl; have hfz32_0 := blk_frozen BK130.out 0; have hfz32_1 := blk_frozen BK130.out 1; have hfz32_2 := blk_frozen BK130.out 2; have hfz32_3 := blk_frozen BK130.out 3; have hfz32_4 := blk_frozen BK130.out 4; have hfz32_5 := blk_frozen BK130.out 5; have hfz32_6 := blk_frozen BK130.out 6; have hfz32_7 := blk_frozen BK130.out 7; have hfz32_8 := blk_frozen BK130.out 8; have hfz32_9 := blk_frozen BK130.out 9) | ((with_reducible refine gate_callee (f := 26) rfl ?_); refine goesL_ (some 58) rfl rfl Tryd.func26 (by kernel_rfl) rfl #[.int .i64 t131, .int .i64 a0_5] rfl (by (try simp only [List.map_toArray, List.map_cons, List.map_nil]); first | done | rfl | (simp only [List.length_drop, List.length_take]; rfl)) ?_; (with_reducible refine (inst_number.calls kj6 t131 a0_5 true _ A25.out).mono ?_); rintro e w' ⟨rfl, ⟨nd, rfl⟩⟩; refine ⟨_, rfl, ?_⟩) | (go_at_call 27; (with_reducible refine (inst_amount.calls t131 a0_7 a0_8 true _ A27.out).mono ?_); rintro e w' ⟨rfl, ⟨nd, rfl⟩⟩) | (go_at_call 28; (with_reducible refine (inst_cond.calls t131 a0_9 t143 _ A29.out).mono ?_); rintro e w' ⟨rfl, ⟨nd, rfl⟩⟩))
         go_ret
         exact ⟨by first | rfl | (simp [errW_none, errW_some] <;> rfl) | (simp [*, errW_none, errW_some] <;> rfl), by repeat (first | (with_reducible first | exact HB.out | apply below_alloc | apply pw_below_drewN | apply below_drew1 | refine below_set ?_ GE130.out) | exact HB.out)⟩
        ·replace c28 := Bool.eq_false_iff.mpr c28
         subst c28
         rw [if_neg (show ¬ (false = true) by decide)] at H
         obtain rfl := Option.some.inj H
         have hcz33_0 : wc.cell? ⟨gb130, 0, none⟩ = some (.int .i64 a0_0) := (blk_cell BK130.out 0).trans rfl
         have hcz33_1 : wc.cell? ⟨gb130, 1, none⟩ = some (.int .i64 a0_1) := (blk_cell BK130.out 1).trans rfl
         have hcz33_2 : wc.cell? ⟨gb130, 2, none⟩ = some (.int .i64 a0_2) := (blk_cell BK130.out 2).trans rfl
         have hcz33_3 : wc.cell? ⟨gb130, 3, none⟩ = some (.int .i64 a0_3) := (blk_cell BK130.out 3).trans rfl
         have hcz33_4 : wc.cell? ⟨gb130, 4, none⟩ = some (.int .i64 a0_4) := (blk_cell BK130.out 4).trans rfl
         have hcz33_5 : wc.cell? ⟨gb130, 5, none⟩ = some (.int .i64 a0_5) := (blk_cell BK130.out 5).trans rfl
         have hcz33_6 : wc.cell? ⟨gb130, 6, none⟩ = some (.int .u64 a0_6) := (blk_cell BK130.out 6).trans rfl
         have hcz33_7 : wc.cell? ⟨gb130, 7, none⟩ = some (.int .i64 a0_7) := (blk_cell BK130.out 7).trans rfl
         have hcz33_8 : wc.cell? ⟨gb130, 8, none⟩ = some (.int .i64 a0_8) := (blk_cell BK130.out 8).trans rfl
         have hcz33_9 : wc.cell? ⟨gb130, 9, none⟩ = some (.int .i64 a0_9) := (blk_cell BK130.out 9).trans rfl
         have hfz33_0 := blk_frozen BK130.out 0
         have hfz33_1 := blk_frozen BK130.out 1
         have hfz33_2 := blk_frozen BK130.out 2
         have hfz33_3 := blk_frozen BK130.out 3
         have hfz33_4 := blk_frozen BK130.out 4
         have hfz33_5 := blk_frozen BK130.out 5
         have hfz33_6 := blk_frozen BK130.out 6
         have hfz33_7 := blk_frozen BK130.out 7
         have hfz33_8 := blk_frozen BK130.out 8
         have hfz33_9 := blk_frozen BK130.out 9
         go_wp2_with (first | ((with_reducible refine gate_callee (f := 25) rfl ?_); refine goesL_ (some 50) rfl rfl Tryd.func25 (by kernel_rfl) rfl #[.int .u64 a0_6] rfl (by (try simp only [List.map_toArray, List.map_cons, List.map_nil]); first | done | rfl | (simp only [List.length_drop, List.length_take]; rfl)) ?_; (with_reducible refine (mask_Is.calls kj6 a0_6 true _ A23.out).mono ?_); rintro e w34 ⟨rfl, hb⟩; refine ⟨_, rfl, ?_⟩; have n0_ := Aside0.mk (blk_below (g := gb130) (o := .cells #[.int .i64 a0_0, .int .i64 a0_1, .int .i64 a0_2, .int .i64 a0_3, .int .i64 a0_4, .int .i64 a0_5, .int .u64 a0_6, .int .i64 a0_7, .int .i64 a0_8, .int .i64 a0_9] 24 (0, 0)) (by (with_reducible repeat (first | refine blk_drewN ?_ _ | refine blk_drew ?_ | refine blk_alloc ?_ _)); exact BK130.out) hb); have n1_ := Aside0.mk (below_step (by repeat (first | (with_reducible first | exact HB.out | apply below_alloc | apply pw_below_drewN | apply below_drew1 | refine below_set ?_ GE130.out) | exact HB.out)) hb); clear BK130; clear HB; have BK130 := n0_; have HB := n1_; clear n0_ n1_; (try clear hb); (try clear hb2); (try clear hk); (try clear hi); have hcz35_0 : w34.cell? ⟨gb130, 0, none⟩ = some (.int .i64 a0_0) := (blk_cell BK130.out 0).trans rfl; have hcz35_1 : w34.cell? ⟨gb130, 1, none⟩ = some (.int .i64 a0_1) := (blk_cell BK130.out 1).trans rfl; have hcz35_2 : w34.cell? ⟨gb130, 2, none⟩ = some (.int .i64 a0_2) := (blk_cell BK130.out 2).trans rfl; have hcz35_3 : w34.cell? ⟨gb130, 3, none⟩ = some (.int .i64 a0_3) := (blk_cell BK130.out 3).trans rfl; have hcz35_4 : w34.cell? ⟨gb130, 4, none⟩ = some (.int .i64 a0_4) := (blk_cell BK130.out 4).trans rfl; have hcz35_5 : w34.cell? ⟨gb130, 5, none⟩ = some (.int .i64 a0_5) := (blk_cell BK130.out 5).trans rfl; have hcz35_6 : w34.cell? ⟨gb130, 6, none⟩ = some (.int .u64 a0_6) := (blk_cell BK130.out 6).trans rfl; have hcz35_7 : w34.cell? ⟨gb130, 7, none⟩ = some (.int .i64 a0_7) := (blk_cell BK130.out 7).trans rfl; have hcz35_8 : w34.cell? ⟨gb130, 8, none⟩ = some (.int .i64 a0_8) := (blk_cell BK130.out 8).trans rfl; have hcz35_9 : w34.cell? ⟨gb130, 9, none⟩ = some (.int .i64 a0_9) := (blk_cell BK130.out 9).trans rfl; have hfz35_0 := blk_frozen BK130.out 0; have hfz35_1 := blk_frozen BK130.out 1; have hfz35_2 := blk_frozen BK130.out 2; have hfz35_3 := blk_frozen BK130.out 3; have hfz35_4 := blk_frozen BK130.out 4; have hfz35_5 := blk_frozen BK130.out 5; have hfz35_6 := blk_frozen BK130.out 6; have hfz35_7 := blk_frozen BK130.out 7; have hfz35_8 := blk_frozen BK130.out 8; have hfz35_9 := blk_frozen BK130.out 9) | ((with_reducible refine gate_callee (f := 26) rfl ?_); refine goesL_ (some 58) rfl rfl Tryd.func26 (by kernel_rfl) rfl #[.int .i64 t131, .int .i64 a0_5] rfl (by (try simp only [List.map_toArray, List.map_cons, List.map_nil]); first | done | rfl | (simp only [List.length_drop, List.length_take]; rfl)) ?_; (with_reducible refine (inst_number.calls kj6 t131 a0_5 true _ A25.out).mono ?_); rintro e w' ⟨rfl, ⟨nd, rfl⟩⟩; refine ⟨_, rfl, ?_⟩) | (go_at_call 27; (with_reducible refine (inst_amount.calls t131 a0_7 a0_8 false _ A27.out).mono ?_); rintro e w' ⟨rfl, ⟨nd, rfl⟩⟩))
         go_ret
         exact ⟨by first | rfl | (simp [errW_none, errW_some] <;> rfl) | (simp [*, errW_none, errW_some] <;> rfl), by repeat (first | (with_reducible first | exact HB.out | apply below_alloc | apply pw_below_drewN | apply below_drew1 | refine below_set ?_ GE130.out) | exact HB.out)⟩
       ·replace c26 := Bool.eq_false_iff.mpr c26
        subst c26
        rw [if_neg (show ¬ (false = true) by decide)] at H
        obtain rfl := Option.some.inj H
        have hcz36_0 : wc.cell? ⟨gb130, 0, none⟩ = some (.int .i64 a0_0) := (blk_cell BK130.out 0).trans rfl
        have hcz36_1 : wc.cell? ⟨gb130, 1, none⟩ = some (.int .i64 a0_1) := (blk_cell BK130.out 1).trans rfl
        have hcz36_2 : wc.cell? ⟨gb130, 2, none⟩ = some (.int .i64 a0_2) := (blk_cell BK130.out 2).trans rfl
        have hcz36_3 : wc.cell? ⟨gb130, 3, none⟩ = some (.int .i64 a0_3) := (blk_cell BK130.out 3).trans rfl
        have hcz36_4 : wc.cell? ⟨gb130, 4, none⟩ = some (.int .i64 a0_4) := (blk_cell BK130.out 4).trans rfl
        have hcz36_5 : wc.cell? ⟨gb130, 5, none⟩ = some (.int .i64 a0_5) := (blk_cell BK130.out 5).trans rfl
        have hcz36_6 : wc.cell? ⟨gb130, 6, none⟩ = some (.int .u64 a0_6) := (blk_cell BK130.out 6).trans rfl
        have hcz36_7 : wc.cell? ⟨gb130, 7, none⟩ = some (.int .i64 a0_7) := (blk_cell BK130.out 7).trans rfl
        have hcz36_8 : wc.cell? ⟨gb130, 8, none⟩ = some (.int .i64 a0_8) := (blk_cell BK130.out 8).trans rfl
        have hcz36_9 : wc.cell? ⟨gb130, 9, none⟩ = some (.int .i64 a0_9) := (blk_cell BK130.out 9).trans rfl
        have hfz36_0 := blk_frozen BK130.out 0
        have hfz36_1 := blk_frozen BK130.out 1
        have hfz36_2 := blk_frozen BK130.out 2
        have hfz36_3 := blk_frozen BK130.out 3
        have hfz36_4 := blk_frozen BK130.out 4
        have hfz36_5 := blk_frozen BK130.out 5
        have hfz36_6 := blk_frozen BK130.out 6
        have hfz36_7 := blk_frozen BK130.out 7
        have hfz36_8 := blk_frozen BK130.out 8
        have hfz36_9 := blk_frozen BK130.out 9
        go_wp2_with (first | ((with_reducible refine gate_callee (f := 25) rfl ?_); refine goesL_ (some 50) rfl rfl Tryd.func25 (by kernel_rfl) rfl #[.int .u64 a0_6] rfl (by (try simp only [List.map_toArray, List.map_cons, List.map_nil]); first | done | rfl | (simp only [List.length_drop, List.length_take]; rfl)) ?_; (with_reducible refine (mask_Is.calls kj6 a0_6 true _ A23.out).mono ?_); rintro e w37 ⟨rfl, hb⟩; refine ⟨_, rfl, ?_⟩; have n0_ := Aside0.mk (blk_below (g := gb130) (o := .cells #[.int .i64 a0_0, .int .i64 a0_1, .int .i64 a0_2, .int .i64 a0_3, .int .i64 a0_4, .int .i64 a0_5, .int .u64 a0_6, .int .i64 a0_7, .int .i64 a0_8, .int .i64 a0_9] 24 (0, 0)) (by (with_reducible repeat (first | refine blk_drewN ?_ _ | refine blk_drew ?_ | refine blk_alloc ?_ _)); exact BK130.out) hb); have n1_ := Aside0.mk (below_step (by repeat (first | (with_reducible first | exact HB.out | apply below_alloc | apply pw_below_drewN | apply below_drew1 | refine below_set ?_ GE130.out) | exact HB.out)) hb); clear BK130; clear HB; have BK130 := n0_; have HB := n1_; clear n0_ n1_; (try clear hb); (try clear hb2); (try clear hk); (try clear hi); have hcz38_0 : w37.cell? ⟨gb130, 0, none⟩ = some (.int .i64 a0_0) := (blk_cell BK130.out 0).trans rfl; have hcz38_1 : w37.cell? ⟨gb130, 1, none⟩ = some (.int .i64 a0_1) := (blk_cell BK130.out 1).trans rfl; have hcz38_2 : w37.cell? ⟨gb130, 2, none⟩ = some (.int .i64 a0_2) := (blk_cell BK130.out 2).trans rfl; have hcz38_3 : w37.cell? ⟨gb130, 3, none⟩ = some (.int .i64 a0_3) := (blk_cell BK130.out 3).trans rfl; have hcz38_4 : w37.cell? ⟨gb130, 4, none⟩ = some (.int .i64 a0_4) := (blk_cell BK130.out 4).trans rfl; have hcz38_5 : w37.cell? ⟨gb130, 5, none⟩ = some (.int .i64 a0_5) := (blk_cell BK130.out 5).trans rfl; have hcz38_6 : w37.cell? ⟨gb130, 6, none⟩ = some (.int .u64 a0_6) := (blk_cell BK130.out 6).trans rfl; have hcz38_7 : w37.cell? ⟨gb130, 7, none⟩ = some (.int .i64 a0_7) := (blk_cell BK130.out 7).trans rfl; have hcz38_8 : w37.cell? ⟨gb130, 8, none⟩ = some (.int .i64 a0_8) := (blk_cell BK130.out 8).trans rfl; have hcz38_9 : w37.cell? ⟨gb130, 9, none⟩ = some (.int .i64 a0_9) := (blk_cell BK130.out 9).trans rfl; have hfz38_0 := blk_frozen BK130.out 0; have hfz38_1 := blk_frozen BK130.out 1; have hfz38_2 := blk_frozen BK130.out 2; have hfz38_3 := blk_frozen BK130.out 3; have hfz38_4 := blk_frozen BK130.out 4; have hfz38_5 := blk_frozen BK130.out 5; have hfz38_6 := blk_frozen BK130.out 6; have hfz38_7 := blk_frozen BK130.out 7; have hfz38_8 := blk_frozen BK130.out 8; have hfz38_9 := blk_frozen BK130.out 9) | ((with_reducible refine gate_callee (f := 26) rfl ?_); refine goesL_ (some 58) rfl rfl Tryd.func26 (by kernel_rfl) rfl #[.int .i64 t131, .int .i64 a0_5] rfl (by (try simp only [List.map_toArray, List.map_cons, List.map_nil]); first | done | rfl | (simp only [List.length_drop, List.length_take]; rfl)) ?_; (with_reducible refine (inst_number.calls kj6 t131 a0_5 false _ A25.out).mono ?_); rintro e w' ⟨rfl, ⟨nd, rfl⟩⟩; refine ⟨_, rfl, ?_⟩))
        go_ret
        exact ⟨by first | rfl | (simp [errW_none, errW_some] <;> rfl) | (simp [*, errW_none, errW_some] <;> rfl), by repeat (first | (with_reducible first | exact HB.out | apply below_alloc | apply pw_below_drewN | apply below_drew1 | refine below_set ?_ GE130.out) | exact HB.out)⟩
      ·replace c24 := Bool.eq_false_iff.mpr c24
       subst c24
       rw [if_neg (show ¬ (false = true) by decide)] at H
       obtain rfl := Option.some.inj H
       have hcz39_0 : wc.cell? ⟨gb130, 0, none⟩ = some (.int .i64 a0_0) := (blk_cell BK130.out 0).trans rfl
       have hcz39_1 : wc.cell? ⟨gb130, 1, none⟩ = some (.int .i64 a0_1) := (blk_cell BK130.out 1).trans rfl
       have hcz39_2 : wc.cell? ⟨gb130, 2, none⟩ = some (.int .i64 a0_2) := (blk_cell BK130.out 2).trans rfl
       have hcz39_3 : wc.cell? ⟨gb130, 3, none⟩ = some (.int .i64 a0_3) := (blk_cell BK130.out 3).trans rfl
       have hcz39_4 : wc.cell? ⟨gb130, 4, none⟩ = some (.int .i64 a0_4) := (blk_cell BK130.out 4).trans rfl
       have hcz39_5 : wc.cell? ⟨gb130, 5, none⟩ = some (.int .i64 a0_5) := (blk_cell BK130.out 5).trans rfl
       have hcz39_6 : wc.cell? ⟨gb130, 6, none⟩ = some (.int .u64 a0_6) := (blk_cell BK130.out 6).trans rfl
       have hcz39_7 : wc.cell? ⟨gb130, 7, none⟩ = some (.int .i64 a0_7) := (blk_cell BK130.out 7).trans rfl
       have hcz39_8 : wc.cell? ⟨gb130, 8, none⟩ = some (.int .i64 a0_8) := (blk_cell BK130.out 8).trans rfl
       have hcz39_9 : wc.cell? ⟨gb130, 9, none⟩ = some (.int .i64 a0_9) := (blk_cell BK130.out 9).trans rfl
       have hfz39_0 := blk_frozen BK130.out 0
       have hfz39_1 := blk_frozen BK130.out 1
       have hfz39_2 := blk_frozen BK130.out 2
       have hfz39_3 := blk_frozen BK130.out 3
       have hfz39_4 := blk_frozen BK130.out 4
       have hfz39_5 := blk_frozen BK130.out 5
       have hfz39_6 := blk_frozen BK130.out 6
       have hfz39_7 := blk_frozen BK130.out 7
       have hfz39_8 := blk_frozen BK130.out 8
       have hfz39_9 := blk_frozen BK130.out 9
       go_wp2_with (first | ((with_reducible refine gate_callee (f := 25) rfl ?_); refine goesL_ (some 50) rfl rfl Tryd.func25 (by kernel_rfl) rfl #[.int .u64 a0_6] rfl (by (try simp only [List.map_toArray, List.map_cons, List.map_nil]); first | done | rfl | (simp only [List.length_drop, List.length_take]; rfl)) ?_; (with_reducible refine (mask_Is.calls kj6 a0_6 false _ A23.out).mono ?_); rintro e w40 ⟨rfl, hb⟩; refine ⟨_, rfl, ?_⟩; have n0_ := Aside0.mk (blk_below (g := gb130) (o := .cells #[.int .i64 a0_0, .int .i64 a0_1, .int .i64 a0_2, .int .i64 a0_3, .int .i64 a0_4, .int .i64 a0_5, .int .u64 a0_6, .int .i64 a0_7, .int .i64 a0_8, .int .i64 a0_9] 24 (0, 0)) (by (with_reducible repeat (first | refine blk_drewN ?_ _ | refine blk_drew ?_ | refine blk_alloc ?_ _)); exact BK130.out) hb); have n1_ := Aside0.mk (below_step (by repeat (first | (with_reducible first | exact HB.out | apply below_alloc | apply pw_below_drewN | apply below_drew1 | refine below_set ?_ GE130.out) | exact HB.out)) hb); clear BK130; clear HB; have BK130 := n0_; have HB := n1_; clear n0_ n1_; (try clear hb); (try clear hb2); (try clear hk); (try clear hi)))
       go_ret
       exact ⟨by first | rfl | (simp [errW_none, errW_some] <;> rfl) | (simp [*, errW_none, errW_some] <;> rfl), by repeat (first | (with_reducible first | exact HB.out | apply below_alloc | apply pw_below_drewN | apply below_drew1 | refine below_set ?_ GE130.out) | exact HB.out)⟩
     ·rw [if_neg c22] at H
      have c22b0 : (t131 == 3) = false := beq_eq_false_iff_ne.mpr c22
      have c22b1 : (t131 != 3) = true := bne_iff_ne.mpr c22
      by_cases c41 : a0_6 = 0
      ·rw [if_pos c41] at H
       have c41b0 : (a0_6 == 0) = true := beq_iff_eq.mpr c41
       have c41b1 : (a0_6 != 0) = false := bne_eq_false_iff_eq.mpr c41
       clear c41
       replace H := Option.bind_eq_some_iff.mp H
       obtain ⟨t144, A420, H⟩ := H
       replace H : (if t144 = true then ((inst_amount.f t131 a0_7 a0_8).bind fun t145 => (if t145 = true then ((inst_cond.f t131 a0_9).bind fun t146 => (some t146)) else (some false))) else (some false)) = some r := H
       have A42 := Aside0.mk A420
       clear A420
       by_cases c43 : t144 = true
       ·subst c43
        rw [if_pos rfl] at H
        replace H := Option.bind_eq_some_iff.mp H
        obtain ⟨t145, A440, H⟩ := H
        replace H : (if t145 = true then ((inst_cond.f t131 a0_9).bind fun t146 => (some t146)) else (some false)) = some r := H
        have A44 := Aside0.mk A440
        clear A440
        by_cases c45 : t145 = true
        ·subst c45
         rw [if_pos rfl] at H
         replace H := Option.bind_eq_some_iff.mp H
         obtain ⟨t146, A460, H⟩ := H
         replace H : (some t146) = some r := H
         have A46 := Aside0.mk A460
         clear A460
         obtain rfl := Option.some.inj H
         have hcz47_0 : wc.cell? ⟨gb130, 0, none⟩ = some (.int .i64 a0_0) := (blk_cell BK130.out 0).trans rfl
         have hcz47_1 : wc.cell? ⟨gb130, 1, none⟩ = some (.int .i64 a0_1) := (blk_cell BK130.out 1).trans rfl
         have hcz47_2 : wc.cell? ⟨gb130, 2, none⟩ = some (.int .i64 a0_2) := (blk_cell BK130.out 2).trans rfl
         have hcz47_3 : wc.cell? ⟨gb130, 3, none⟩ = some (.int .i64 a0_3) := (blk_cell BK130.out 3).trans rfl
         have hcz47_4 : wc.cell? ⟨gb130, 4, none⟩ = some (.int .i64 a0_4) := (blk_cell BK130.out 4).trans rfl
         have hcz47_5 : wc.cell? ⟨gb130, 5, none⟩ = some (.int .i64 a0_5) := (blk_cell BK130.out 5).trans rfl
         have hcz47_6 : wc.cell? ⟨gb130, 6, none⟩ = some (.int .u64 a0_6) := (blk_cell BK130.out 6).trans rfl
         have hcz47_7 : wc.cell? ⟨gb130, 7, none⟩ = some (.int .i64 a0_7) := (blk_cell BK130.out 7).trans rfl
         have hcz47_8 : wc.cell? ⟨gb130, 8, none⟩ = some (.int .i64 a0_8) := (blk_cell BK130.out 8).trans rfl
         have hcz47_9 : wc.cell? ⟨gb130, 9, none⟩ = some (.int .i64 a0_9) := (blk_cell BK130.out 9).trans rfl
         have hfz47_0 := blk_frozen BK130.out 0
         have hfz47_1 := blk_frozen BK130.out 1
         have hfz47_2 := blk_frozen BK130.out 2
         have hfz47_3 := blk_frozen BK130.out 3
         have hfz47_4 := blk_frozen BK130.out 4
         have hfz47_5 := blk_frozen BK130.out 5
         have hfz47_6 := blk_frozen BK130.out 6
         have hfz47_7 := blk_frozen BK130.out 7
         have hfz47_8 := blk_frozen BK130.out 8
         have hfz47_9 := blk_frozen BK130.out 9
         go_wp2_with (first | ((with_reducible refine gate_callee (f := 26) rfl ?_); refine goesL_ (some 58) rfl rfl Tryd.func26 (by kernel_rfl) rfl #[.int .i64 t131, .int .i64 a0_5] rfl (by (try simp only [List.map_toArray, List.map_cons, List.map_nil]); first | done | rfl | (simp only [List.length_drop, List.length_take]; rfl)) ?_; (with_reducible refine (inst_number.calls kj6 t131 a0_5 true _ A42.out).mono ?_); rintro e w' ⟨rfl, ⟨nd, rfl⟩⟩; refine ⟨_, rfl, ?_⟩) | (go_at_call 27; (with_reducible refine (inst_amount.calls t131 a0_7 a0_8 true _ A44.out).mono ?_); rintro e w' ⟨rfl, ⟨nd, rfl⟩⟩) | (go_at_call 28; (with_reducible refine (inst_cond.calls t131 a0_9 t146 _ A46.out).mono ?_); rintro e w' ⟨rfl, ⟨nd, rfl⟩⟩))
         go_ret
         exact ⟨by first | rfl | (simp [errW_none, errW_some] <;> rfl) | (simp [*, errW_none, errW_some] <;> rfl), by repeat (first | (with_reducible first | exact HB.out | apply below_alloc | apply pw_below_drewN | apply below_drew1 | refine below_set ?_ GE130.out) | exact HB.out)⟩
        ·replace c45 := Bool.eq_false_iff.mpr c45
         subst c45
         rw [if_neg (show ¬ (false = true) by decide)] at H
         obtain rfl := Option.some.inj H
         have hcz48_0 : wc.cell? ⟨gb130, 0, none⟩ = some (.int .i64 a0_0) := (blk_cell BK130.out 0).trans rfl
         have hcz48_1 : wc.cell? ⟨gb130, 1, none⟩ = some (.int .i64 a0_1) := (blk_cell BK130.out 1).trans rfl
         have hcz48_2 : wc.cell? ⟨gb130, 2, none⟩ = some (.int .i64 a0_2) := (blk_cell BK130.out 2).trans rfl
         have hcz48_3 : wc.cell? ⟨gb130, 3, none⟩ = some (.int .i64 a0_3) := (blk_cell BK130.out 3).trans rfl
         have hcz48_4 : wc.cell? ⟨gb130, 4, none⟩ = some (.int .i64 a0_4) := (blk_cell BK130.out 4).trans rfl
         have hcz48_5 : wc.cell? ⟨gb130, 5, none⟩ = some (.int .i64 a0_5) := (blk_cell BK130.out 5).trans rfl
         have hcz48_6 : wc.cell? ⟨gb130, 6, none⟩ = some (.int .u64 a0_6) := (blk_cell BK130.out 6).trans rfl
         have hcz48_7 : wc.cell? ⟨gb130, 7, none⟩ = some (.int .i64 a0_7) := (blk_cell BK130.out 7).trans rfl
         have hcz48_8 : wc.cell? ⟨gb130, 8, none⟩ = some (.int .i64 a0_8) := (blk_cell BK130.out 8).trans rfl
         have hcz48_9 : wc.cell? ⟨gb130, 9, none⟩ = some (.int .i64 a0_9) := (blk_cell BK130.out 9).trans rfl
         have hfz48_0 := blk_frozen BK130.out 0
         have hfz48_1 := blk_frozen BK130.out 1
         have hfz48_2 := blk_frozen BK130.out 2
         have hfz48_3 := blk_frozen BK130.out 3
         have hfz48_4 := blk_frozen BK130.out 4
         have hfz48_5 := blk_frozen BK130.out 5
         have hfz48_6 := blk_frozen BK130.out 6
         have hfz48_7 := blk_frozen BK130.out 7
         have hfz48_8 := blk_frozen BK130.out 8
         have hfz48_9 := blk_frozen BK130.out 9
         go_wp2_with (first | ((with_reducible refine gate_callee (f := 26) rfl ?_); refine goesL_ (some 58) rfl rfl Tryd.func26 (by kernel_rfl) rfl #[.int .i64 t131, .int .i64 a0_5] rfl (by (try simp only [List.map_toArray, List.map_cons, List.map_nil]); first | done | rfl | (simp only [List.length_drop, List.length_take]; rfl)) ?_; (with_reducible refine (inst_number.calls kj6 t131 a0_5 true _ A42.out).mono ?_); rintro e w' ⟨rfl, ⟨nd, rfl⟩⟩; refine ⟨_, rfl, ?_⟩) | (go_at_call 27; (with_reducible refine (inst_amount.calls t131 a0_7 a0_8 false _ A44.out).mono ?_); rintro e w' ⟨rfl, ⟨nd, rfl⟩⟩))
         go_ret
         exact ⟨by first | rfl | (simp [errW_none, errW_some] <;> rfl) | (simp [*, errW_none, errW_some] <;> rfl), by repeat (first | (with_reducible first | exact HB.out | apply below_alloc | apply pw_below_drewN | apply below_drew1 | refine below_set ?_ GE130.out) | exact HB.out)⟩
       ·replace c43 := Bool.eq_false_iff.mpr c43
        subst c43
        rw [if_neg (show ¬ (false = true) by decide)] at H
        obtain rfl := Option.some.inj H
        have hcz49_0 : wc.cell? ⟨gb130, 0, none⟩ = some (.int .i64 a0_0) := (blk_cell BK130.out 0).trans rfl
        have hcz49_1 : wc.cell? ⟨gb130, 1, none⟩ = some (.int .i64 a0_1) := (blk_cell BK130.out 1).trans rfl
        have hcz49_2 : wc.cell? ⟨gb130, 2, none⟩ = some (.int .i64 a0_2) := (blk_cell BK130.out 2).trans rfl
        have hcz49_3 : wc.cell? ⟨gb130, 3, none⟩ = some (.int .i64 a0_3) := (blk_cell BK130.out 3).trans rfl
        have hcz49_4 : wc.cell? ⟨gb130, 4, none⟩ = some (.int .i64 a0_4) := (blk_cell BK130.out 4).trans rfl
        have hcz49_5 : wc.cell? ⟨gb130, 5, none⟩ = some (.int .i64 a0_5) := (blk_cell BK130.out 5).trans rfl
        have hcz49_6 : wc.cell? ⟨gb130, 6, none⟩ = some (.int .u64 a0_6) := (blk_cell BK130.out 6).trans rfl
        have hcz49_7 : wc.cell? ⟨gb130, 7, none⟩ = some (.int .i64 a0_7) := (blk_cell BK130.out 7).trans rfl
        have hcz49_8 : wc.cell? ⟨gb130, 8, none⟩ = some (.int .i64 a0_8) := (blk_cell BK130.out 8).trans rfl
        have hcz49_9 : wc.cell? ⟨gb130, 9, none⟩ = some (.int .i64 a0_9) := (blk_cell BK130.out 9).trans rfl
        have hfz49_0 := blk_frozen BK130.out 0
        have hfz49_1 := blk_frozen BK130.out 1
        have hfz49_2 := blk_frozen BK130.out 2
        have hfz49_3 := blk_frozen BK130.out 3
        have hfz49_4 := blk_frozen BK130.out 4
        have hfz49_5 := blk_frozen BK130.out 5
        have hfz49_6 := blk_frozen BK130.out 6
        have hfz49_7 := blk_frozen BK130.out 7
        have hfz49_8 := blk_frozen BK130.out 8
        have hfz49_9 := blk_frozen BK130.out 9
        go_wp2_with (first | ((with_reducible refine gate_callee (f := 26) rfl ?_); refine goesL_ (some 58) rfl rfl Tryd.func26 (by kernel_rfl) rfl #[.int .i64 t131, .int .i64 a0_5] rfl (by (try simp only [List.map_toArray, List.map_cons, List.map_nil]); first | done | rfl | (simp only [List.length_drop, List.length_take]; rfl)) ?_; (with_reducible refine (inst_number.calls kj6 t131 a0_5 false _ A42.out).mono ?_); rintro e w' ⟨rfl, ⟨nd, rfl⟩⟩; refine ⟨_, rfl, ?_⟩))
        go_ret
        exact ⟨by first | rfl | (simp [errW_none, errW_some] <;> rfl) | (simp [*, errW_none, errW_some] <;> rfl), by repeat (first | (with_reducible first | exact HB.out | apply below_alloc | apply pw_below_drewN | apply below_drew1 | refine below_set ?_ GE130.out) | exact HB.out)⟩
      ·rw [if_neg c41] at H
       have c41b0 : (a0_6 == 0) = false := beq_eq_false_iff_ne.mpr c41
       have c41b1 : (a0_6 != 0) = true := bne_iff_ne.mpr c41
       obtain rfl := Option.some.inj H
       have hcz50_0 : wc.cell? ⟨gb130, 0, none⟩ = some (.int .i64 a0_0) := (blk_cell BK130.out 0).trans rfl
       have hcz50_1 : wc.cell? ⟨gb130, 1, none⟩ = some (.int .i64 a0_1) := (blk_cell BK130.out 1).trans rfl
       have hcz50_2 : wc.cell? ⟨gb130, 2, none⟩ = some (.int .i64 a0_2) := (blk_cell BK130.out 2).trans rfl
       have hcz50_3 : wc.cell? ⟨gb130, 3, none⟩ = some (.int .i64 a0_3) := (blk_cell BK130.out 3).trans rfl
       have hcz50_4 : wc.cell? ⟨gb130, 4, none⟩ = some (.int .i64 a0_4) := (blk_cell BK130.out 4).trans rfl
       have hcz50_5 : wc.cell? ⟨gb130, 5, none⟩ = some (.int .i64 a0_5) := (blk_cell BK130.out 5).trans rfl
       have hcz50_6 : wc.cell? ⟨gb130, 6, none⟩ = some (.int .u64 a0_6) := (blk_cell BK130.out 6).trans rfl
       have hcz50_7 : wc.cell? ⟨gb130, 7, none⟩ = some (.int .i64 a0_7) := (blk_cell BK130.out 7).trans rfl
       have hcz50_8 : wc.cell? ⟨gb130, 8, none⟩ = some (.int .i64 a0_8) := (blk_cell BK130.out 8).trans rfl
       have hcz50_9 : wc.cell? ⟨gb130, 9, none⟩ = some (.int .i64 a0_9) := (blk_cell BK130.out 9).trans rfl
       have hfz50_0 := blk_frozen BK130.out 0
       have hfz50_1 := blk_frozen BK130.out 1
       have hfz50_2 := blk_frozen BK130.out 2
       have hfz50_3 := blk_frozen BK130.out 3
       have hfz50_4 := blk_frozen BK130.out 4
       have hfz50_5 := blk_frozen BK130.out 5
       have hfz50_6 := blk_frozen BK130.out 6
       have hfz50_7 := blk_frozen BK130.out 7
       have hfz50_8 := blk_frozen BK130.out 8
       have hfz50_9 := blk_frozen BK130.out 9
       go_wp2
       go_ret
       exact ⟨by first | rfl | (simp [errW_none, errW_some] <;> rfl) | (simp [*, errW_none, errW_some] <;> rfl), by repeat (first | (with_reducible first | exact HB.out | apply below_alloc | apply pw_below_drewN | apply below_drew1 | refine below_set ?_ GE130.out) | exact HB.out)⟩

end Go.Proofs.YtemenenkefcebaaDoor.P
