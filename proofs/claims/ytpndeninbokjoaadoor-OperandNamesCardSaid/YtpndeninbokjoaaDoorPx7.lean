-- printed by wip/tools/myprint.py out of the translation. Not trusted: Lean checks it.
import Derived.Test.YtpndeninbokjoaaDoorPx0
import Derived.Test.YtpndeninbokjoaaDoorPx5
import Derived.Test.YtpndeninbokjoaaDoorPx6
namespace Go.Proofs.YtpndeninbokjoaaDoor.P
open Go.RowKit Go.Proofs.YtpndeninbokjoaaDoorW.PrintWords Go.Proofs.YtpndeninbokjoaaDoorW.PrintLast Go.Proofs.YtpndeninbokjoaaDoorW.PrintMore
attribute [local go_sem] max2_int min2_int max_two min_two max_three min_three max_four min_four   -- for this text's walks alone
set_option linter.unusedVariables false
set_option linter.unusedSimpArgs false

/-! ### num_Text: function 21 -/
def num_Text.f (a0 : Int) : Option (ByteArray) := (strconv_FormatUint_39.f a0 10).bind fun t155 => (some t155)
set_option maxHeartbeats 8000000 in
set_option maxRecDepth 100000 in
theorem num_Text.calls (a0 : Int) (r : ByteArray) (w : World) (h : num_Text.f a0 = some r) (HT : Aside0 (Tabs w)) :
  Calls Tryd.prog 21 #[.int .u64 a0] w fun e w' => e = .returned (.string r) ∧ Below w.heap.size w w' := by
 have HB := Aside0.mk (Below.refl w.heap.size w)
 have H : ((strconv_FormatUint_39.f a0 10).bind fun t155 => (some t155)) = some r := h
 clear h
 replace H := Option.bind_eq_some_iff.mp H
 obtain ⟨t155, A20, H⟩ := H
 replace H : (some t155) = some r := H
 have A2 := Aside0.mk A20
 clear A20
 obtain rfl := Option.some.inj H
 go_enter Tryd.func21, Tryd.ntmps21
 go_wp2_with (first | ((with_reducible refine gate_callee (f := 39) rfl ?_); refine goesL_ (some 4) rfl rfl Tryd.func39 (by kernel_rfl) rfl #[.int .u64 a0, .int .i64 10] rfl (by (try simp only [List.map_toArray, List.map_cons, List.map_nil]); first | done | rfl | (simp only [List.length_drop, List.length_take]; rfl)) ?_; (with_reducible refine (strconv_FormatUint_39.calls a0 10 t155 _ A2.out ?tabs).mono ?_); (case tabs => (first | exact HT | (refine tabs_of HT ?_; repeat (first | (with_reducible first | exact Below.refl _ _ | exact (Aside0.out (by assumption)) | exact (Drawn0.below (by assumption)) | apply below_alloc | apply pw_below_drewN | apply below_drew1 | assumption) | exact HB.out)))); rintro e w3 ⟨rfl, hb⟩; refine ⟨_, rfl, ?_⟩; have n0_ := Aside0.mk (below_step (by repeat (first | (with_reducible first | exact HB.out | apply below_alloc | apply pw_below_drewN | apply below_drew1) | exact HB.out)) hb); clear HB; have HB := n0_; clear n0_; (try clear hb); (try clear hb2); (try clear hk); (try clear hi)))
 go_ret
 exact ⟨by first | rfl | (simp [errW_none, errW_some] <;> rfl) | (simp [*, errW_none, errW_some] <;> rfl), by repeat (first | (with_reducible first | exact HB.out | apply below_alloc | apply pw_below_drewN | apply below_drew1) | exact HB.out)⟩

/-! ### operand_Reg: function 9 -/
def operand_Reg.f (a0 : ByteArray) : Option (Int × Bool × Int) := if a0.toList = ([115, 112] : List UInt8) then (some (31, true, 0)) else (if a0.toList = ([120, 122, 114] : List UInt8) then (some (31, false, 0)) else (if (a0.size : Int) < 2 then (some (0, false, 3)) else (if (a0.size : Int) > 3 then (some (0, false, 3)) else (if 0 < (a0.size : Int) then (if (bt a0 0) = 120 then (if 1 ≤ (a0.size : Int) then ((num_Value.f (a0.extract 1 a0.size)).bind fun bt156 => (if bt156.2 = 0 then (if bt156.1 ≥ 31 then (some (0, false, 3)) else ((num_Text.f bt156.1).bind fun t158 => (if t158.toList = (a0.extract 1 a0.size).toList then (some (wrap64 (bt156.1), false, 0)) else (some (0, false, 3))))) else (some (0, false, 3)))) else (none)) else (some (0, false, 3))) else (none)))))
def operand_Reg.T8 : Bool × List (List Nat × List Nat) := (true, [([], []), ([0], [0]), ([1], [1]), ([2], [2]), ([3, 2], [2, 3]), ([2, 4], [2, 4]), ([5, 2], [5]), ([6], [6]), ([7, 6, 6], [6, 7]), ([6], [6]), ([9, 6], [6, 9]), ([8, 10, 6], [6, 8, 10]), ([6, 11], [6, 11])])
def operand_Reg.B8 : List Nat := [0, 1, 3, 7, 15, 31, 63, 127, 255, 127, 639, 2047, 4095]
theorem operand_Reg.tab8 : rtab .any (opsOf Tryd.f9 8) = operand_Reg.T8 := by kernel_rfl
theorem operand_Reg.bits8 : waitsOk operand_Reg.T8.2 operand_Reg.B8 = true := by kernel_rfl
set_option maxHeartbeats 8000000 in
set_option maxRecDepth 100000 in
theorem operand_Reg.calls (a0 : ByteArray) (r1 : Int) (r2 : Bool) (r3 : Int) (w : World) (h : operand_Reg.f a0 = some (r1, r2, r3)) (HT : Aside0 (Tabs w)) :
  Calls Tryd.prog 9 #[.string a0] w fun e w' => e = .returned (.tuple #[.int .i64 r1, .bool r2, .int .i64 r3]) ∧ Below w.heap.size w w' := by
 have HB := Aside0.mk (Below.refl w.heap.size w)
 have H : (if a0.toList = ([115, 112] : List UInt8) then (some (31, true, 0)) else (if a0.toList = ([120, 122, 114] : List UInt8) then (some (31, false, 0)) else (if (a0.size : Int) < 2 then (some (0, false, 3)) else (if (a0.size : Int) > 3 then (some (0, false, 3)) else (if 0 < (a0.size : Int) then (if (bt a0 0) = 120 then (if 1 ≤ (a0.size : Int) then ((num_Value.f (a0.extract 1 a0.size)).bind fun bt156 => (if bt156.2 = 0 then (if bt156.1 ≥ 31 then (some (0, false, 3)) else ((num_Text.f bt156.1).bind fun t158 => (if t158.toList = (a0.extract 1 a0.size).toList then (some (wrap64 (bt156.1), false, 0)) else (some (0, false, 3))))) else (some (0, false, 3)))) else (none)) else (some (0, false, 3))) else (none)))))) = some (r1, r2, r3) := h
 clear h
 by_cases c2 : a0.toList = ([115, 112] : List UInt8)
 ·rw [if_pos c2] at H
  have c2b0 : (a0.toList == ([115, 112] : List UInt8)) = true := beq_iff_eq.mpr c2
  have c2b1 : (a0.toList != ([115, 112] : List UInt8)) = false := bne_eq_false_iff_eq.mpr c2
  clear c2
  simp only [Option.some.injEq, Prod.mk.injEq] at H
  obtain ⟨rfl, rfl, rfl⟩ := H
  go_enter Tryd.func9, Tryd.ntmps9
  go_wp2
  go_ret3
  exact ⟨by first | rfl | (simp [errW_none, errW_some] <;> rfl) | (simp [*, errW_none, errW_some] <;> rfl), by repeat (first | (with_reducible first | exact HB.out | apply below_alloc | apply pw_below_drewN | apply below_drew1) | exact HB.out)⟩
 ·rw [if_neg c2] at H
  have c2b0 : (a0.toList == ([115, 112] : List UInt8)) = false := beq_eq_false_iff_ne.mpr c2
  have c2b1 : (a0.toList != ([115, 112] : List UInt8)) = true := bne_iff_ne.mpr c2
  by_cases c3 : a0.toList = ([120, 122, 114] : List UInt8)
  ·rw [if_pos c3] at H
   have c3b0 : (a0.toList == ([120, 122, 114] : List UInt8)) = true := beq_iff_eq.mpr c3
   have c3b1 : (a0.toList != ([120, 122, 114] : List UInt8)) = false := bne_eq_false_iff_eq.mpr c3
   clear c3
   simp only [Option.some.injEq, Prod.mk.injEq] at H
   obtain ⟨rfl, rfl, rfl⟩ := H
   go_enter Tryd.func9, Tryd.ntmps9
   go_wp2
   go_ret3
   exact ⟨by first | rfl | (simp [errW_none, errW_some] <;> rfl) | (simp [*, errW_none, errW_some] <;> rfl), by repeat (first | (with_reducible first | exact HB.out | apply below_alloc | apply pw_below_drewN | apply below_drew1) | exact HB.out)⟩
  ·rw [if_neg c3] at H
   have c3b0 : (a0.toList == ([120, 122, 114] : List UInt8)) = false := beq_eq_false_iff_ne.mpr c3
   have c3b1 : (a0.toList != ([120, 122, 114] : List UInt8)) = true := bne_iff_ne.mpr c3
   by_cases c4 : (a0.size : Int) < 2
   ·rw [if_pos c4] at H
    have c4b0 : decide ((a0.size : Int) < 2) = true := decide_eq_true c4
    have c4b1 : decide (a0.size < 2) = true := decide_eq_true (by omega)
    clear c4
    simp only [Option.some.injEq, Prod.mk.injEq] at H
    obtain ⟨rfl, rfl, rfl⟩ := H
    go_enter Tryd.func9, Tryd.ntmps9
    go_wp2
    go_ret3
    exact ⟨by first | rfl | (simp [errW_none, errW_some] <;> rfl) | (simp [*, errW_none, errW_some] <;> rfl), by repeat (first | (with_reducible first | exact HB.out | apply below_alloc | apply pw_below_drewN | apply below_drew1) | exact HB.out)⟩
   ·rw [if_neg c4] at H
    have c4b0 : decide ((a0.size : Int) < 2) = false := decide_eq_false c4
    have c4b1 : decide (a0.size < 2) = false := decide_eq_false (by omega)
    clear c4
    by_cases c5 : (a0.size : Int) > 3
    ·rw [if_pos c5] at H
     have c5b0 : decide (3 < (a0.size : Int)) = true := decide_eq_true c5
     have c5b1 : decide (3 < a0.size) = true := decide_eq_true (by omega)
     clear c5
     simp only [Option.some.injEq, Prod.mk.injEq] at H
     obtain ⟨rfl, rfl, rfl⟩ := H
     go_enter Tryd.func9, Tryd.ntmps9
     go_wp2
     go_ret3
     exact ⟨by first | rfl | (simp [errW_none, errW_some] <;> rfl) | (simp [*, errW_none, errW_some] <;> rfl), by repeat (first | (with_reducible first | exact HB.out | apply below_alloc | apply pw_below_drewN | apply below_drew1) | exact HB.out)⟩
    ·rw [if_neg c5] at H
     have c5b0 : decide (3 < (a0.size : Int)) = false := decide_eq_false c5
     have c5b1 : decide (3 < a0.size) = false := decide_eq_false (by omega)
     clear c5
     by_cases c6 : 0 < (a0.size : Int)
     ·rw [if_pos c6] at H
      have c6b0 : decide (0 < (a0.size : Int)) = true := decide_eq_true c6
      have c6b1 : decide (0 < a0.size) = true := decide_eq_true (by omega)
      clear c6
      by_cases c8 : (bt a0 0) = 120
      ·rw [if_pos c8] at H
       have c8b0 : ((bt a0 0) == 120) = true := beq_iff_eq.mpr c8
       have c8b1 : ((bt a0 0) != 120) = false := bne_eq_false_iff_eq.mpr c8
       clear c8
       by_cases c9 : 1 ≤ (a0.size : Int)
       ·rw [if_pos c9] at H
        have c9b0 := eq_true c9
        have c9b1 : decide (1 ≤ (a0.size : Int)) = true := decide_eq_true c9
        clear c9
        replace H := Option.bind_eq_some_iff.mp H
        obtain ⟨⟨t156, t157⟩, A100, H⟩ := H
        replace H : (if t157 = 0 then (if t156 ≥ 31 then (some (0, false, 3)) else ((num_Text.f t156).bind fun t158 => (if t158.toList = (a0.extract 1 a0.size).toList then (some (wrap64 (t156), false, 0)) else (some (0, false, 3))))) else (some (0, false, 3))) = some (r1, r2, r3) := H
        have A10 := Aside0.mk A100
        clear A100
        by_cases c11 : t157 = 0
        ·rw [if_pos c11] at H
         have c11b0 : (t157 == 0) = true := beq_iff_eq.mpr c11
         have c11b1 : (t157 != 0) = false := bne_eq_false_iff_eq.mpr c11
         clear c11
         by_cases c12 : t156 ≥ 31
         ·rw [if_pos c12] at H
          have c12b0 : decide (31 ≤ t156) = true := decide_eq_true c12
          clear c12
          simp only [Option.some.injEq, Prod.mk.injEq] at H
          obtain ⟨rfl, rfl, rfl⟩ := H
          have p7 : 0 ≤ (0 : Int) := (by omega)
          have q7 : 0 < a0.size := (by have : (0 : Int) < (a0.size : Int) := of_decide_eq_true (by first | (with_reducible assumption) | assumption); omega)
          have hx7 : ∀ h : 0 < a0.size, ((a0[0]'h).toNat : Int) = bt a0 0 := bt_at a0 0
          clear p7
          have qi7 : (0 < (a0.size : Int)) = True := eq_true (of_decide_eq_true (by first | (with_reducible assumption) | assumption))
          replace q7 := eq_true q7
          go_enter Tryd.func9, Tryd.ntmps9
          try go_wp2_with (first | ((with_reducible refine gate_callee (f := 20) rfl ?_); refine goesL_ (some 30) rfl rfl Tryd.func20 (by kernel_rfl) rfl #[.string (a0.extract 1 a0.size)] rfl (by (try simp only [List.map_toArray, List.map_cons, List.map_nil]); first | done | rfl | (simp only [List.length_drop, List.length_take]; rfl)) ?_; (with_reducible refine (num_Value.calls (a0.extract 1 a0.size) t156 t157 _ A10.out).mono ?_); rintro e w13 ⟨rfl, hb⟩; refine ⟨_, rfl, ?_⟩; have n0_ := Aside0.mk (below_step (by repeat (first | (with_reducible first | exact HB.out | apply below_alloc | apply pw_below_drewN | apply below_drew1) | exact HB.out)) hb); clear HB; have HB := n0_; clear n0_; (try clear hb); (try clear hb2); (try clear hk); (try clear hi)))
          have n0_ := Aside0.mk (below_drew1 HB.out)
          clear HB
          have HB := n0_
          clear n0_
          refine start_ (n := 13) (S := fun w' => True) (ds := []) #[false, false, false, false, false, false, false, false, false, false, false, false, false] (by kernel_rfl) rfl rfl trivial (fun hHeld => ?_); refine with_tabW operand_Reg.tab8 operand_Reg.bits8 (fun HT_ HW_ => ?_)
          generalize w13.drew = w14 at HB hHeld ⊢
          refine pure_ (i := 0) (N := some 33) (v := ?_) (a' := ?_) #[true, false, false, false, false, false, false, false, false, false, false, false, false] rfl rfl (any_of HT_.out (by kernel_rfl)) (fun _ _ _ h => h) (Or.inl ⟨by rfl, ?_⟩) ?_ ?_
          rotate_left
          ·intro w'
           go_simp
           with_reducible rfl
          rotate_left
          ·simp only [Act.put, List.setIfInBounds_toArray, List.set_cons_zero, List.set_cons_succ, i64_w, i32_w]
           rfl
          refine pure_ (i := 1) (N := some 34) (v := ?_) (a' := ?_) #[true, true, false, false, false, false, false, false, false, false, false, false, false] rfl rfl (any_of HT_.out (by kernel_rfl)) (fun _ _ _ h => h) (Or.inl ⟨by rfl, ?_⟩) ?_ ?_
          rotate_left
          ·intro w'
           go_simp
           with_reducible rfl
          rotate_left
          ·simp only [Act.put, List.setIfInBounds_toArray, List.set_cons_zero, List.set_cons_succ, i64_w, i32_w]
           rfl
          refine pure_ (i := 2) (N := some 35) (v := ?_) (a' := ?_) #[true, true, true, false, false, false, false, false, false, false, false, false, false] rfl rfl (any_of HT_.out (by kernel_rfl)) (fun _ _ _ h => h) (Or.inl ⟨by rfl, ?_⟩) ?_ ?_
          rotate_left
          ·intro w'
           go_simp
           with_reducible rfl
          rotate_left
          ·simp only [Act.put, List.setIfInBounds_toArray, List.set_cons_zero, List.set_cons_succ, i64_w, i32_w]
           rfl
          refine pure_ (i := 3) (N := some 36) (v := ?_) (a' := ?_) #[true, true, true, true, false, false, false, false, false, false, false, false, false] rfl rfl (any_of HT_.out (by kernel_rfl)) (fun _ _ _ h => h) (Or.inl ⟨by rfl, ?_⟩) ?_ ?_
          rotate_left
          ·intro w'
           go_simp
           with_reducible rfl
          rotate_left
          ·simp only [Act.put, List.setIfInBounds_toArray, List.set_cons_zero, List.set_cons_succ, i64_w, i32_w]
           rfl
          refine pure_ (i := 4) (N := some 37) (v := ?_) (a' := ?_) #[true, true, true, true, true, false, false, false, false, false, false, false, false] rfl rfl (any_of HT_.out (by kernel_rfl)) (fun _ _ _ h => h) (Or.inl ⟨by rfl, ?_⟩) ?_ ?_
          rotate_left
          ·intro w'
           go_simp
           with_reducible rfl
          rotate_left
          ·simp only [Act.put, List.setIfInBounds_toArray, List.set_cons_zero, List.set_cons_succ, i64_w, i32_w]
           rfl
          refine pure_ (i := 5) (N := some 38) (v := ?_) (a' := ?_) #[true, true, true, true, true, true, false, false, false, false, false, false, false] rfl rfl (any_of HT_.out (by kernel_rfl)) (fun _ _ _ h => h) (Or.inl ⟨by rfl, ?_⟩) ?_ ?_
          rotate_left
          ·intro w'
           go_simp
           with_reducible rfl
          rotate_left
          ·simp only [Act.put, List.setIfInBounds_toArray, List.set_cons_zero, List.set_cons_succ, i64_w, i32_w]
           rfl
          refine pure_ (i := 6) (N := some 39) (v := ?_) (a' := ?_) #[true, true, true, true, true, true, true, false, false, false, false, false, false] rfl rfl (any_of HT_.out (by kernel_rfl)) (fun _ _ _ h => h) (Or.inl ⟨by rfl, ?_⟩) ?_ ?_
          rotate_left
          ·intro w'
           go_simp
           with_reducible rfl
          rotate_left
          ·simp only [Act.put, List.setIfInBounds_toArray, List.set_cons_zero, List.set_cons_succ, i64_w, i32_w]
           rfl
          refine pure_ (i := 7) (N := some 40) (v := undef) (a' := ?_) #[true, true, true, true, true, true, true, true, false, false, false, false, false] rfl rfl (any_of HT_.out (by kernel_rfl)) (fun _ _ _ h => h) (Or.inr ⟨by rfl, rfl⟩) ?_ ?_
          rotate_left
          ·simp only [Act.put, List.setIfInBounds_toArray, List.set_cons_zero, List.set_cons_succ, i64_w, i32_w]
           rfl
          refine pure_ (i := 8) (N := some 41) (v := undef) (a' := ?_) #[true, true, true, true, true, true, true, true, true, false, false, false, false] rfl rfl (any_of HT_.out (by kernel_rfl)) (fun _ _ _ h => h) (Or.inr ⟨by rfl, rfl⟩) ?_ ?_
          rotate_left
          ·simp only [Act.put, List.setIfInBounds_toArray, List.set_cons_zero, List.set_cons_succ, i64_w, i32_w]
           rfl
          refine pure_ (i := 9) (N := some 42) (v := undef) (a' := ?_) #[true, true, true, true, true, true, true, true, true, true, false, false, false] rfl rfl (any_of HT_.out (by kernel_rfl)) (fun _ _ _ h => h) (Or.inr ⟨by rfl, rfl⟩) ?_ ?_
          rotate_left
          ·simp only [Act.put, List.setIfInBounds_toArray, List.set_cons_zero, List.set_cons_succ, i64_w, i32_w]
           rfl
          refine pure_ (i := 10) (N := some 43) (v := undef) (a' := ?_) #[true, true, true, true, true, true, true, true, true, true, true, false, false] rfl rfl (any_of HT_.out (by kernel_rfl)) (fun _ _ _ h => h) (Or.inr ⟨by rfl, rfl⟩) ?_ ?_
          rotate_left
          ·simp only [Act.put, List.setIfInBounds_toArray, List.set_cons_zero, List.set_cons_succ, i64_w, i32_w]
           rfl
          refine pure_ (i := 11) (N := some 44) (v := undef) (a' := ?_) #[true, true, true, true, true, true, true, true, true, true, true, true, false] rfl rfl (any_of HT_.out (by kernel_rfl)) (fun _ _ _ h => h) (Or.inr ⟨by rfl, rfl⟩) ?_ ?_
          rotate_left
          ·simp only [Act.put, List.setIfInBounds_toArray, List.set_cons_zero, List.set_cons_succ, i64_w, i32_w]
           rfl
          refine pure_ (i := 12) (N := some 45) (v := ?_) (a' := ?_) #[true, true, true, true, true, true, true, true, true, true, true, true, true] rfl rfl (any_of HT_.out (by kernel_rfl)) (fun _ _ _ h => h) (Or.inl ⟨by rfl, ?_⟩) ?_ ?_
          rotate_left
          ·intro w'
           go_simp
           with_reducible rfl
          rotate_left
          ·simp only [Act.put, List.setIfInBounds_toArray, List.set_cons_zero, List.set_cons_succ, i64_w, i32_w]
           rfl
          refine done_ (done_of HT_.out (by kernel_rfl)) ?_
          try go_wp2
          go_ret3
          exact ⟨by first | rfl | (simp [errW_none, errW_some] <;> rfl) | (simp [*, errW_none, errW_some] <;> rfl), by repeat (first | (with_reducible first | exact HB.out | apply below_alloc | apply pw_below_drewN | apply below_drew1) | exact HB.out)⟩
         ·rw [if_neg c12] at H
          have c12b0 : decide (31 ≤ t156) = false := decide_eq_false c12
          clear c12
          replace H := Option.bind_eq_some_iff.mp H
          obtain ⟨t158, A150, H⟩ := H
          replace H : (if t158.toList = (a0.extract 1 a0.size).toList then (some (wrap64 (t156), false, 0)) else (some (0, false, 3))) = some (r1, r2, r3) := H
          have A15 := Aside0.mk A150
          clear A150
          have c16b0 := eq_true (of_decide_eq_true (by first | (with_reducible assumption) | assumption) : 1 ≤ (a0.size : Int))
          by_cases c17 : t158.toList = (a0.extract 1 a0.size).toList
          ·rw [if_pos c17] at H
           have c17b0 : (t158.toList == (a0.extract 1 a0.size).toList) = true := beq_iff_eq.mpr c17
           have c17b1 : (t158.toList != (a0.extract 1 a0.size).toList) = false := bne_eq_false_iff_eq.mpr c17
           clear c17
           simp only [Option.some.injEq, Prod.mk.injEq] at H
           obtain ⟨rfl, rfl, rfl⟩ := H
           have p7 : 0 ≤ (0 : Int) := (by omega)
           have q7 : 0 < a0.size := (by have : (0 : Int) < (a0.size : Int) := of_decide_eq_true (by first | (with_reducible assumption) | assumption); omega)
           have hx7 : ∀ h : 0 < a0.size, ((a0[0]'h).toNat : Int) = bt a0 0 := bt_at a0 0
           clear p7
           have qi7 : (0 < (a0.size : Int)) = True := eq_true (of_decide_eq_true (by first | (with_reducible assumption) | assumption))
           replace q7 := eq_true q7
           go_enter Tryd.func9, Tryd.ntmps9
           try go_wp2_with (first | ((with_reducible refine gate_callee (f := 20) rfl ?_); refine goesL_ (some 30) rfl rfl Tryd.func20 (by kernel_rfl) rfl #[.string (a0.extract 1 a0.size)] rfl (by (try simp only [List.map_toArray, List.map_cons, List.map_nil]); first | done | rfl | (simp only [List.length_drop, List.length_take]; rfl)) ?_; (with_reducible refine (num_Value.calls (a0.extract 1 a0.size) t156 t157 _ A10.out).mono ?_); rintro e w18 ⟨rfl, hb⟩; refine ⟨_, rfl, ?_⟩; have n0_ := Aside0.mk (below_step (by repeat (first | (with_reducible first | exact HB.out | apply below_alloc | apply pw_below_drewN | apply below_drew1) | exact HB.out)) hb); clear HB; have HB := n0_; clear n0_; (try clear hb); (try clear hb2); (try clear hk); (try clear hi)))
           have n0_ := Aside0.mk (below_drew1 HB.out)
           clear HB
           have HB := n0_
           clear n0_
           refine start_ (n := 13) (S := fun w' => True) (ds := []) #[false, false, false, false, false, false, false, false, false, false, false, false, false] (by kernel_rfl) rfl rfl trivial (fun hHeld => ?_); refine with_tabW operand_Reg.tab8 operand_Reg.bits8 (fun HT_ HW_ => ?_)
           generalize w18.drew = w19 at HB hHeld ⊢
           refine pure_ (i := 0) (N := some 33) (v := ?_) (a' := ?_) #[true, false, false, false, false, false, false, false, false, false, false, false, false] rfl rfl (any_of HT_.out (by kernel_rfl)) (fun _ _ _ h => h) (Or.inl ⟨by rfl, ?_⟩) ?_ ?_
           rotate_left
           ·intro w'
            go_simp
            with_reducible rfl
           rotate_left
           ·simp only [Act.put, List.setIfInBounds_toArray, List.set_cons_zero, List.set_cons_succ, i64_w, i32_w]
            rfl
           refine pure_ (i := 1) (N := some 34) (v := ?_) (a' := ?_) #[true, true, false, false, false, false, false, false, false, false, false, false, false] rfl rfl (any_of HT_.out (by kernel_rfl)) (fun _ _ _ h => h) (Or.inl ⟨by rfl, ?_⟩) ?_ ?_
           rotate_left
           ·intro w'
            go_simp
            with_reducible rfl
           rotate_left
           ·simp only [Act.put, List.setIfInBounds_toArray, List.set_cons_zero, List.set_cons_succ, i64_w, i32_w]
            rfl
           refine pure_ (i := 2) (N := some 35) (v := ?_) (a' := ?_) #[true, true, true, false, false, false, false, false, false, false, false, false, false] rfl rfl (any_of HT_.out (by kernel_rfl)) (fun _ _ _ h => h) (Or.inl ⟨by rfl, ?_⟩) ?_ ?_
           rotate_left
           ·intro w'
            go_simp
            with_reducible rfl
           rotate_left
           ·simp only [Act.put, List.setIfInBounds_toArray, List.set_cons_zero, List.set_cons_succ, i64_w, i32_w]
            rfl
           refine pure_ (i := 3) (N := some 36) (v := ?_) (a' := ?_) #[true, true, true, true, false, false, false, false, false, false, false, false, false] rfl rfl (any_of HT_.out (by kernel_rfl)) (fun _ _ _ h => h) (Or.inl ⟨by rfl, ?_⟩) ?_ ?_
           rotate_left
           ·intro w'
            go_simp
            with_reducible rfl
           rotate_left
           ·simp only [Act.put, List.setIfInBounds_toArray, List.set_cons_zero, List.set_cons_succ, i64_w, i32_w]
            rfl
           refine pure_ (i := 4) (N := some 37) (v := ?_) (a' := ?_) #[true, true, true, true, true, false, false, false, false, false, false, false, false] rfl rfl (any_of HT_.out (by kernel_rfl)) (fun _ _ _ h => h) (Or.inl ⟨by rfl, ?_⟩) ?_ ?_
           rotate_left
           ·intro w'
            go_simp
            with_reducible rfl
           rotate_left
           ·simp only [Act.put, List.setIfInBounds_toArray, List.set_cons_zero, List.set_cons_succ, i64_w, i32_w]
            rfl
           refine pure_ (i := 5) (N := some 38) (v := ?_) (a' := ?_) #[true, true, true, true, true, true, false, false, false, false, false, false, false] rfl rfl (any_of HT_.out (by kernel_rfl)) (fun _ _ _ h => h) (Or.inl ⟨by rfl, ?_⟩) ?_ ?_
           rotate_left
           ·intro w'
            go_simp
            with_reducible rfl
           rotate_left
           ·simp only [Act.put, List.setIfInBounds_toArray, List.set_cons_zero, List.set_cons_succ, i64_w, i32_w]
            rfl
           refine pure_ (i := 6) (N := some 39) (v := ?_) (a' := ?_) #[true, true, true, true, true, true, true, false, false, false, false, false, false] rfl rfl (any_of HT_.out (by kernel_rfl)) (fun _ _ _ h => h) (Or.inl ⟨by rfl, ?_⟩) ?_ ?_
           rotate_left
           ·intro w'
            go_simp
            with_reducible rfl
           rotate_left
           ·simp only [Act.put, List.setIfInBounds_toArray, List.set_cons_zero, List.set_cons_succ, i64_w, i32_w]
            rfl
           refine pure_ (i := 7) (N := some 40) (v := ?_) (a' := ?_) #[true, true, true, true, true, true, true, true, false, false, false, false, false] rfl rfl (any_of HT_.out (by kernel_rfl)) (fun _ _ _ h => h) (Or.inl ⟨by rfl, ?_⟩) ?_ ?_
           rotate_left
           ·intro w'
            go_simp
            with_reducible rfl
           rotate_left
           ·simp only [Act.put, List.setIfInBounds_toArray, List.set_cons_zero, List.set_cons_succ, i64_w, i32_w]
            rfl
           refine pure_ (i := 9) (N := some 42) (v := ?_) (a' := ?_) #[true, true, true, true, true, true, true, true, false, true, false, false, false] rfl rfl (any_of HT_.out (by kernel_rfl)) (fun _ _ _ h => h) (Or.inl ⟨by rfl, ?_⟩) ?_ ?_
           rotate_left
           ·intro w'
            go_simp
            with_reducible rfl
           rotate_left
           ·simp only [Act.put, List.setIfInBounds_toArray, List.set_cons_zero, List.set_cons_succ, i64_w, i32_w]
            rfl
           refine pure_ (i := 10) (N := some 43) (v := ?_) (a' := ?_) #[true, true, true, true, true, true, true, true, false, true, true, false, false] rfl rfl (any_of HT_.out (by kernel_rfl)) (fun _ _ _ h => h) (Or.inl ⟨by rfl, ?_⟩) ?_ ?_
           rotate_left
           ·intro w'
            go_simp
            with_reducible rfl
           rotate_left
           ·simp only [Act.put, List.setIfInBounds_toArray, List.set_cons_zero, List.set_cons_succ, i64_w, i32_w]
            rfl
           refine one_ (i := 8) (N := some 41) #[true, true, true, true, true, true, true, true, true, true, true, false, false] rfl rfl (one_of HT_.out (by kernel_rfl)) (by decide) (fun K hK => ?_)
           refine goes_ Tryd.func21 (by kernel_rfl) rfl #[.int .u64 t156] (by rfl) rfl rfl (by (try simp only [List.map_toArray, List.map_cons, List.map_nil]); first | done | rfl | (simp only [List.length_drop, List.length_take]; rfl)) ?_
           with_reducible refine (num_Text.calls t156 t158 _ A15.out ?tabs).mono ?_; (case tabs => (first | exact HT | (refine tabs_of HT ?_; repeat (first | (with_reducible first | exact Below.refl _ _ | exact (Aside0.out (by assumption)) | exact (Drawn0.below (by assumption)) | apply below_alloc | apply pw_below_drewN | apply below_drew1 | assumption) | exact HB.out))))
           rintro e w20 ⟨rfl, hb⟩
           refine ⟨_, rfl, ?_⟩
           have n0_ := Aside0.mk (below_step (by repeat (first | (with_reducible first | exact HB.out | apply below_alloc | apply pw_below_drewN | apply below_drew1) | exact HB.out)) hb)
           clear HB
           have HB := n0_
           clear n0_
           (try clear hb)
           (try clear hb2)
           (try clear hk)
           (try clear hi)
           refine hK.out _ _ trivial (fun hHeld => ?_)
           clear hK K
           refine norm_ (a' := ?_) ?_ ?_
           rotate_left
           ·show Act.put _ (some 41) _ = _
            simp only [Act.put, List.setIfInBounds_toArray, List.set_cons_zero, List.set_cons_succ, i64_w, i32_w]
            rfl
           refine pure_ (i := 11) (N := some 44) (v := ?_) (a' := ?_) #[true, true, true, true, true, true, true, true, true, true, true, true, false] rfl rfl (any_of HT_.out (by kernel_rfl)) (fun _ _ _ h => h) (Or.inl ⟨by rfl, ?_⟩) ?_ ?_
           rotate_left
           ·intro w'
            go_simp
            with_reducible rfl
           rotate_left
           ·simp only [Act.put, List.setIfInBounds_toArray, List.set_cons_zero, List.set_cons_succ, i64_w, i32_w]
            rfl
           refine pure_ (i := 12) (N := some 45) (v := ?_) (a' := ?_) #[true, true, true, true, true, true, true, true, true, true, true, true, true] rfl rfl (any_of HT_.out (by kernel_rfl)) (fun _ _ _ h => h) (Or.inl ⟨by rfl, ?_⟩) ?_ ?_
           rotate_left
           ·intro w'
            go_simp
            with_reducible rfl
           rotate_left
           ·simp only [Act.put, List.setIfInBounds_toArray, List.set_cons_zero, List.set_cons_succ, i64_w, i32_w]
            rfl
           refine done_ (done_of HT_.out (by kernel_rfl)) ?_
           try go_wp2
           go_ret3
           exact ⟨by first | rfl | (simp [errW_none, errW_some] <;> rfl) | (simp [*, errW_none, errW_some] <;> rfl), by repeat (first | (with_reducible first | exact HB.out | apply below_alloc | apply pw_below_drewN | apply below_drew1) | exact HB.out)⟩
          ·rw [if_neg c17] at H
           have c17b0 : (t158.toList == (a0.extract 1 a0.size).toList) = false := beq_eq_false_iff_ne.mpr c17
           have c17b1 : (t158.toList != (a0.extract 1 a0.size).toList) = true := bne_iff_ne.mpr c17
           simp only [Option.some.injEq, Prod.mk.injEq] at H
           obtain ⟨rfl, rfl, rfl⟩ := H
           have p7 : 0 ≤ (0 : Int) := (by omega)
           have q7 : 0 < a0.size := (by have : (0 : Int) < (a0.size : Int) := of_decide_eq_true (by first | (with_reducible assumption) | assumption); omega)
           have hx7 : ∀ h : 0 < a0.size, ((a0[0]'h).toNat : Int) = bt a0 0 := bt_at a0 0
           clear p7
           have qi7 : (0 < (a0.size : Int)) = True := eq_true (of_decide_eq_true (by first | (with_reducible assumption) | assumption))
           replace q7 := eq_true q7
           go_enter Tryd.func9, Tryd.ntmps9
           try go_wp2_with (first | ((with_reducible refine gate_callee (f := 20) rfl ?_); refine goesL_ (some 30) rfl rfl Tryd.func20 (by kernel_rfl) rfl #[.string (a0.extract 1 a0.size)] rfl (by (try simp only [List.map_toArray, List.map_cons, List.map_nil]); first | done | rfl | (simp only [List.length_drop, List.length_take]; rfl)) ?_; (with_reducible refine (num_Value.calls (a0.extract 1 a0.size) t156 t157 _ A10.out).mono ?_); rintro e w21 ⟨rfl, hb⟩; refine ⟨_, rfl, ?_⟩; have n0_ := Aside0.mk (below_step (by repeat (first | (with_reducible first | exact HB.out | apply below_alloc | apply pw_below_drewN | apply below_drew1) | exact HB.out)) hb); clear HB; have HB := n0_; clear n0_; (try clear hb); (try clear hb2); (try clear hk); (try clear hi)))
           have n0_ := Aside0.mk (below_drew1 HB.out)
           clear HB
           have HB := n0_
           clear n0_
           refine start_ (n := 13) (S := fun w' => True) (ds := []) #[false, false, false, false, false, false, false, false, false, false, false, false, false] (by kernel_rfl) rfl rfl trivial (fun hHeld => ?_); refine with_tabW operand_Reg.tab8 operand_Reg.bits8 (fun HT_ HW_ => ?_)
           generalize w21.drew = w22 at HB hHeld ⊢
           refine pure_ (i := 0) (N := some 33) (v := ?_) (a' := ?_) #[true, false, false, false, false, false, false, false, false, false, false, false, false] rfl rfl (any_of HT_.out (by kernel_rfl)) (fun _ _ _ h => h) (Or.inl ⟨by rfl, ?_⟩) ?_ ?_
           rotate_left
           ·intro w'
            go_simp
            with_reducible rfl
           rotate_left
           ·simp only [Act.put, List.setIfInBounds_toArray, List.set_cons_zero, List.set_cons_succ, i64_w, i32_w]
            rfl
           refine pure_ (i := 1) (N := some 34) (v := ?_) (a' := ?_) #[true, true, false, false, false, false, false, false, false, false, false, false, false] rfl rfl (any_of HT_.out (by kernel_rfl)) (fun _ _ _ h => h) (Or.inl ⟨by rfl, ?_⟩) ?_ ?_
           rotate_left
           ·intro w'
            go_simp
            with_reducible rfl
           rotate_left
           ·simp only [Act.put, List.setIfInBounds_toArray, List.set_cons_zero, List.set_cons_succ, i64_w, i32_w]
            rfl
           refine pure_ (i := 2) (N := some 35) (v := ?_) (a' := ?_) #[true, true, true, false, false, false, false, false, false, false, false, false, false] rfl rfl (any_of HT_.out (by kernel_rfl)) (fun _ _ _ h => h) (Or.inl ⟨by rfl, ?_⟩) ?_ ?_
           rotate_left
           ·intro w'
            go_simp
            with_reducible rfl
           rotate_left
           ·simp only [Act.put, List.setIfInBounds_toArray, List.set_cons_zero, List.set_cons_succ, i64_w, i32_w]
            rfl
           refine pure_ (i := 3) (N := some 36) (v := ?_) (a' := ?_) #[true, true, true, true, false, false, false, false, false, false, false, false, false] rfl rfl (any_of HT_.out (by kernel_rfl)) (fun _ _ _ h => h) (Or.inl ⟨by rfl, ?_⟩) ?_ ?_
           rotate_left
           ·intro w'
            go_simp
            with_reducible rfl
           rotate_left
           ·simp only [Act.put, List.setIfInBounds_toArray, List.set_cons_zero, List.set_cons_succ, i64_w, i32_w]
            rfl
           refine pure_ (i := 4) (N := some 37) (v := ?_) (a' := ?_) #[true, true, true, true, true, false, false, false, false, false, false, false, false] rfl rfl (any_of HT_.out (by kernel_rfl)) (fun _ _ _ h => h) (Or.inl ⟨by rfl, ?_⟩) ?_ ?_
           rotate_left
           ·intro w'
            go_simp
            with_reducible rfl
           rotate_left
           ·simp only [Act.put, List.setIfInBounds_toArray, List.set_cons_zero, List.set_cons_succ, i64_w, i32_w]
            rfl
           refine pure_ (i := 5) (N := some 38) (v := ?_) (a' := ?_) #[true, true, true, true, true, true, false, false, false, false, false, false, false] rfl rfl (any_of HT_.out (by kernel_rfl)) (fun _ _ _ h => h) (Or.inl ⟨by rfl, ?_⟩) ?_ ?_
           rotate_left
           ·intro w'
            go_simp
            with_reducible rfl
           rotate_left
           ·simp only [Act.put, List.setIfInBounds_toArray, List.set_cons_zero, List.set_cons_succ, i64_w, i32_w]
            rfl
           refine pure_ (i := 6) (N := some 39) (v := ?_) (a' := ?_) #[true, true, true, true, true, true, true, false, false, false, false, false, false] rfl rfl (any_of HT_.out (by kernel_rfl)) (fun _ _ _ h => h) (Or.inl ⟨by rfl, ?_⟩) ?_ ?_
           rotate_left
           ·intro w'
            go_simp
            with_reducible rfl
           rotate_left
           ·simp only [Act.put, List.setIfInBounds_toArray, List.set_cons_zero, List.set_cons_succ, i64_w, i32_w]
            rfl
           refine pure_ (i := 7) (N := some 40) (v := ?_) (a' := ?_) #[true, true, true, true, true, true, true, true, false, false, false, false, false] rfl rfl (any_of HT_.out (by kernel_rfl)) (fun _ _ _ h => h) (Or.inl ⟨by rfl, ?_⟩) ?_ ?_
           rotate_left
           ·intro w'
            go_simp
            with_reducible rfl
           rotate_left
           ·simp only [Act.put, List.setIfInBounds_toArray, List.set_cons_zero, List.set_cons_succ, i64_w, i32_w]
            rfl
           refine pure_ (i := 9) (N := some 42) (v := ?_) (a' := ?_) #[true, true, true, true, true, true, true, true, false, true, false, false, false] rfl rfl (any_of HT_.out (by kernel_rfl)) (fun _ _ _ h => h) (Or.inl ⟨by rfl, ?_⟩) ?_ ?_
           rotate_left
           ·intro w'
            go_simp
            with_reducible rfl
           rotate_left
           ·simp only [Act.put, List.setIfInBounds_toArray, List.set_cons_zero, List.set_cons_succ, i64_w, i32_w]
            rfl
           refine pure_ (i := 10) (N := some 43) (v := ?_) (a' := ?_) #[true, true, true, true, true, true, true, true, false, true, true, false, false] rfl rfl (any_of HT_.out (by kernel_rfl)) (fun _ _ _ h => h) (Or.inl ⟨by rfl, ?_⟩) ?_ ?_
           rotate_left
           ·intro w'
            go_simp
            with_reducible rfl
           rotate_left
           ·simp only [Act.put, List.setIfInBounds_toArray, List.set_cons_zero, List.set_cons_succ, i64_w, i32_w]
            rfl
           refine one_ (i := 8) (N := some 41) #[true, true, true, true, true, true, true, true, true, true, true, false, false] rfl rfl (one_of HT_.out (by kernel_rfl)) (by decide) (fun K hK => ?_)
           refine goes_ Tryd.func21 (by kernel_rfl) rfl #[.int .u64 t156] (by rfl) rfl rfl (by (try simp only [List.map_toArray, List.map_cons, List.map_nil]); first | done | rfl | (simp only [List.length_drop, List.length_take]; rfl)) ?_
           with_reducible refine (num_Text.calls t156 t158 _ A15.out ?tabs).mono ?_; (case tabs => (first | exact HT | (refine tabs_of HT ?_; repeat (first | (with_reducible first | exact Below.refl _ _ | exact (Aside0.out (by assumption)) | exact (Drawn0.below (by assumption)) | apply below_alloc | apply pw_below_drewN | apply below_drew1 | assumption) | exact HB.out))))
           rintro e w23 ⟨rfl, hb⟩
           refine ⟨_, rfl, ?_⟩
           have n0_ := Aside0.mk (below_step (by repeat (first | (with_reducible first | exact HB.out | apply below_alloc | apply pw_below_drewN | apply below_drew1) | exact HB.out)) hb)
           clear HB
           have HB := n0_
           clear n0_
           (try clear hb)
           (try clear hb2)
           (try clear hk)
           (try clear hi)
           refine hK.out _ _ trivial (fun hHeld => ?_)
           clear hK K
           refine norm_ (a' := ?_) ?_ ?_
           rotate_left
           ·show Act.put _ (some 41) _ = _
            simp only [Act.put, List.setIfInBounds_toArray, List.set_cons_zero, List.set_cons_succ, i64_w, i32_w]
            rfl
           refine pure_ (i := 11) (N := some 44) (v := ?_) (a' := ?_) #[true, true, true, true, true, true, true, true, true, true, true, true, false] rfl rfl (any_of HT_.out (by kernel_rfl)) (fun _ _ _ h => h) (Or.inl ⟨by rfl, ?_⟩) ?_ ?_
           rotate_left
           ·intro w'
            go_simp
            with_reducible rfl
           rotate_left
           ·simp only [Act.put, List.setIfInBounds_toArray, List.set_cons_zero, List.set_cons_succ, i64_w, i32_w]
            rfl
           refine pure_ (i := 12) (N := some 45) (v := ?_) (a' := ?_) #[true, true, true, true, true, true, true, true, true, true, true, true, true] rfl rfl (any_of HT_.out (by kernel_rfl)) (fun _ _ _ h => h) (Or.inl ⟨by rfl, ?_⟩) ?_ ?_
           rotate_left
           ·intro w'
            go_simp
            with_reducible rfl
           rotate_left
           ·simp only [Act.put, List.setIfInBounds_toArray, List.set_cons_zero, List.set_cons_succ, i64_w, i32_w]
            rfl
           refine done_ (done_of HT_.out (by kernel_rfl)) ?_
           try go_wp2
           go_ret3
           exact ⟨by first | rfl | (simp [errW_none, errW_some] <;> rfl) | (simp [*, errW_none, errW_some] <;> rfl), by repeat (first | (with_reducible first | exact HB.out | apply below_alloc | apply pw_below_drewN | apply below_drew1) | exact HB.out)⟩
        ·rw [if_neg c11] at H
         have c11b0 : (t157 == 0) = false := beq_eq_false_iff_ne.mpr c11
         have c11b1 : (t157 != 0) = true := bne_iff_ne.mpr c11
         simp only [Option.some.injEq, Prod.mk.injEq] at H
         obtain ⟨rfl, rfl, rfl⟩ := H
         have p7 : 0 ≤ (0 : Int) := (by omega)
         have q7 : 0 < a0.size := (by have : (0 : Int) < (a0.size : Int) := of_decide_eq_true (by first | (with_reducible assumption) | assumption); omega)
         have hx7 : ∀ h : 0 < a0.size, ((a0[0]'h).toNat : Int) = bt a0 0 := bt_at a0 0
         clear p7
         have qi7 : (0 < (a0.size : Int)) = True := eq_true (of_decide_eq_true (by first | (with_reducible assumption) | assumption))
         replace q7 := eq_true q7
         go_enter Tryd.func9, Tryd.ntmps9
         try go_wp2_with (first | ((with_reducible refine gate_callee (f := 20) rfl ?_); refine goesL_ (some 30) rfl rfl Tryd.func20 (by kernel_rfl) rfl #[.string (a0.extract 1 a0.size)] rfl (by (try simp only [List.map_toArray, List.map_cons, List.map_nil]); first | done | rfl | (simp only [List.length_drop, List.length_take]; rfl)) ?_; (with_reducible refine (num_Value.calls (a0.extract 1 a0.size) t156 t157 _ A10.out).mono ?_); rintro e w24 ⟨rfl, hb⟩; refine ⟨_, rfl, ?_⟩; have n0_ := Aside0.mk (below_step (by repeat (first | (with_reducible first | exact HB.out | apply below_alloc | apply pw_below_drewN | apply below_drew1) | exact HB.out)) hb); clear HB; have HB := n0_; clear n0_; (try clear hb); (try clear hb2); (try clear hk); (try clear hi)))
         have n0_ := Aside0.mk (below_drew1 HB.out)
         clear HB
         have HB := n0_
         clear n0_
         refine start_ (n := 13) (S := fun w' => True) (ds := []) #[false, false, false, false, false, false, false, false, false, false, false, false, false] (by kernel_rfl) rfl rfl trivial (fun hHeld => ?_); refine with_tabW operand_Reg.tab8 operand_Reg.bits8 (fun HT_ HW_ => ?_)
         generalize w24.drew = w25 at HB hHeld ⊢
         refine pure_ (i := 0) (N := some 33) (v := ?_) (a' := ?_) #[true, false, false, false, false, false, false, false, false, false, false, false, false] rfl rfl (any_of HT_.out (by kernel_rfl)) (fun _ _ _ h => h) (Or.inl ⟨by rfl, ?_⟩) ?_ ?_
         rotate_left
         ·intro w'
          go_simp
          with_reducible rfl
         rotate_left
         ·simp only [Act.put, List.setIfInBounds_toArray, List.set_cons_zero, List.set_cons_succ, i64_w, i32_w]
          rfl
         refine pure_ (i := 1) (N := some 34) (v := ?_) (a' := ?_) #[true, true, false, false, false, false, false, false, false, false, false, false, false] rfl rfl (any_of HT_.out (by kernel_rfl)) (fun _ _ _ h => h) (Or.inl ⟨by rfl, ?_⟩) ?_ ?_
         rotate_left
         ·intro w'
          go_simp
          with_reducible rfl
         rotate_left
         ·simp only [Act.put, List.setIfInBounds_toArray, List.set_cons_zero, List.set_cons_succ, i64_w, i32_w]
          rfl
         refine pure_ (i := 2) (N := some 35) (v := ?_) (a' := ?_) #[true, true, true, false, false, false, false, false, false, false, false, false, false] rfl rfl (any_of HT_.out (by kernel_rfl)) (fun _ _ _ h => h) (Or.inl ⟨by rfl, ?_⟩) ?_ ?_
         rotate_left
         ·intro w'
          go_simp
          with_reducible rfl
         rotate_left
         ·simp only [Act.put, List.setIfInBounds_toArray, List.set_cons_zero, List.set_cons_succ, i64_w, i32_w]
          rfl
         refine pure_ (i := 3) (N := some 36) (v := undef) (a' := ?_) #[true, true, true, true, false, false, false, false, false, false, false, false, false] rfl rfl (any_of HT_.out (by kernel_rfl)) (fun _ _ _ h => h) (Or.inr ⟨by rfl, rfl⟩) ?_ ?_
         rotate_left
         ·simp only [Act.put, List.setIfInBounds_toArray, List.set_cons_zero, List.set_cons_succ, i64_w, i32_w]
          rfl
         refine pure_ (i := 4) (N := some 37) (v := undef) (a' := ?_) #[true, true, true, true, true, false, false, false, false, false, false, false, false] rfl rfl (any_of HT_.out (by kernel_rfl)) (fun _ _ _ h => h) (Or.inr ⟨by rfl, rfl⟩) ?_ ?_
         rotate_left
         ·simp only [Act.put, List.setIfInBounds_toArray, List.set_cons_zero, List.set_cons_succ, i64_w, i32_w]
          rfl
         refine pure_ (i := 5) (N := some 38) (v := ?_) (a' := ?_) #[true, true, true, true, true, true, false, false, false, false, false, false, false] rfl rfl (any_of HT_.out (by kernel_rfl)) (fun _ _ _ h => h) (Or.inl ⟨by rfl, ?_⟩) ?_ ?_
         rotate_left
         ·intro w'
          go_simp
          with_reducible rfl
         rotate_left
         ·simp only [Act.put, List.setIfInBounds_toArray, List.set_cons_zero, List.set_cons_succ, i64_w, i32_w]
          rfl
         refine pure_ (i := 6) (N := some 39) (v := ?_) (a' := ?_) #[true, true, true, true, true, true, true, false, false, false, false, false, false] rfl rfl (any_of HT_.out (by kernel_rfl)) (fun _ _ _ h => h) (Or.inl ⟨by rfl, ?_⟩) ?_ ?_
         rotate_left
         ·intro w'
          go_simp
          with_reducible rfl
         rotate_left
         ·simp only [Act.put, List.setIfInBounds_toArray, List.set_cons_zero, List.set_cons_succ, i64_w, i32_w]
          rfl
         refine pure_ (i := 7) (N := some 40) (v := undef) (a' := ?_) #[true, true, true, true, true, true, true, true, false, false, false, false, false] rfl rfl (any_of HT_.out (by kernel_rfl)) (fun _ _ _ h => h) (Or.inr ⟨by rfl, rfl⟩) ?_ ?_
         rotate_left
         ·simp only [Act.put, List.setIfInBounds_toArray, List.set_cons_zero, List.set_cons_succ, i64_w, i32_w]
          rfl
         refine pure_ (i := 8) (N := some 41) (v := undef) (a' := ?_) #[true, true, true, true, true, true, true, true, true, false, false, false, false] rfl rfl (any_of HT_.out (by kernel_rfl)) (fun _ _ _ h => h) (Or.inr ⟨by rfl, rfl⟩) ?_ ?_
         rotate_left
         ·simp only [Act.put, List.setIfInBounds_toArray, List.set_cons_zero, List.set_cons_succ, i64_w, i32_w]
          rfl
         refine pure_ (i := 9) (N := some 42) (v := undef) (a' := ?_) #[true, true, true, true, true, true, true, true, true, true, false, false, false] rfl rfl (any_of HT_.out (by kernel_rfl)) (fun _ _ _ h => h) (Or.inr ⟨by rfl, rfl⟩) ?_ ?_
         rotate_left
         ·simp only [Act.put, List.setIfInBounds_toArray, List.set_cons_zero, List.set_cons_succ, i64_w, i32_w]
          rfl
         refine pure_ (i := 10) (N := some 43) (v := undef) (a' := ?_) #[true, true, true, true, true, true, true, true, true, true, true, false, false] rfl rfl (any_of HT_.out (by kernel_rfl)) (fun _ _ _ h => h) (Or.inr ⟨by rfl, rfl⟩) ?_ ?_
         rotate_left
         ·simp only [Act.put, List.setIfInBounds_toArray, List.set_cons_zero, List.set_cons_succ, i64_w, i32_w]
          rfl
         refine pure_ (i := 11) (N := some 44) (v := undef) (a' := ?_) #[true, true, true, true, true, true, true, true, true, true, true, true, false] rfl rfl (any_of HT_.out (by kernel_rfl)) (fun _ _ _ h => h) (Or.inr ⟨by rfl, rfl⟩) ?_ ?_
         rotate_left
         ·simp only [Act.put, List.setIfInBounds_toArray, List.set_cons_zero, List.set_cons_succ, i64_w, i32_w]
          rfl
         refine pure_ (i := 12) (N := some 45) (v := ?_) (a' := ?_) #[true, true, true, true, true, true, true, true, true, true, true, true, true] rfl rfl (any_of HT_.out (by kernel_rfl)) (fun _ _ _ h => h) (Or.inl ⟨by rfl, ?_⟩) ?_ ?_
         rotate_left
         ·intro w'
          go_simp
          with_reducible rfl
         rotate_left
         ·simp only [Act.put, List.setIfInBounds_toArray, List.set_cons_zero, List.set_cons_succ, i64_w, i32_w]
          rfl
         refine done_ (done_of HT_.out (by kernel_rfl)) ?_
         try go_wp2
         go_ret3
         exact ⟨by first | rfl | (simp [errW_none, errW_some] <;> rfl) | (simp [*, errW_none, errW_some] <;> rfl), by repeat (first | (with_reducible first | exact HB.out | apply below_alloc | apply pw_below_drewN | apply below_drew1) | exact HB.out)⟩
       ·rw [if_neg c9] at H
        exact absurd H (by simp)
      ·rw [if_neg c8] at H
       have c8b0 : ((bt a0 0) == 120) = false := beq_eq_false_iff_ne.mpr c8
       have c8b1 : ((bt a0 0) != 120) = true := bne_iff_ne.mpr c8
       simp only [Option.some.injEq, Prod.mk.injEq] at H
       obtain ⟨rfl, rfl, rfl⟩ := H
       have p7 : 0 ≤ (0 : Int) := (by omega)
       have q7 : 0 < a0.size := (by have : (0 : Int) < (a0.size : Int) := of_decide_eq_true (by first | (with_reducible assumption) | assumption); omega)
       have hx7 : ∀ h : 0 < a0.size, ((a0[0]'h).toNat : Int) = bt a0 0 := bt_at a0 0
       clear p7
       have qi7 : (0 < (a0.size : Int)) = True := eq_true (of_decide_eq_true (by first | (with_reducible assumption) | assumption))
       replace q7 := eq_true q7
       go_enter Tryd.func9, Tryd.ntmps9
       go_wp2
       go_ret3
       exact ⟨by first | rfl | (simp [errW_none, errW_some] <;> rfl) | (simp [*, errW_none, errW_some] <;> rfl), by repeat (first | (with_reducible first | exact HB.out | apply below_alloc | apply pw_below_drewN | apply below_drew1) | exact HB.out)⟩
     ·rw [if_neg c6] at H
      exact absurd H (by simp)

/-! ### operand_Label: function 13 -/
def labV (l : List UInt8) : Int := l.foldl (fun n c => 10 * n + ((c.toNat : Int) - 48)) 0
def labB (l : List UInt8) : Int × Bool × Bool :=
  if l.length < 2 ∨ 5 < l.length then (0, false, false)
  else if l.getLastD 0 ≠ 102 ∧ l.getLastD 0 ≠ 98 then (0, false, false)
  else if l.dropLast.all (fun c => isDig c.toNat) = true then (labV l.dropLast, l.getLastD 0 == 102, true) else (0, false, false)
def operand_Label.f (a0 : ByteArray) : Option (Int × Bool × Bool) := some (labB a0.data.toList)
theorem labV_snoc (l : List UInt8) (c : UInt8) : labV (l ++ [c]) = 10 * labV l + ((c.toNat : Int) - 48) := by unfold labV; rw [List.foldl_append]; rfl
theorem labV_bd : ∀ (n : Nat) (l : List UInt8), l.length ≤ n → l.all (fun c => isDig c.toNat) = true → 0 ≤ labV l ∧ labV l < 10 ^ l.length
  | 0, l, h, _ => by obtain rfl : l = [] := List.eq_nil_of_length_eq_zero (by omega); decide
  | n + 1, l, h, hd => by
    rcases List.eq_nil_or_concat l with rfl | ⟨l, c, rfl⟩
    · decide
    · rw [List.concat_eq_append] at *
      rw [List.all_append, Bool.and_eq_true] at hd
      have h1 := labV_bd n l (by simp at h; omega) hd.1
      have h2 : isDig c.toNat = true := by simpa using hd.2
      unfold isDig at h2
      rw [Bool.and_eq_true, decide_eq_true_eq, decide_eq_true_eq] at h2
      rw [labV_snoc, List.length_append, List.length_singleton, Int.pow_succ]
      omega
theorem lab_last (s : ByteArray) (h : 0 < s.size) : bt s ((s.size : Int) - 1) = ((s.data.toList.getLastD 0).toNat : Int) := by
  obtain ⟨n, hn⟩ : ∃ n, s.size = n + 1 := ⟨s.size - 1, by omega⟩
  unfold bt
  rw [dif_pos (show (((s.size : Int) - 1).toNat) < s.size by omega)]
  congr 2
  have e : (((s.size : Int) - 1).toNat) = s.size - 1 := by omega
  simp only [e]
  rw [List.getLastD_eq_getLast?, List.getLast?_eq_getElem?, List.getElem?_eq_getElem (by simp; omega)]
  simp
  rfl
theorem lab_init (s : ByteArray) (h : 0 < s.size) : (s.extract 0 (s.size - 1)).data.toList = s.data.toList.dropLast := by
  simp
theorem lab_take (s : ByteArray) (k : Nat) (h : k < s.size) : s.data.toList.take (k + 1) = s.data.toList.take k ++ [s[k]'h] := by
  rw [List.take_succ_eq_append_getElem (by simpa using h)]; rfl
theorem lab_hi {r : Int} (h : 128 ≤ r) : isDig r = false := by
  unfold isDig
  simp
  omega
theorem lab_init_size (s : ByteArray) (h : 0 < s.size) : (s.extract 0 (s.size - 1)).size = s.size - 1 := by simp [ByteArray.size_extract]
set_option maxHeartbeats 4000000 in
set_option maxRecDepth 100000 in
theorem operand_Label.calls (a0 : ByteArray) (r0 : Int) (r1 r2 : Bool) (w : World) (h : operand_Label.f a0 = some (r0, r1, r2)) :
    Calls Tryd.prog 13 #[.string a0] w fun e w' => e = .returned (.tuple #[.int .i64 r0, .bool r1, .bool r2]) ∧ Below w.heap.size w w' := by
  have HR := Aside0.mk (Option.some.inj h)
  clear h
  by_cases h2 : a0.size < 2
  · have c1 : decide ((a0.size : Int) < 2) = true := decide_eq_true (by omega)
    obtain ⟨rfl, rfl, rfl⟩ : 0 = r0 ∧ false = r1 ∧ false = r2 := by
      have := HR.out
      unfold labB at this
      rw [if_pos (Or.inl (by simpa using h2))] at this
      cases this; exact ⟨rfl, rfl, rfl⟩
    clear h2 HR
    go_enter Tryd.func13, Tryd.ntmps13
    go_wp2
    go_ret3
    exact ⟨rfl, Below.refl _ _⟩
  · have c1 : decide ((a0.size : Int) < 2) = false := decide_eq_false (by omega)
    by_cases h5 : 5 < a0.size
    · have c2 : decide (5 < (a0.size : Int)) = true := decide_eq_true (by omega)
      obtain ⟨rfl, rfl, rfl⟩ : 0 = r0 ∧ false = r1 ∧ false = r2 := by
        have := HR.out
        unfold labB at this
        rw [if_pos (Or.inr (by simpa using h5))] at this
        cases this; exact ⟨rfl, rfl, rfl⟩
      clear h2 h5 HR
      go_enter Tryd.func13, Tryd.ntmps13
      go_wp2
      go_ret3
      exact ⟨rfl, Below.refl _ _⟩
    · have c2 : decide (5 < (a0.size : Int)) = false := decide_eq_false (by omega)
      obtain ⟨z, hz⟩ : ∃ z, (a0.size : Int) - 1 = z := ⟨_, rfl⟩
      have hw1 : IntKind.i64.wrap ((a0.size : Int) - 1) = z := (i64_w _).trans (by simp only [wrap64]; omega)
      have p0 : (0 ≤ z) = True := eq_true (by omega)
      have p1 : (z < (a0.size : Int)) = True := eq_true (by omega)
      have p2 : (z ≤ (a0.size : Int)) = True := eq_true (by omega)
      have e1 := bt_at a0 z
      have HS : Aside0 (2 ≤ a0.size ∧ a0.size ≤ 5) := ⟨by omega⟩
      have HL : Aside0 (bt a0 z = ((a0.data.toList.getLastD 0).toNat : Int)) := ⟨by rw [← hz]; exact lab_last a0 (by omega)⟩
      have HBad : Aside0 (¬ (bt a0 z = 102 ∨ bt a0 z = 98) ∨ ¬ (a0.data.toList.dropLast.all (fun c => isDig c.toNat) = true) → 0 = r0 ∧ false = r1 ∧ false = r2) := ⟨fun hx => by
        have := HR.out
        unfold labB at this
        rw [if_neg (by simp; omega)] at this
        by_cases hl : a0.data.toList.getLastD 0 ≠ 102 ∧ a0.data.toList.getLastD 0 ≠ 98
        · rw [if_pos hl] at this; cases this; exact ⟨rfl, rfl, rfl⟩
        · rw [if_neg hl] at this
          have hl2 : a0.data.toList.getLastD 0 = 102 ∨ a0.data.toList.getLastD 0 = 98 := by
            by_cases h1 : a0.data.toList.getLastD 0 = 102
            · exact Or.inl h1
            · exact Or.inr (by by_cases h2 : a0.data.toList.getLastD 0 = 98; exact h2; exact absurd ⟨h1, h2⟩ hl)
          have hl3 : bt a0 z = 102 ∨ bt a0 z = 98 := by
            rw [HL.out]
            rcases hl2 with e | e <;> rw [e]
            · exact Or.inl rfl
            · exact Or.inr rfl
          rw [if_neg (hx.resolve_left (fun hn => hn hl3))] at this
          cases this; exact ⟨rfl, rfl, rfl⟩⟩
      have HGood : Aside0 ((bt a0 z = 102 ∨ bt a0 z = 98) → a0.data.toList.dropLast.all (fun c => isDig c.toNat) = true → labV a0.data.toList.dropLast = r0 ∧ (bt a0 z == 102) = r1 ∧ true = r2) := ⟨fun hx hd => by
        have := HR.out
        unfold labB at this
        rw [if_neg (by simp; omega)] at this
        have hq : (bt a0 z == 102) = (a0.data.toList.getLastD 0 == 102) := by
          rw [HL.out]
          generalize a0.data.toList.getLastD 0 = y
          rw [Bool.eq_iff_iff, beq_iff_eq, beq_iff_eq]
          constructor
          · intro e; exact UInt8.toNat_inj.1 (by simpa using Int.ofNat.inj e)
          · intro e; rw [e]; rfl
        have hl2 : ¬ (a0.data.toList.getLastD 0 ≠ 102 ∧ a0.data.toList.getLastD 0 ≠ 98) := by
          rintro ⟨h1, h2⟩
          rw [HL.out] at hx
          rcases hx with e | e
          · exact h1 (UInt8.toNat_inj.1 (by simpa using Int.ofNat.inj e))
          · exact h2 (UInt8.toNat_inj.1 (by simpa using Int.ofNat.inj e))
        rw [if_neg hl2, if_pos hd] at this
        cases this; exact ⟨rfl, hq, rfl⟩⟩
      have HZ := Aside0.mk hz
      have HS1 : Aside0 ((a0.extract 0 z.toNat).data.toList = a0.data.toList.dropLast ∧ (a0.extract 0 z.toNat).size = a0.size - 1) := ⟨by
        have e : z.toNat = a0.size - 1 := by omega
        rw [e]
        exact ⟨lab_init a0 (by omega), lab_init_size a0 (by omega)⟩⟩
      by_cases hfb : bt a0 z = 102 ∨ bt a0 z = 98
      · have key : ((bt a0 z == 102) = true ∧ (bt a0 z != 102) = false) ∨ ((bt a0 z == 102) = false ∧ (bt a0 z != 102) = true ∧ (bt a0 z == 98) = true ∧ (bt a0 z != 98) = false) := by
          by_cases hf : bt a0 z = 102
          · rw [hf]; exact Or.inl ⟨rfl, rfl⟩
          · rw [hfb.resolve_left hf]; exact Or.inr ⟨rfl, rfl, rfl, rfl⟩
        have HFB := Aside0.mk hfb
        clear h2 h5 hz hfb HR HL
        rcases key with ⟨c3, c3'⟩ | ⟨c3, c3', c4, c4'⟩
        all_goals
          go_enter Tryd.func13, Tryd.ntmps13
          go_wp2
          generalize a0.extract 0 z.toNat = s1 at *
          clear p0 p1 p2 hw1 e1
          go_loopg [6, 8] (s1.size + 1) (fun gk v6 _ wr => ∃ (pos : Nat) (n : Int), v6 = .int .i64 n ∧ Aside0 (s1.size - pos < gk ∧ pos ≤ s1.size) ∧ Aside0 (wr.heap[w.heap.size]? = some (.stringIter s1 pos)) ∧ Aside0 (Below w.heap.size w wr) ∧ Aside0 ((s1.data.toList.take pos).all (fun c => isDig c.toNat) = true ∧ n = labV (s1.data.toList.take pos)))
          case atStart => exact ⟨0, 0, rfl, ⟨by omega, Nat.zero_le _⟩, ⟨World.iter_heap w s1 0⟩, ⟨below_alloc (Below.refl _ _) _⟩, ⟨by simp, by simp [labV]⟩⟩
          case round =>
            obtain ⟨pos, n, rfl, HP, HI, HW, HA⟩ := hrel
            rename World => wr
            by_cases hp : pos < s1.size
            · have hnx : ∀ ty, (Instr.next (.pointer (some ⟨w.heap.size, 0, none⟩)) true ty).run Tryd.prog wr = _ := fun ty => Go.Lib.run_next_any_at wr w.heap.size s1 pos ty HI.out hp
              have HI2 := Aside0.mk (Go.Lib.iterAt_heap wr w.heap.size s1 pos (pos + (Utf8.decode s1 pos).2) HI.out)
              have HW2 := Aside0.mk (Go.Lib.below_iterAt HW.out (Nat.le_refl _) s1 (pos + (Utf8.decode s1 pos).2))
              have HTK : Aside0 (s1.data.toList.take (pos + 1) = s1.data.toList.take pos ++ [s1[pos]'hp]) := ⟨lab_take s1 pos hp⟩
              have HG : Aside0 (((Utf8.decode s1 pos).1 : Int) ≤ 1114111 ∧ (isDig ((Utf8.decode s1 pos).1 : Int) = isDig ((s1[pos]'hp).toNat : Int)) ∧ (isDig ((s1[pos]'hp).toNat : Int) = true → (Utf8.decode s1 pos).2 = 1 ∧ ((Utf8.decode s1 pos).1 : Int) = ((s1[pos]'hp).toNat : Int))) := ⟨by
                by_cases ha : (s1[pos]'hp).toNat < 128
                · rw [decode_ascii s1 pos hp ha]
                  exact ⟨by simp only; omega, rfl, fun _ => ⟨rfl, rfl⟩⟩
                · have h2 := (decode_high s1 pos hp (by omega)).1
                  have h3 := lab_hi (r := ((Utf8.decode s1 pos).1 : Int)) (by omega)
                  have h4 := lab_hi (r := ((s1[pos]'hp).toNat : Int)) (by omega)
                  refine ⟨?_, h3.trans h4.symm, fun e => ?_⟩
                  · have := Go.Lib.decodeL_rune (s1.data.toList.drop pos)
                    rw [Go.Lib.decodeL_drop] at this
                    omega
                  · rw [h4] at e; cases e⟩
              have HNO : Aside0 (isDig ((s1[pos]'hp).toNat : Int) = false → ¬ s1.data.toList.all (fun c => isDig c.toNat) = true) := ⟨fun e hh => by
                have := List.all_eq_true.1 hh _ (List.getElem_mem (by simpa using hp : pos < s1.data.toList.length))
                rw [show s1.data.toList[pos]'(by simpa using hp) = s1[pos]'hp from rfl, e] at this
                cases this⟩
              have HPP := Aside0.mk hp
              generalize s1[pos]'hp = by_ at *
              clear HI HW hp
              obtain ⟨c, hc⟩ : ∃ c : Int, ((Utf8.decode s1 pos).1 : Int) = c := ⟨_, rfl⟩
              have HC0 : Aside0 (0 ≤ c) := ⟨by rw [← hc]; omega⟩
              rw [hc] at hnx HG
              generalize hq : pos + (Utf8.decode s1 pos).2 = q at *
              have HQ : Aside0 (isDig by_.toNat = true → q = pos + 1 ∧ c = (by_.toNat : Int)) := ⟨fun e => by have := HG.out.2.2 e; omega⟩
              have HCD : Aside0 (c ≤ 1114111 ∧ isDig c = isDig by_.toNat) := ⟨HG.out.1, HG.out.2.1⟩
              clear hq hc HG
              generalize hwx : wr.iterAt w.heap.size s1 q = wx at *
              clear hwx
              have HNB := Aside0.mk (labV_bd 4 (s1.data.toList.take pos) (by have := HS1.out; have := HS.out; have := HPP.out; simp; omega) HA.out.1)
              by_cases hd : isDig by_.toNat = true
              · have hcd := HCD.out.2.trans hd
                have hcd2 := hcd
                unfold isDig at hcd2
                rw [Bool.and_eq_true, decide_eq_true_eq, decide_eq_true_eq] at hcd2
                have d1 : decide (c < 48) = false := decide_eq_false (by omega)
                have d2 : decide (57 < c) = false := decide_eq_false (by omega)
                have hnb : 0 ≤ n ∧ n < 10000 := by
                  have h1 := HNB.out
                  have h2 : (s1.data.toList.take pos).length = 0 ∨ (s1.data.toList.take pos).length = 1 ∨ (s1.data.toList.take pos).length = 2 ∨ (s1.data.toList.take pos).length = 3 := by have := HS1.out; have := HS.out; have := HPP.out; simp; omega
                  rw [← HA.out.2] at h1
                  rcases h2 with e | e | e | e <;> rw [e] at h1 <;> omega
                have hm1 : IntKind.i32.wrap (c - 48) = c - 48 := by simp [IntKind.wrap, IntKind.bits, IntKind.signed]; omega
                have hm2 : IntKind.i64.wrap (c - 48) = c - 48 := (i64_w _).trans (by simp only [wrap64]; omega)
                have hm3 : IntKind.i64.wrap (10 * n) = 10 * n := (i64_w _).trans (by simp only [wrap64]; omega)
                have hm4 : IntKind.i64.wrap (10 * n + (c - 48)) = 10 * n + (c - 48) := (i64_w _).trans (by simp only [wrap64]; omega)
                have HQ2 := Aside0.mk (HQ.out hd)
                have HD := Aside0.mk hd
                clear hcd hcd2 hnb hd
                go_wp2
                go_roundg (s1.size - pos)
                case measure => exact HP.out.1
                case rel =>
                  obtain ⟨rfl, hcb⟩ := HQ2.out
                  exact ⟨pos + 1, 10 * n + (c - 48), rfl, ⟨by have := HPP.out; omega⟩, ⟨HI2.out⟩, HW2, ⟨by rw [HTK.out, List.all_append, HA.out.1, Bool.true_and, List.all_cons, HD.out]; rfl, by rw [HTK.out, labV_snoc, ← HA.out.2, hcb]⟩⟩
              · have hd2 : isDig by_.toNat = false := by simpa using hd
                have hcd := HCD.out.2.trans hd2
                obtain ⟨rfl, rfl, rfl⟩ := HBad.out (Or.inr (by rw [← HS1.out.1]; exact HNO.out hd2))
                by_cases h48 : c < 48
                · have d1 : decide (c < 48) = true := decide_eq_true h48
                  clear hcd hd hd2 h48
                  go_wp2
                  go_ret3
                  exact ⟨rfl, HW2.out⟩
                · have d1 : decide (c < 48) = false := decide_eq_false h48
                  have d2 : decide (57 < c) = true := decide_eq_true (by
                    unfold isDig at hcd
                    rw [Bool.and_eq_false_iff, decide_eq_false_iff_not, decide_eq_false_iff_not] at hcd
                    omega)
                  clear hcd hd hd2 h48
                  go_wp2
                  go_ret3
                  exact ⟨rfl, HW2.out⟩
            · have hnx : ∀ ty, (Instr.next (.pointer (some ⟨w.heap.size, 0, none⟩)) true ty).run Tryd.prog wr = _ := fun ty => Go.Lib.run_next_end_at wr w.heap.size s1 pos ty HI.out hp
              have HA2 : Aside0 (s1.data.toList.all (fun c => isDig c.toNat) = true ∧ n = labV s1.data.toList) := ⟨by
                have h1 := HA.out
                rw [List.take_of_length_le (by simp; omega)] at h1
                exact h1⟩
              obtain ⟨rfl, rfl, rfl⟩ := HGood.out HFB.out (by rw [← HS1.out.1]; exact HA2.out.1)
              have HN : Aside0 (labV a0.data.toList.dropLast = n) := ⟨by rw [HA2.out.2, HS1.out.1]⟩
              clear HA HP hp
              go_wp2
              go_ret3
              exact ⟨by rw [HN.out]; rfl, HW.out⟩
      · have c3 : (bt a0 z == 102) = false := beq_eq_false_iff_ne.2 (fun e => hfb (Or.inl e))
        have c4 : (bt a0 z == 98) = false := beq_eq_false_iff_ne.2 (fun e => hfb (Or.inr e))
        have c3' : (bt a0 z != 102) = true := by rw [bne, c3]; rfl
        have c4' : (bt a0 z != 98) = true := by rw [bne, c4]; rfl
        obtain ⟨rfl, rfl, rfl⟩ := HBad.out (Or.inl hfb)
        clear h2 h5 hfb hz HR HL
        go_enter Tryd.func13, Tryd.ntmps13
        go_wp2
        go_ret3
        exact ⟨rfl, Below.refl _ _⟩

end Go.Proofs.YtpndeninbokjoaaDoor.P
