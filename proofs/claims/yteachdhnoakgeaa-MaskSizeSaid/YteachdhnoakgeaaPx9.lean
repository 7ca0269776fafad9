-- printed by wip/tools/myprint.py out of the translation. Not trusted: Lean checks it.
import Derived.Test.YteachdhnoakgeaaPx0
import Derived.Test.YteachdhnoakgeaaPx2
import Derived.Test.YteachdhnoakgeaaPx5
import Derived.Test.YteachdhnoakgeaaPx6
namespace Go.Proofs.Yteachdhnoakgeaa.P
open Go.RowKit Go.Proofs.YteachdhnoakgeaaW.PrintWords Go.Proofs.YteachdhnoakgeaaW.PrintLast Go.Proofs.YteachdhnoakgeaaW.PrintMore
attribute [local go_sem] max2_int min2_int max_two min_two max_three min_three max_four min_four   -- for this text's walks alone
set_option linter.unusedVariables false
set_option linter.unusedSimpArgs false

/-! ### cleatlaw02_MaskSize: function 7 -/
mutual
def cleatlaw02_MaskSize.j0 : Nat → Int → Int → Bool → Option (Bool)
  | 0, _, _, _ => none
  | k + 1, x0, x3, x31 => if x31 = true then (some false) else ((bits_Rotate.f k x0 (Int.tmod x3 64) 64).bind fun bt229 => (if bt229.2 = 0 then (cleatlaw02_MaskSize.j1 k x0 x3 (bt229.1 != x0)) else (cleatlaw02_MaskSize.j1 k x0 x3 true)))
def cleatlaw02_MaskSize.j1 : Nat → Int → Int → Bool → Option (Bool)
  | 0, _, _, _ => none
  | k + 1, x0, x3, x45 => if x45 = true then (some false) else (if x3 = 2 then ((cleatlaw02_masked.f k).bind fun t231 => (some t231)) else ((bits_Rotate.f k x0 (wrap64 (Int.tdiv x3 2)) 64).bind fun bt232 => ((cleatlaw02_masked.f k).bind fun t234 => (if t234 = true then (if bt232.2 = 0 then (some (bt232.1 != x0)) else (some false)) else (some false)))))
end
def cleatlaw02_MaskSize.f (k : Nat) (a0 : Int) : Option (Bool) := (mask_Size.f k a0).bind fun t228 => (if t228 = 2 then (cleatlaw02_MaskSize.j0 k a0 t228 false) else (if t228 = 4 then (cleatlaw02_MaskSize.j0 k a0 t228 false) else (if t228 = 8 then (cleatlaw02_MaskSize.j0 k a0 t228 false) else (if t228 = 16 then (cleatlaw02_MaskSize.j0 k a0 t228 false) else (if t228 = 32 then (cleatlaw02_MaskSize.j0 k a0 t228 false) else (cleatlaw02_MaskSize.j0 k a0 t228 (t228 != 64)))))))
theorem cleatlaw02_MaskSize.mono_l : ∀ k, (∀ y0 y1 y2, LeO (cleatlaw02_MaskSize.j0 k y0 y1 y2) (cleatlaw02_MaskSize.j0 (k + 1) y0 y1 y2)) ∧ (∀ y0 y1 y2, LeO (cleatlaw02_MaskSize.j1 k y0 y1 y2) (cleatlaw02_MaskSize.j1 (k + 1) y0 y1 y2))
  | 0 => ⟨fun _ _ _ r h => by simp [cleatlaw02_MaskSize.j0] at h, fun _ _ _ r h => by simp [cleatlaw02_MaskSize.j1] at h⟩
  | k + 1 => by
    obtain ⟨ih0, ih1⟩ := cleatlaw02_MaskSize.mono_l k
    refine ⟨?_, ?_⟩
    · intro y0 y1 y2
      unfold cleatlaw02_MaskSize.j0
      repeat' first
      | (with_reducible exact ih0 _ _ _)
      | (with_reducible exact ih1 _ _ _)
      | (with_reducible exact bits_Rotate.mono _ _ _ _)
      | (with_reducible exact cleatlaw02_masked.mono _)
      | (with_reducible exact mask_Size.mono _ _)
      | (with_reducible exact LeO.refl _)
      | (with_reducible exact LeO.none _)
      | (with_reducible refine LeO.ite ?_ ?_)
      | (with_reducible refine LeO.bind ?_ (fun _ => ?_))
      | exact ih0 _ _ _
      | exact ih1 _ _ _
      | exact bits_Rotate.mono _ _ _ _
      | exact cleatlaw02_masked.mono _
      | exact mask_Size.mono _ _
      | exact LeO.none _
      | refine LeO.ite ?_ ?_
      | refine LeO.bind ?_ (fun _ => ?_)
    · intro y0 y1 y2
      unfold cleatlaw02_MaskSize.j1
      repeat' first
      | (with_reducible exact ih0 _ _ _)
      | (with_reducible exact ih1 _ _ _)
      | (with_reducible exact bits_Rotate.mono _ _ _ _)
      | (with_reducible exact cleatlaw02_masked.mono _)
      | (with_reducible exact mask_Size.mono _ _)
      | (with_reducible exact LeO.refl _)
      | (with_reducible exact LeO.none _)
      | (with_reducible refine LeO.ite ?_ ?_)
      | (with_reducible refine LeO.bind ?_ (fun _ => ?_))
      | exact ih0 _ _ _
      | exact ih1 _ _ _
      | exact bits_Rotate.mono _ _ _ _
      | exact cleatlaw02_masked.mono _
      | exact mask_Size.mono _ _
      | exact LeO.none _
      | refine LeO.ite ?_ ?_
      | refine LeO.bind ?_ (fun _ => ?_)
theorem cleatlaw02_MaskSize.mono : ∀ a0 k, LeO (cleatlaw02_MaskSize.f k a0) (cleatlaw02_MaskSize.f (k + 1) a0) := by
  intro a0 k
  obtain ⟨ih0, ih1⟩ := cleatlaw02_MaskSize.mono_l k
  unfold cleatlaw02_MaskSize.f
  repeat' first
      | (with_reducible exact ih0 _ _ _)
      | (with_reducible exact ih1 _ _ _)
      | (with_reducible exact bits_Rotate.mono _ _ _ _)
      | (with_reducible exact cleatlaw02_masked.mono _)
      | (with_reducible exact mask_Size.mono _ _)
      | (with_reducible exact LeO.refl _)
      | (with_reducible exact LeO.none _)
      | (with_reducible refine LeO.ite ?_ ?_)
      | (with_reducible refine LeO.bind ?_ (fun _ => ?_))
      | exact ih0 _ _ _
      | exact ih1 _ _ _
      | exact bits_Rotate.mono _ _ _ _
      | exact cleatlaw02_masked.mono _
      | exact mask_Size.mono _ _
      | exact LeO.none _
      | refine LeO.ite ?_ ?_
      | refine LeO.bind ?_ (fun _ => ?_)
set_option maxHeartbeats 8000000 in
set_option maxRecDepth 100000 in
theorem cleatlaw02_MaskSize.calls (k : Nat) (a0 : Int) (r : Bool) (w : World) (h : cleatlaw02_MaskSize.f k a0 = some r) :
    Calls Try.prog 7 #[.int .u64 a0] w fun e w' => e = .returned (.bool r) ∧ Below w.heap.size w w' := by
  have HB := Aside0.mk (Below.refl w.heap.size w)
  have H : ((mask_Size.f k a0).bind fun t228 => (if t228 = 2 then (cleatlaw02_MaskSize.j0 k a0 t228 false) else (if t228 = 4 then (cleatlaw02_MaskSize.j0 k a0 t228 false) else (if t228 = 8 then (cleatlaw02_MaskSize.j0 k a0 t228 false) else (if t228 = 16 then (cleatlaw02_MaskSize.j0 k a0 t228 false) else (if t228 = 32 then (cleatlaw02_MaskSize.j0 k a0 t228 false) else (cleatlaw02_MaskSize.j0 k a0 t228 (t228 != 64)))))))) = some r := h
  clear h
  replace H := Option.bind_eq_some_iff.mp H
  obtain ⟨t228, A20, H⟩ := H
  replace H : (if t228 = 2 then (cleatlaw02_MaskSize.j0 k a0 t228 false) else (if t228 = 4 then (cleatlaw02_MaskSize.j0 k a0 t228 false) else (if t228 = 8 then (cleatlaw02_MaskSize.j0 k a0 t228 false) else (if t228 = 16 then (cleatlaw02_MaskSize.j0 k a0 t228 false) else (if t228 = 32 then (cleatlaw02_MaskSize.j0 k a0 t228 false) else (cleatlaw02_MaskSize.j0 k a0 t228 (t228 != 64))))))) = some r := H
  have A2 := Aside0.mk A20
  clear A20
  have HC3 := Aside0.mk H
  clear H
  go_enter Try.func7, Try.ntmps7
  go_upto_region 2 with (first | ((with_reducible refine gate_callee (f := 15) rfl ?_); refine goesL_ (some 9) rfl rfl Try.func15 (by kernel_rfl) rfl #[.int .u64 a0] rfl (by (try simp only [List.map_toArray, List.map_cons, List.map_nil]); first | done | rfl | (simp only [List.length_drop, List.length_take]; rfl)) ?_; (with_reducible refine (mask_Size.calls k a0 t228 _ A2.out).mono ?_); rintro e w4 ⟨rfl, hb⟩; refine ⟨_, rfl, ?_⟩; have n0_ := Aside0.mk (below_step (by repeat (first | (with_reducible first | exact HB.out | apply below_alloc | apply pw_below_drewN | apply below_drew1) | exact HB.out)) hb); clear HB; have HB := n0_; clear n0_; (try clear hb); (try clear hb2); (try clear hk); (try clear hi)))
  (try simp only [Act.put, List.setIfInBounds_toArray, List.set_cons_zero, List.set_cons_succ])
  go_cut [31] (fun v31 wc => ∃ (kq : Nat) (x31_2 : Bool), v31 = .bool x31_2 ∧ Aside0 (cleatlaw02_MaskSize.j0 kq a0 t228 x31_2 = some r) ∧ Aside0 (kq ≤ k) ∧ Aside0 (Below w.heap.size w wc))
  case first =>
    have H := HC3.out
    clear HC3
    by_cases c5 : t228 = 2
    · rw [if_pos c5] at H
      have c5b0 : (t228 == 2) = true := beq_iff_eq.mpr c5
      have c5b1 : (t228 != 2) = false := bne_eq_false_iff_eq.mpr c5
      clear c5
      (first | rw [c5b0] | (simp only [i64_w, i32_w]; rw [c5b0]) | skip)
      have H' := Aside0.mk H
      clear H
      go_wp2
      go_meet
      case rel => exact ⟨_, (false), (by first | rfl | (simp; done) | (simp [*]; done)), H', ⟨by first | omega | exact Nat.le_refl _⟩, ⟨by repeat (first | (with_reducible first | exact HB.out | apply below_alloc | apply pw_below_drewN | apply below_drew1) | exact HB.out)⟩⟩
    · rw [if_neg c5] at H
      have c5b0 : (t228 == 2) = false := beq_eq_false_iff_ne.mpr c5
      have c5b1 : (t228 != 2) = true := bne_iff_ne.mpr c5
      (first | rw [c5b0] | (simp only [i64_w, i32_w]; rw [c5b0]) | skip)
      by_cases c6 : t228 = 4
      · rw [if_pos c6] at H
        have c6b0 : (t228 == 4) = true := beq_iff_eq.mpr c6
        have c6b1 : (t228 != 4) = false := bne_eq_false_iff_eq.mpr c6
        clear c6
        have H' := Aside0.mk H
        clear H
        go_wp2
        go_meet
        case rel => exact ⟨_, (false), (by first | rfl | (simp; done) | (simp [*]; done)), H', ⟨by first | omega | exact Nat.le_refl _⟩, ⟨by repeat (first | (with_reducible first | exact HB.out | apply below_alloc | apply pw_below_drewN | apply below_drew1) | exact HB.out)⟩⟩
      · rw [if_neg c6] at H
        have c6b0 : (t228 == 4) = false := beq_eq_false_iff_ne.mpr c6
        have c6b1 : (t228 != 4) = true := bne_iff_ne.mpr c6
        by_cases c7 : t228 = 8
        · rw [if_pos c7] at H
          have c7b0 : (t228 == 8) = true := beq_iff_eq.mpr c7
          have c7b1 : (t228 != 8) = false := bne_eq_false_iff_eq.mpr c7
          clear c7
          have H' := Aside0.mk H
          clear H
          go_wp2
          go_meet
          case rel => exact ⟨_, (false), (by first | rfl | (simp; done) | (simp [*]; done)), H', ⟨by first | omega | exact Nat.le_refl _⟩, ⟨by repeat (first | (with_reducible first | exact HB.out | apply below_alloc | apply pw_below_drewN | apply below_drew1) | exact HB.out)⟩⟩
        · rw [if_neg c7] at H
          have c7b0 : (t228 == 8) = false := beq_eq_false_iff_ne.mpr c7
          have c7b1 : (t228 != 8) = true := bne_iff_ne.mpr c7
          by_cases c8 : t228 = 16
          · rw [if_pos c8] at H
            have c8b0 : (t228 == 16) = true := beq_iff_eq.mpr c8
            have c8b1 : (t228 != 16) = false := bne_eq_false_iff_eq.mpr c8
            clear c8
            have H' := Aside0.mk H
            clear H
            go_wp2
            go_meet
            case rel => exact ⟨_, (false), (by first | rfl | (simp; done) | (simp [*]; done)), H', ⟨by first | omega | exact Nat.le_refl _⟩, ⟨by repeat (first | (with_reducible first | exact HB.out | apply below_alloc | apply pw_below_drewN | apply below_drew1) | exact HB.out)⟩⟩
          · rw [if_neg c8] at H
            have c8b0 : (t228 == 16) = false := beq_eq_false_iff_ne.mpr c8
            have c8b1 : (t228 != 16) = true := bne_iff_ne.mpr c8
            by_cases c9 : t228 = 32
            · rw [if_pos c9] at H
              have c9b0 : (t228 == 32) = true := beq_iff_eq.mpr c9
              have c9b1 : (t228 != 32) = false := bne_eq_false_iff_eq.mpr c9
              clear c9
              have H' := Aside0.mk H
              clear H
              go_wp2
              go_meet
              case rel => exact ⟨_, (false), (by first | rfl | (simp; done) | (simp [*]; done)), H', ⟨by first | omega | exact Nat.le_refl _⟩, ⟨by repeat (first | (with_reducible first | exact HB.out | apply below_alloc | apply pw_below_drewN | apply below_drew1) | exact HB.out)⟩⟩
            · rw [if_neg c9] at H
              have c9b0 : (t228 == 32) = false := beq_eq_false_iff_ne.mpr c9
              have c9b1 : (t228 != 32) = true := bne_iff_ne.mpr c9
              have H' := Aside0.mk H
              clear H
              go_wp2
              go_meet
              case rel => exact ⟨_, ((t228 != 64)), (by first | rfl | (simp; done) | (simp [*]; done)), H', ⟨by first | omega | exact Nat.le_refl _⟩, ⟨by repeat (first | (with_reducible first | exact HB.out | apply below_alloc | apply pw_below_drewN | apply below_drew1) | exact HB.out)⟩⟩
  case rest =>
    clear HC3
    try clear c1
    try clear p2
    try clear c5
    try clear c5b0
    try clear c5b1
    try clear c6
    try clear c6b0
    try clear c6b1
    try clear c7
    try clear c7b0
    try clear c7b1
    try clear c8
    try clear c8b0
    try clear c8b1
    try clear c9
    try clear c9b0
    try clear c9b1
    obtain ⟨kq, x31_2, rfl, HA, HJ2, HB⟩ := hcut
    cases kq with
    | zero => exact absurd HA.out (by simp [cleatlaw02_MaskSize.j0])
    | succ kj2 =>
      have H := HA.out
      clear HA
      simp only [cleatlaw02_MaskSize.j0] at H
      by_cases c10 : x31_2 = true
      · subst c10
        have H1 : (some false) = some r := by rw [if_pos rfl] at H; exact H
        clear H
        have H := H1
        clear H1
        obtain rfl := Option.some.inj H
        go_wp2
        go_ret
        exact ⟨by first | rfl | (simp [errW_none, errW_some] <;> rfl) | (simp [*, errW_none, errW_some] <;> rfl), by repeat (first | (with_reducible first | exact HB.out | apply below_alloc | apply pw_below_drewN | apply below_drew1) | exact HB.out)⟩
      · replace c10 := Bool.eq_false_iff.mpr c10
        subst c10
        have H1 : ((bits_Rotate.f kj2 a0 (Int.tmod t228 64) 64).bind fun bt229 => (if bt229.2 = 0 then (cleatlaw02_MaskSize.j1 kj2 a0 t228 (bt229.1 != a0)) else (cleatlaw02_MaskSize.j1 kj2 a0 t228 true))) = some r := by rw [if_neg (show ¬ (false = true) by decide)] at H; exact H
        clear H
        have H := H1
        clear H1
        replace H := Option.bind_eq_some_iff.mp H
        obtain ⟨⟨t229, t230⟩, A110, H⟩ := H
        replace H : (if t230 = 0 then (cleatlaw02_MaskSize.j1 kj2 a0 t228 (t229 != a0)) else (cleatlaw02_MaskSize.j1 kj2 a0 t228 true)) = some r := H
        have A11 := Aside0.mk A110
        clear A110
        have HC12 := Aside0.mk H
        clear H
        go_upto_region 5 with (first | ((with_reducible refine gate_callee (f := 19) rfl ?_); refine goesL_ (some 36) rfl rfl Try.func19 (by kernel_rfl) rfl #[.int .u64 a0, .int .i64 (Int.tmod t228 64), .int .i64 64] rfl (by (try simp only [List.map_toArray, List.map_cons, List.map_nil]); first | done | rfl | (simp only [List.length_drop, List.length_take]; rfl)) ?_; (with_reducible refine (bits_Rotate.calls kj2 a0 (Int.tmod t228 64) 64 t229 t230 _ A11.out).mono ?_); rintro e w' ⟨rfl, ⟨nd, rfl⟩⟩; refine ⟨_, rfl, ?_⟩))
        (try simp only [Act.put, List.setIfInBounds_toArray, List.set_cons_zero, List.set_cons_succ])
        go_cut [45] (fun v45 wc => ∃ (kq : Nat) (x45_11 : Bool), v45 = .bool x45_11 ∧ Aside0 (cleatlaw02_MaskSize.j1 kq a0 t228 x45_11 = some r) ∧ Aside0 (kq ≤ kj2) ∧ Aside0 (Below w.heap.size w wc))
        case first =>
          have H := HC12.out
          clear HC12
          by_cases c13 : t230 = 0
          · rw [if_pos c13] at H
            have c13b0 : (t230 == 0) = true := beq_iff_eq.mpr c13
            have c13b1 : (t230 != 0) = false := bne_eq_false_iff_eq.mpr c13
            clear c13
            (first | rw [c13b0] | (simp only [i64_w, i32_w]; rw [c13b0]) | skip)
            have H' := Aside0.mk H
            clear H
            go_wp2
            go_meet
            case rel => exact ⟨_, ((t229 != a0)), (by first | rfl | (simp; done) | (simp [*]; done)), H', ⟨by have := HJ2.out; first | omega | exact Nat.le_refl _⟩, ⟨by repeat (first | (with_reducible first | exact HB.out | apply below_alloc | apply pw_below_drewN | apply below_drew1) | exact HB.out)⟩⟩
          · rw [if_neg c13] at H
            have c13b0 : (t230 == 0) = false := beq_eq_false_iff_ne.mpr c13
            have c13b1 : (t230 != 0) = true := bne_iff_ne.mpr c13
            (first | rw [c13b0] | (simp only [i64_w, i32_w]; rw [c13b0]) | skip)
            have H' := Aside0.mk H
            clear H
            go_wp2
            go_meet
            case rel => exact ⟨_, (true), (by first | rfl | (simp; done) | (simp [*]; done)), H', ⟨by have := HJ2.out; first | omega | exact Nat.le_refl _⟩, ⟨by repeat (first | (with_reducible first | exact HB.out | apply below_alloc | apply pw_below_drewN | apply below_drew1) | exact HB.out)⟩⟩
        case rest =>
          clear HC12
          try clear c1
          try clear p2
          try clear c5
          try clear c5b0
          try clear c5b1
          try clear c6
          try clear c6b0
          try clear c6b1
          try clear c7
          try clear c7b0
          try clear c7b1
          try clear c8
          try clear c8b0
          try clear c8b1
          try clear c9
          try clear c9b0
          try clear c9b1
          try clear c10
          try clear c13
          try clear c13b0
          try clear c13b1
          try clear p2
          obtain ⟨kq, x45_11, rfl, HA, HJ11, HB⟩ := hcut
          cases kq with
          | zero => exact absurd HA.out (by simp [cleatlaw02_MaskSize.j1])
          | succ kj11 =>
            have H := HA.out
            clear HA
            simp only [cleatlaw02_MaskSize.j1] at H
            by_cases c14 : x45_11 = true
            · subst c14
              have H1 : (some false) = some r := by rw [if_pos rfl] at H; exact H
              clear H
              have H := H1
              clear H1
              obtain rfl := Option.some.inj H
              go_wp2
              go_ret
              exact ⟨by first | rfl | (simp [errW_none, errW_some] <;> rfl) | (simp [*, errW_none, errW_some] <;> rfl), by repeat (first | (with_reducible first | exact HB.out | apply below_alloc | apply pw_below_drewN | apply below_drew1) | exact HB.out)⟩
            · replace c14 := Bool.eq_false_iff.mpr c14
              subst c14
              have H1 : (if t228 = 2 then ((cleatlaw02_masked.f kj11).bind fun t231 => (some t231)) else ((bits_Rotate.f kj11 a0 (wrap64 (Int.tdiv t228 2)) 64).bind fun bt232 => ((cleatlaw02_masked.f kj11).bind fun t234 => (if t234 = true then (if bt232.2 = 0 then (some (bt232.1 != a0)) else (some false)) else (some false))))) = some r := by rw [if_neg (show ¬ (false = true) by decide)] at H; exact H
              clear H
              have H := H1
              clear H1
              by_cases c15 : t228 = 2
              · rw [if_pos c15] at H
                have c15b0 : (t228 == 2) = true := beq_iff_eq.mpr c15
                have c15b1 : (t228 != 2) = false := bne_eq_false_iff_eq.mpr c15
                clear c15
                replace H := Option.bind_eq_some_iff.mp H
                obtain ⟨t231, A160, H⟩ := H
                replace H : (some t231) = some r := H
                have A16 := Aside0.mk A160
                clear A160
                obtain rfl := Option.some.inj H
                go_wp2_with (first | ((with_reducible refine gate_callee (f := 12) rfl ?_); refine goesL_ (some 48) rfl rfl Try.func12 (by kernel_rfl) rfl #[] rfl (by (try simp only [List.map_toArray, List.map_cons, List.map_nil]); first | done | rfl | (simp only [List.length_drop, List.length_take]; rfl)) ?_; (with_reducible refine (cleatlaw02_masked.calls kj11  t231 _ A16.out).mono ?_); rintro e w17 ⟨rfl, hb⟩; refine ⟨_, rfl, ?_⟩; have n0_ := Aside0.mk (below_step (by repeat (first | (with_reducible first | exact HB.out | apply below_alloc | apply pw_below_drewN | apply below_drew1) | exact HB.out)) hb); clear HB; have HB := n0_; clear n0_; (try clear hb); (try clear hb2); (try clear hk); (try clear hi)))
                go_ret
                exact ⟨by first | rfl | (simp [errW_none, errW_some] <;> rfl) | (simp [*, errW_none, errW_some] <;> rfl), by repeat (first | (with_reducible first | exact HB.out | apply below_alloc | apply pw_below_drewN | apply below_drew1) | exact HB.out)⟩
              · rw [if_neg c15] at H
                have c15b0 : (t228 == 2) = false := beq_eq_false_iff_ne.mpr c15
                have c15b1 : (t228 != 2) = true := bne_iff_ne.mpr c15
                replace H := Option.bind_eq_some_iff.mp H
                obtain ⟨⟨t232, t233⟩, A180, H⟩ := H
                replace H : ((cleatlaw02_masked.f kj11).bind fun t234 => (if t234 = true then (if t233 = 0 then (some (t232 != a0)) else (some false)) else (some false))) = some r := H
                have A18 := Aside0.mk A180
                clear A180
                replace H := Option.bind_eq_some_iff.mp H
                obtain ⟨t234, A190, H⟩ := H
                replace H : (if t234 = true then (if t233 = 0 then (some (t232 != a0)) else (some false)) else (some false)) = some r := H
                have A19 := Aside0.mk A190
                clear A190
                by_cases c20 : t234 = true
                · subst c20
                  have H1 : (if t233 = 0 then (some (t232 != a0)) else (some false)) = some r := by rw [if_pos rfl] at H; exact H
                  clear H
                  have H := H1
                  clear H1
                  by_cases c21 : t233 = 0
                  · rw [if_pos c21] at H
                    have c21b0 : (t233 == 0) = true := beq_iff_eq.mpr c21
                    have c21b1 : (t233 != 0) = false := bne_eq_false_iff_eq.mpr c21
                    clear c21
                    obtain rfl := Option.some.inj H
                    go_wp2_with (first | ((with_reducible refine gate_callee (f := 19) rfl ?_); refine goesL_ (some 53) rfl rfl Try.func19 (by kernel_rfl) rfl #[.int .u64 a0, .int .i64 (wrap64 (Int.tdiv t228 2)), .int .i64 64] rfl (by (try simp only [List.map_toArray, List.map_cons, List.map_nil]); first | done | rfl | (simp only [List.length_drop, List.length_take]; rfl)) ?_; (with_reducible refine (bits_Rotate.calls kj11 a0 (wrap64 (Int.tdiv t228 2)) 64 t232 t233 _ A18.out).mono ?_); rintro e w' ⟨rfl, ⟨nd, rfl⟩⟩; refine ⟨_, rfl, ?_⟩) | ((with_reducible refine gate_callee (f := 12) rfl ?_); refine goesL_ (some 56) rfl rfl Try.func12 (by kernel_rfl) rfl #[] rfl (by (try simp only [List.map_toArray, List.map_cons, List.map_nil]); first | done | rfl | (simp only [List.length_drop, List.length_take]; rfl)) ?_; (with_reducible refine (cleatlaw02_masked.calls kj11  true _ A19.out).mono ?_); rintro e w22 ⟨rfl, hb⟩; refine ⟨_, rfl, ?_⟩; have n0_ := Aside0.mk (below_step (by repeat (first | (with_reducible first | exact HB.out | apply below_alloc | apply pw_below_drewN | apply below_drew1) | exact HB.out)) hb); clear HB; have HB := n0_; clear n0_; (try clear hb); (try clear hb2); (try clear hk); (try clear hi)))
                    go_ret
                    exact ⟨by first | rfl | (simp [errW_none, errW_some] <;> rfl) | (simp [*, errW_none, errW_some] <;> rfl), by repeat (first | (with_reducible first | exact HB.out | apply below_alloc | apply pw_below_drewN | apply below_drew1) | exact HB.out)⟩
                  · rw [if_neg c21] at H
                    have c21b0 : (t233 == 0) = false := beq_eq_false_iff_ne.mpr c21
                    have c21b1 : (t233 != 0) = true := bne_iff_ne.mpr c21
                    obtain rfl := Option.some.inj H
                    go_wp2_with (first | ((with_reducible refine gate_callee (f := 19) rfl ?_); refine goesL_ (some 53) rfl rfl Try.func19 (by kernel_rfl) rfl #[.int .u64 a0, .int .i64 (wrap64 (Int.tdiv t228 2)), .int .i64 64] rfl (by (try simp only [List.map_toArray, List.map_cons, List.map_nil]); first | done | rfl | (simp only [List.length_drop, List.length_take]; rfl)) ?_; (with_reducible refine (bits_Rotate.calls kj11 a0 (wrap64 (Int.tdiv t228 2)) 64 t232 t233 _ A18.out).mono ?_); rintro e w' ⟨rfl, ⟨nd, rfl⟩⟩; refine ⟨_, rfl, ?_⟩) | ((with_reducible refine gate_callee (f := 12) rfl ?_); refine goesL_ (some 56) rfl rfl Try.func12 (by kernel_rfl) rfl #[] rfl (by (try simp only [List.map_toArray, List.map_cons, List.map_nil]); first | done | rfl | (simp only [List.length_drop, List.length_take]; rfl)) ?_; (with_reducible refine (cleatlaw02_masked.calls kj11  true _ A19.out).mono ?_); rintro e w23 ⟨rfl, hb⟩; refine ⟨_, rfl, ?_⟩; have n0_ := Aside0.mk (below_step (by repeat (first | (with_reducible first | exact HB.out | apply below_alloc | apply pw_below_drewN | apply below_drew1) | exact HB.out)) hb); clear HB; have HB := n0_; clear n0_; (try clear hb); (try clear hb2); (try clear hk); (try clear hi)))
                    go_ret
                    exact ⟨by first | rfl | (simp [errW_none, errW_some] <;> rfl) | (simp [*, errW_none, errW_some] <;> rfl), by repeat (first | (with_reducible first | exact HB.out | apply below_alloc | apply pw_below_drewN | apply below_drew1) | exact HB.out)⟩
                · replace c20 := Bool.eq_false_iff.mpr c20
                  subst c20
                  have H1 : (some false) = some r := by rw [if_neg (show ¬ (false = true) by decide)] at H; exact H
                  clear H
                  have H := H1
                  clear H1
                  obtain rfl := Option.some.inj H
                  go_wp2_with (first | ((with_reducible refine gate_callee (f := 19) rfl ?_); refine goesL_ (some 53) rfl rfl Try.func19 (by kernel_rfl) rfl #[.int .u64 a0, .int .i64 (wrap64 (Int.tdiv t228 2)), .int .i64 64] rfl (by (try simp only [List.map_toArray, List.map_cons, List.map_nil]); first | done | rfl | (simp only [List.length_drop, List.length_take]; rfl)) ?_; (with_reducible refine (bits_Rotate.calls kj11 a0 (wrap64 (Int.tdiv t228 2)) 64 t232 t233 _ A18.out).mono ?_); rintro e w' ⟨rfl, ⟨nd, rfl⟩⟩; refine ⟨_, rfl, ?_⟩) | ((with_reducible refine gate_callee (f := 12) rfl ?_); refine goesL_ (some 56) rfl rfl Try.func12 (by kernel_rfl) rfl #[] rfl (by (try simp only [List.map_toArray, List.map_cons, List.map_nil]); first | done | rfl | (simp only [List.length_drop, List.length_take]; rfl)) ?_; (with_reducible refine (cleatlaw02_masked.calls kj11  false _ A19.out).mono ?_); rintro e w24 ⟨rfl, hb⟩; refine ⟨_, rfl, ?_⟩; have n0_ := Aside0.mk (below_step (by repeat (first | (with_reducible first | exact HB.out | apply below_alloc | apply pw_below_drewN | apply below_drew1) | exact HB.out)) hb); clear HB; have HB := n0_; clear n0_; (try clear hb); (try clear hb2); (try clear hk); (try clear hi)))
                  go_ret
                  exact ⟨by first | rfl | (simp [errW_none, errW_some] <;> rfl) | (simp [*, errW_none, errW_some] <;> rfl), by repeat (first | (with_reducible first | exact HB.out | apply below_alloc | apply pw_below_drewN | apply below_drew1) | exact HB.out)⟩

/-- THE ONE PURE STATEMENT of cleatlaw02_MaskSize: yours. -/
def cleatlaw02_MaskSize.Pure : Prop := ∀ (a0 : Int), (Lit.int .u64 a0).wf = true → ∃ k, cleatlaw02_MaskSize.f k a0 = some true
theorem cleatlaw02_MaskSize.walk (P : cleatlaw02_MaskSize.Pure) (a0 : Int) (w : World) (w0 : (Lit.int .u64 a0).wf = true) :
    Calls Try.prog 7 #[.int .u64 a0] w fun e w' => e = .returned (.bool true) ∧ Below w.heap.size w w' := by
  obtain ⟨k, h⟩ := P a0 w0
  refine (cleatlaw02_MaskSize.calls k a0 true w h).mono ?_
  rintro e w' ⟨rfl, hd⟩
  exact ⟨rfl, hd⟩

end Go.Proofs.Yteachdhnoakgeaa.P
