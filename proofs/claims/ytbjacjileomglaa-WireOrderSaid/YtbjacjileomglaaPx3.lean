-- printed by wip/tools/myprint.py out of the translation. Not trusted: Lean checks it.
import Derived.Test.YtbjacjileomglaaPx0
import Derived.Test.YtbjacjileomglaaPx1
namespace Go.Proofs.Ytbjacjileomglaa.P
open Go.RowKit Go.Proofs.YtbjacjileomglaaW.PrintWords Go.Proofs.YtbjacjileomglaaW.PrintLast Go.Proofs.YtbjacjileomglaaW.PrintMore
attribute [local go_sem] max2_int min2_int max_two min_two max_three min_three max_four min_four   -- for this text's walks alone
set_option linter.unusedVariables false
set_option linter.unusedSimpArgs false

/-! ### cleatlaw18_WireOrder: function 4 -/
def cleatlaw18_WireOrder.l0 : Nat → Int → Int → Int → Int → Int → Int → Option (Bool)
  | 0, _, _, _, _, _, _ => none
  | k + 1, x0, x1, x5, x6, x7, x8 => if x8 < 10 then (if x0 ≥ x7 then (if x8 < 9 then (cleatlaw18_WireOrder.l0 k x0 x1 x5 x6 (IntKind.u64.wrap (128 * x7)) (wrap64 (x8 + 1))) else (if x8 = 9 then ((cleatlaw18_sent.f k).bind fun t137 => (if t137 = true then (if x0 > x1 then (if x5 = 10 then (if x5 ≥ 1 then (some (decide (x5 ≤ 10))) else (some false)) else (some false)) else (if x5 ≤ x6 then (if x5 = 10 then (if x5 ≥ 1 then (some (decide (x5 ≤ 10))) else (some false)) else (some false)) else (some false))) else (some false))) else ((cleatlaw18_sent.f k).bind fun t138 => (if t138 = true then (if x0 > x1 then (if x5 = x8 then (if x5 ≥ 1 then (some (decide (x5 ≤ 10))) else (some false)) else (some false)) else (if x5 ≤ x6 then (if x5 = x8 then (if x5 ≥ 1 then (some (decide (x5 ≤ 10))) else (some false)) else (some false)) else (some false))) else (some false))))) else (if x8 = 9 then ((cleatlaw18_sent.f k).bind fun t139 => (if t139 = true then (if x0 > x1 then (if x5 = x8 then (if x5 ≥ 1 then (some (decide (x5 ≤ 10))) else (some false)) else (some false)) else (if x5 ≤ x6 then (if x5 = x8 then (if x5 ≥ 1 then (some (decide (x5 ≤ 10))) else (some false)) else (some false)) else (some false))) else (some false))) else ((cleatlaw18_sent.f k).bind fun t140 => (if t140 = true then (if x0 > x1 then (if x5 = x8 then (if x5 ≥ 1 then (some (decide (x5 ≤ 10))) else (some false)) else (some false)) else (if x5 ≤ x6 then (if x5 = x8 then (if x5 ≥ 1 then (some (decide (x5 ≤ 10))) else (some false)) else (some false)) else (some false))) else (some false))))) else (if x8 = 9 then (if x0 ≥ x7 then ((cleatlaw18_sent.f k).bind fun t141 => (if t141 = true then (if x0 > x1 then (if x5 = 10 then (if x5 ≥ 1 then (some (decide (x5 ≤ 10))) else (some false)) else (some false)) else (if x5 ≤ x6 then (if x5 = 10 then (if x5 ≥ 1 then (some (decide (x5 ≤ 10))) else (some false)) else (some false)) else (some false))) else (some false))) else ((cleatlaw18_sent.f k).bind fun t142 => (if t142 = true then (if x0 > x1 then (if x5 = x8 then (if x5 ≥ 1 then (some (decide (x5 ≤ 10))) else (some false)) else (some false)) else (if x5 ≤ x6 then (if x5 = x8 then (if x5 ≥ 1 then (some (decide (x5 ≤ 10))) else (some false)) else (some false)) else (some false))) else (some false)))) else ((cleatlaw18_sent.f k).bind fun t143 => (if t143 = true then (if x0 > x1 then (if x5 = x8 then (if x5 ≥ 1 then (some (decide (x5 ≤ 10))) else (some false)) else (some false)) else (if x5 ≤ x6 then (if x5 = x8 then (if x5 ≥ 1 then (some (decide (x5 ≤ 10))) else (some false)) else (some false)) else (some false))) else (some false))))
def cleatlaw18_WireOrder.f (k : Nat) (a0 : Int) (a1 : Int) : Option (Bool) := (wire_Put.f k a0).bind fun t135 => ((wire_Put.f k a1).bind fun t136 => (cleatlaw18_WireOrder.l0 k a0 a1 (t135.size : Int) (t136.size : Int) 128 1))
theorem cleatlaw18_WireOrder.mono_l : ∀ k, (∀ y0 y1 y2 y3 y4 y5, LeO (cleatlaw18_WireOrder.l0 k y0 y1 y2 y3 y4 y5) (cleatlaw18_WireOrder.l0 (k + 1) y0 y1 y2 y3 y4 y5))
  | 0 => fun _ _ _ _ _ _ r h => by simp [cleatlaw18_WireOrder.l0] at h
  | k + 1 => by
    have ih0 := cleatlaw18_WireOrder.mono_l k
    · intro y0 y1 y2 y3 y4 y5
      unfold cleatlaw18_WireOrder.l0
      repeat' first
      | (with_reducible exact ih0 _ _ _ _ _ _)
      | (with_reducible exact cleatlaw18_sent.mono _)
      | (with_reducible exact wire_Put.mono _ _)
      | (with_reducible exact LeO.refl _)
      | (with_reducible exact LeO.none _)
      | (with_reducible refine LeO.ite ?_ ?_)
      | (with_reducible refine LeO.bind ?_ (fun _ => ?_))
      | exact ih0 _ _ _ _ _ _
      | exact cleatlaw18_sent.mono _
      | exact wire_Put.mono _ _
      | exact LeO.none _
      | refine LeO.ite ?_ ?_
      | refine LeO.bind ?_ (fun _ => ?_)
theorem cleatlaw18_WireOrder.mono : ∀ a0 a1 k, LeO (cleatlaw18_WireOrder.f k a0 a1) (cleatlaw18_WireOrder.f (k + 1) a0 a1) := by
  intro a0 a1 k
  have ih0 := cleatlaw18_WireOrder.mono_l k
  unfold cleatlaw18_WireOrder.f
  repeat' first
      | (with_reducible exact ih0 _ _ _ _ _ _)
      | (with_reducible exact cleatlaw18_sent.mono _)
      | (with_reducible exact wire_Put.mono _ _)
      | (with_reducible exact LeO.refl _)
      | (with_reducible exact LeO.none _)
      | (with_reducible refine LeO.ite ?_ ?_)
      | (with_reducible refine LeO.bind ?_ (fun _ => ?_))
      | exact ih0 _ _ _ _ _ _
      | exact cleatlaw18_sent.mono _
      | exact wire_Put.mono _ _
      | exact LeO.none _
      | refine LeO.ite ?_ ?_
      | refine LeO.bind ?_ (fun _ => ?_)
set_option maxHeartbeats 8000000 in
set_option maxRecDepth 100000 in
theorem cleatlaw18_WireOrder.calls (k : Nat) (a0 : Int) (a1 : Int) (r : Bool) (w : World) (h : cleatlaw18_WireOrder.f k a0 a1 = some r) :
    Calls Try.prog 4 #[.int .u64 a0, .int .u64 a1] w fun e w' => e = .returned (.bool r) ∧ Below w.heap.size w w' := by
  have HB := Aside0.mk (Below.refl w.heap.size w)
  have H : ((wire_Put.f k a0).bind fun t135 => ((wire_Put.f k a1).bind fun t136 => (cleatlaw18_WireOrder.l0 k a0 a1 (t135.size : Int) (t136.size : Int) 128 1))) = some r := h
  clear h
  replace H := Option.bind_eq_some_iff.mp H
  obtain ⟨t135, A30, H⟩ := H
  replace H : ((wire_Put.f k a1).bind fun t136 => (cleatlaw18_WireOrder.l0 k a0 a1 (t135.size : Int) (t136.size : Int) 128 1)) = some r := H
  have A3 := Aside0.mk A30
  clear A30
  replace H := Option.bind_eq_some_iff.mp H
  obtain ⟨t136, A40, H⟩ := H
  replace H : (cleatlaw18_WireOrder.l0 k a0 a1 (t135.size : Int) (t136.size : Int) 128 1) = some r := H
  have A4 := Aside0.mk A40
  clear A40
  have H' := Aside0.mk H
  clear H
  go_enter Try.func4, Try.ntmps4
  go_wp2_with (first | ((with_reducible refine gate_callee (f := 8) rfl ?_); refine goesL_ (some 10) rfl rfl Try.func8 (by kernel_rfl) rfl #[.int .u64 a0] rfl (by (try simp only [List.map_toArray, List.map_cons, List.map_nil]); first | done | rfl | (simp only [List.length_drop, List.length_take]; rfl)) ?_; (with_reducible refine (wire_Put.calls k a0 t135 _ A3.out).mono ?_); rintro e w5 ⟨rfl, hb⟩; refine ⟨_, rfl, ?_⟩; have n0_ := Aside0.mk (below_step (by repeat (first | (with_reducible first | exact HB.out | apply below_alloc | apply pw_below_drewN | apply below_drew1) | exact HB.out)) hb); clear HB; have HB := n0_; clear n0_; (try clear hb); (try clear hb2); (try clear hk); (try clear hi)) | ((with_reducible refine gate_callee (f := 8) rfl ?_); refine goesL_ (some 13) rfl rfl Try.func8 (by kernel_rfl) rfl #[.int .u64 a1] rfl (by (try simp only [List.map_toArray, List.map_cons, List.map_nil]); first | done | rfl | (simp only [List.length_drop, List.length_take]; rfl)) ?_; (with_reducible refine (wire_Put.calls k a1 t136 _ A4.out).mono ?_); rintro e w6 ⟨rfl, hb⟩; refine ⟨_, rfl, ?_⟩; have n0_ := Aside0.mk (below_step (by repeat (first | (with_reducible first | exact HB.out | apply below_alloc | apply pw_below_drewN | apply below_drew1) | exact HB.out)) hb); clear HB; have HB := n0_; clear n0_; (try clear hb); (try clear hb2); (try clear hk); (try clear hi)))
  go_loopg [7, 8] k (fun kq v7 v8 w' => ∃ (x7_1 : Int) (x8_1 : Int), v7 = .int .u64 x7_1 ∧ v8 = .int .i64 x8_1 ∧ Aside0 (cleatlaw18_WireOrder.l0 kq a0 a1 (t135.size : Int) (t136.size : Int) x7_1 x8_1 = some r) ∧ Aside0 (kq ≤ k) ∧ Aside0 (Below w.heap.size w w'))
  case atStart => exact ⟨(128), (1), (by first | rfl | (simp; done) | (simp [*]; done)), (by first | rfl | (simp; done) | (simp [*]; done)), H', ⟨Nat.le_refl _⟩, ⟨by repeat (first | (with_reducible first | exact HB.out | apply below_alloc | apply pw_below_drewN | apply below_drew1) | exact HB.out)⟩⟩
  case round =>
    clear H'
    try clear p2
    try clear c4
    obtain ⟨x7_1, x8_1, rfl, rfl, HA, HK1, HB⟩ := hrel
    cases gk with
    | zero => exact absurd HA.out (by simp [cleatlaw18_WireOrder.l0])
    | succ k1 =>
      have H := HA.out
      clear HA
      simp only [cleatlaw18_WireOrder.l0] at H
      by_cases c7 : x8_1 < 10
      · rw [if_pos c7] at H
        have c7b0 : decide (x8_1 < 10) = true := decide_eq_true c7
        clear c7
        by_cases c8 : a0 ≥ x7_1
        · rw [if_pos c8] at H
          have c8b0 : decide (x7_1 ≤ a0) = true := decide_eq_true c8
          clear c8
          by_cases c9 : x8_1 < 9
          · rw [if_pos c9] at H
            have c9b0 : decide (x8_1 < 9) = true := decide_eq_true c9
            clear c9
            have H' := Aside0.mk H
            clear H
            go_wp2
            go_roundg k1
            case measure => have := HK1.out; omega
            case rel => exact ⟨(IntKind.u64.wrap (128 * x7_1)), (wrap64 (x8_1 + 1)), (by first | rfl | (simp; done) | (simp [*]; done)), (by first | rfl | (simp; done) | (simp [*]; done)), H', ⟨by have := HK1.out; omega⟩, ⟨by repeat (first | (with_reducible first | exact HB.out | apply below_alloc | apply pw_below_drewN | apply below_drew1) | exact HB.out)⟩⟩
          · rw [if_neg c9] at H
            have c9b0 : decide (x8_1 < 9) = false := decide_eq_false c9
            clear c9
            by_cases c10 : x8_1 = 9
            · rw [if_pos c10] at H
              have c10b0 : (x8_1 == 9) = true := beq_iff_eq.mpr c10
              have c10b1 : (x8_1 != 9) = false := bne_eq_false_iff_eq.mpr c10
              clear c10
              replace H := Option.bind_eq_some_iff.mp H
              obtain ⟨t137, A110, H⟩ := H
              replace H : (if t137 = true then (if a0 > a1 then (if (t135.size : Int) = 10 then (if (t135.size : Int) ≥ 1 then (some (decide ((t135.size : Int) ≤ 10))) else (some false)) else (some false)) else (if (t135.size : Int) ≤ (t136.size : Int) then (if (t135.size : Int) = 10 then (if (t135.size : Int) ≥ 1 then (some (decide ((t135.size : Int) ≤ 10))) else (some false)) else (some false)) else (some false))) else (some false)) = some r := H
              have A11 := Aside0.mk A110
              clear A110
              by_cases c12 : t137 = true
              · subst c12
                have H1 : (if a0 > a1 then (if (t135.size : Int) = 10 then (if (t135.size : Int) ≥ 1 then (some (decide ((t135.size : Int) ≤ 10))) else (some false)) else (some false)) else (if (t135.size : Int) ≤ (t136.size : Int) then (if (t135.size : Int) = 10 then (if (t135.size : Int) ≥ 1 then (some (decide ((t135.size : Int) ≤ 10))) else (some false)) else (some false)) else (some false))) = some r := by rw [if_pos rfl] at H; exact H
                clear H
                have H := H1
                clear H1
                by_cases c13 : a0 > a1
                · rw [if_pos c13] at H
                  have c13b0 : decide (a1 < a0) = true := decide_eq_true c13
                  clear c13
                  by_cases c14 : (t135.size : Int) = 10
                  · rw [if_pos c14] at H
                    have c14b0 : ((t135.size : Int) == 10) = true := beq_iff_eq.mpr c14
                    have c14b1 : ((t135.size : Int) != 10) = false := bne_eq_false_iff_eq.mpr c14
                    clear c14
                    by_cases c15 : (t135.size : Int) ≥ 1
                    · rw [if_pos c15] at H
                      have c15b0 : decide (1 ≤ (t135.size : Int)) = true := decide_eq_true c15
                      have c15b1 : decide (1 ≤ t135.size) = true := decide_eq_true (by omega)
                      clear c15
                      obtain rfl := Option.some.inj H
                      go_wp2_with (first | ((with_reducible refine gate_callee (f := 10) rfl ?_); refine goesL_ (some 37) rfl rfl Try.func10 (by kernel_rfl) rfl #[] rfl (by (try simp only [List.map_toArray, List.map_cons, List.map_nil]); first | done | rfl | (simp only [List.length_drop, List.length_take]; rfl)) ?_; (with_reducible refine (cleatlaw18_sent.calls k1  true _ A11.out).mono ?_); rintro e w16 ⟨rfl, hb⟩; refine ⟨_, rfl, ?_⟩; have n0_ := Aside0.mk (below_step (by repeat (first | (with_reducible first | exact HB.out | apply below_alloc | apply pw_below_drewN | apply below_drew1) | exact HB.out)) hb); clear HB; have HB := n0_; clear n0_; (try clear hb); (try clear hb2); (try clear hk); (try clear hi)))
                      go_ret
                      exact ⟨by first | rfl | (simp [errW_none, errW_some] <;> rfl) | (simp [*, errW_none, errW_some] <;> rfl), by repeat (first | (with_reducible first | exact HB.out | apply below_alloc | apply pw_below_drewN | apply below_drew1) | exact HB.out)⟩
                    · rw [if_neg c15] at H
                      have c15b0 : decide (1 ≤ (t135.size : Int)) = false := decide_eq_false c15
                      have c15b1 : decide (1 ≤ t135.size) = false := decide_eq_false (by omega)
                      clear c15
                      obtain rfl := Option.some.inj H
                      go_wp2_with (first | ((with_reducible refine gate_callee (f := 10) rfl ?_); refine goesL_ (some 37) rfl rfl Try.func10 (by kernel_rfl) rfl #[] rfl (by (try simp only [List.map_toArray, List.map_cons, List.map_nil]); first | done | rfl | (simp only [List.length_drop, List.length_take]; rfl)) ?_; (with_reducible refine (cleatlaw18_sent.calls k1  true _ A11.out).mono ?_); rintro e w17 ⟨rfl, hb⟩; refine ⟨_, rfl, ?_⟩; have n0_ := Aside0.mk (below_step (by repeat (first | (with_reducible first | exact HB.out | apply below_alloc | apply pw_below_drewN | apply below_drew1) | exact HB.out)) hb); clear HB; have HB := n0_; clear n0_; (try clear hb); (try clear hb2); (try clear hk); (try clear hi)))
                      go_ret
                      exact ⟨by first | rfl | (simp [errW_none, errW_some] <;> rfl) | (simp [*, errW_none, errW_some] <;> rfl), by repeat (first | (with_reducible first | exact HB.out | apply below_alloc | apply pw_below_drewN | apply below_drew1) | exact HB.out)⟩
                  · rw [if_neg c14] at H
                    have c14b0 : ((t135.size : Int) == 10) = false := beq_eq_false_iff_ne.mpr c14
                    have c14b1 : ((t135.size : Int) != 10) = true := bne_iff_ne.mpr c14
                    obtain rfl := Option.some.inj H
                    go_wp2_with (first | ((with_reducible refine gate_callee (f := 10) rfl ?_); refine goesL_ (some 37) rfl rfl Try.func10 (by kernel_rfl) rfl #[] rfl (by (try simp only [List.map_toArray, List.map_cons, List.map_nil]); first | done | rfl | (simp only [List.length_drop, List.length_take]; rfl)) ?_; (with_reducible refine (cleatlaw18_sent.calls k1  true _ A11.out).mono ?_); rintro e w18 ⟨rfl, hb⟩; refine ⟨_, rfl, ?_⟩; have n0_ := Aside0.mk (below_step (by repeat (first | (with_reducible first | exact HB.out | apply below_alloc | apply pw_below_drewN | apply below_drew1) | exact HB.out)) hb); clear HB; have HB := n0_; clear n0_; (try clear hb); (try clear hb2); (try clear hk); (try clear hi)))
                    go_ret
                    exact ⟨by first | rfl | (simp [errW_none, errW_some] <;> rfl) | (simp [*, errW_none, errW_some] <;> rfl), by repeat (first | (with_reducible first | exact HB.out | apply below_alloc | apply pw_below_drewN | apply below_drew1) | exact HB.out)⟩
                · rw [if_neg c13] at H
                  have c13b0 : decide (a1 < a0) = false := decide_eq_false c13
                  clear c13
                  by_cases c19 : (t135.size : Int) ≤ (t136.size : Int)
                  · rw [if_pos c19] at H
                    have c19b0 : decide ((t135.size : Int) ≤ (t136.size : Int)) = true := decide_eq_true c19
                    have c19b1 : decide (t135.size ≤ t136.size) = true := decide_eq_true (Int.ofNat_le.mp c19)
                    clear c19
                    by_cases c20 : (t135.size : Int) = 10
                    · rw [if_pos c20] at H
                      have c20b0 : ((t135.size : Int) == 10) = true := beq_iff_eq.mpr c20
                      have c20b1 : ((t135.size : Int) != 10) = false := bne_eq_false_iff_eq.mpr c20
                      clear c20
                      by_cases c21 : (t135.size : Int) ≥ 1
                      · rw [if_pos c21] at H
                        have c21b0 : decide (1 ≤ (t135.size : Int)) = true := decide_eq_true c21
                        have c21b1 : decide (1 ≤ t135.size) = true := decide_eq_true (by omega)
                        clear c21
                        obtain rfl := Option.some.inj H
                        go_wp2_with (first | ((with_reducible refine gate_callee (f := 10) rfl ?_); refine goesL_ (some 37) rfl rfl Try.func10 (by kernel_rfl) rfl #[] rfl (by (try simp only [List.map_toArray, List.map_cons, List.map_nil]); first | done | rfl | (simp only [List.length_drop, List.length_take]; rfl)) ?_; (with_reducible refine (cleatlaw18_sent.calls k1  true _ A11.out).mono ?_); rintro e w22 ⟨rfl, hb⟩; refine ⟨_, rfl, ?_⟩; have n0_ := Aside0.mk (below_step (by repeat (first | (with_reducible first | exact HB.out | apply below_alloc | apply pw_below_drewN | apply below_drew1) | exact HB.out)) hb); clear HB; have HB := n0_; clear n0_; (try clear hb); (try clear hb2); (try clear hk); (try clear hi)))
                        go_ret
                        exact ⟨by first | rfl | (simp [errW_none, errW_some] <;> rfl) | (simp [*, errW_none, errW_some] <;> rfl), by repeat (first | (with_reducible first | exact HB.out | apply below_alloc | apply pw_below_drewN | apply below_drew1) | exact HB.out)⟩
                      · rw [if_neg c21] at H
                        have c21b0 : decide (1 ≤ (t135.size : Int)) = false := decide_eq_false c21
                        have c21b1 : decide (1 ≤ t135.size) = false := decide_eq_false (by omega)
                        clear c21
                        obtain rfl := Option.some.inj H
                        go_wp2_with (first | ((with_reducible refine gate_callee (f := 10) rfl ?_); refine goesL_ (some 37) rfl rfl Try.func10 (by kernel_rfl) rfl #[] rfl (by (try simp only [List.map_toArray, List.map_cons, List.map_nil]); first | done | rfl | (simp only [List.length_drop, List.length_take]; rfl)) ?_; (with_reducible refine (cleatlaw18_sent.calls k1  true _ A11.out).mono ?_); rintro e w23 ⟨rfl, hb⟩; refine ⟨_, rfl, ?_⟩; have n0_ := Aside0.mk (below_step (by repeat (first | (with_reducible first | exact HB.out | apply below_alloc | apply pw_below_drewN | apply below_drew1) | exact HB.out)) hb); clear HB; have HB := n0_; clear n0_; (try clear hb); (try clear hb2); (try clear hk); (try clear hi)))
                        go_ret
                        exact ⟨by first | rfl | (simp [errW_none, errW_some] <;> rfl) | (simp [*, errW_none, errW_some] <;> rfl), by repeat (first | (with_reducible first | exact HB.out | apply below_alloc | apply pw_below_drewN | apply below_drew1) | exact HB.out)⟩
                    · rw [if_neg c20] at H
                      have c20b0 : ((t135.size : Int) == 10) = false := beq_eq_false_iff_ne.mpr c20
                      have c20b1 : ((t135.size : Int) != 10) = true := bne_iff_ne.mpr c20
                      obtain rfl := Option.some.inj H
                      go_wp2_with (first | ((with_reducible refine gate_callee (f := 10) rfl ?_); refine goesL_ (some 37) rfl rfl Try.func10 (by kernel_rfl) rfl #[] rfl (by (try simp only [List.map_toArray, List.map_cons, List.map_nil]); first | done | rfl | (simp only [List.length_drop, List.length_take]; rfl)) ?_; (with_reducible refine (cleatlaw18_sent.calls k1  true _ A11.out).mono ?_); rintro e w24 ⟨rfl, hb⟩; refine ⟨_, rfl, ?_⟩; have n0_ := Aside0.mk (below_step (by repeat (first | (with_reducible first | exact HB.out | apply below_alloc | apply pw_below_drewN | apply below_drew1) | exact HB.out)) hb); clear HB; have HB := n0_; clear n0_; (try clear hb); (try clear hb2); (try clear hk); (try clear hi)))
                      go_ret
                      exact ⟨by first | rfl | (simp [errW_none, errW_some] <;> rfl) | (simp [*, errW_none, errW_some] <;> rfl), by repeat (first | (with_reducible first | exact HB.out | apply below_alloc | apply pw_below_drewN | apply below_drew1) | exact HB.out)⟩
                  · rw [if_neg c19] at H
                    have c19b0 : decide ((t135.size : Int) ≤ (t136.size : Int)) = false := decide_eq_false c19
                    have c19b1 : decide (t135.size ≤ t136.size) = false := decide_eq_false (fun h => c19 (Int.ofNat_le.mpr h))
                    clear c19
                    obtain rfl := Option.some.inj H
                    go_wp2_with (first | ((with_reducible refine gate_callee (f := 10) rfl ?_); refine goesL_ (some 37) rfl rfl Try.func10 (by kernel_rfl) rfl #[] rfl (by (try simp only [List.map_toArray, List.map_cons, List.map_nil]); first | done | rfl | (simp only [List.length_drop, List.length_take]; rfl)) ?_; (with_reducible refine (cleatlaw18_sent.calls k1  true _ A11.out).mono ?_); rintro e w25 ⟨rfl, hb⟩; refine ⟨_, rfl, ?_⟩; have n0_ := Aside0.mk (below_step (by repeat (first | (with_reducible first | exact HB.out | apply below_alloc | apply pw_below_drewN | apply below_drew1) | exact HB.out)) hb); clear HB; have HB := n0_; clear n0_; (try clear hb); (try clear hb2); (try clear hk); (try clear hi)))
                    go_ret
                    exact ⟨by first | rfl | (simp [errW_none, errW_some] <;> rfl) | (simp [*, errW_none, errW_some] <;> rfl), by repeat (first | (with_reducible first | exact HB.out | apply below_alloc | apply pw_below_drewN | apply below_drew1) | exact HB.out)⟩
              · replace c12 := Bool.eq_false_iff.mpr c12
                subst c12
                have H1 : (some false) = some r := by rw [if_neg (show ¬ (false = true) by decide)] at H; exact H
                clear H
                have H := H1
                clear H1
                obtain rfl := Option.some.inj H
                go_wp2_with (first | ((with_reducible refine gate_callee (f := 10) rfl ?_); refine goesL_ (some 37) rfl rfl Try.func10 (by kernel_rfl) rfl #[] rfl (by (try simp only [List.map_toArray, List.map_cons, List.map_nil]); first | done | rfl | (simp only [List.length_drop, List.length_take]; rfl)) ?_; (with_reducible refine (cleatlaw18_sent.calls k1  false _ A11.out).mono ?_); rintro e w26 ⟨rfl, hb⟩; refine ⟨_, rfl, ?_⟩; have n0_ := Aside0.mk (below_step (by repeat (first | (with_reducible first | exact HB.out | apply below_alloc | apply pw_below_drewN | apply below_drew1) | exact HB.out)) hb); clear HB; have HB := n0_; clear n0_; (try clear hb); (try clear hb2); (try clear hk); (try clear hi)))
                go_ret
                exact ⟨by first | rfl | (simp [errW_none, errW_some] <;> rfl) | (simp [*, errW_none, errW_some] <;> rfl), by repeat (first | (with_reducible first | exact HB.out | apply below_alloc | apply pw_below_drewN | apply below_drew1) | exact HB.out)⟩
            · rw [if_neg c10] at H
              have c10b0 : (x8_1 == 9) = false := beq_eq_false_iff_ne.mpr c10
              have c10b1 : (x8_1 != 9) = true := bne_iff_ne.mpr c10
              replace H := Option.bind_eq_some_iff.mp H
              obtain ⟨t138, A270, H⟩ := H
              replace H : (if t138 = true then (if a0 > a1 then (if (t135.size : Int) = x8_1 then (if (t135.size : Int) ≥ 1 then (some (decide ((t135.size : Int) ≤ 10))) else (some false)) else (some false)) else (if (t135.size : Int) ≤ (t136.size : Int) then (if (t135.size : Int) = x8_1 then (if (t135.size : Int) ≥ 1 then (some (decide ((t135.size : Int) ≤ 10))) else (some false)) else (some false)) else (some false))) else (some false)) = some r := H
              have A27 := Aside0.mk A270
              clear A270
              by_cases c28 : t138 = true
              · subst c28
                have H1 : (if a0 > a1 then (if (t135.size : Int) = x8_1 then (if (t135.size : Int) ≥ 1 then (some (decide ((t135.size : Int) ≤ 10))) else (some false)) else (some false)) else (if (t135.size : Int) ≤ (t136.size : Int) then (if (t135.size : Int) = x8_1 then (if (t135.size : Int) ≥ 1 then (some (decide ((t135.size : Int) ≤ 10))) else (some false)) else (some false)) else (some false))) = some r := by rw [if_pos rfl] at H; exact H
                clear H
                have H := H1
                clear H1
                by_cases c29 : a0 > a1
                · rw [if_pos c29] at H
                  have c29b0 : decide (a1 < a0) = true := decide_eq_true c29
                  clear c29
                  by_cases c30 : (t135.size : Int) = x8_1
                  · rw [if_pos c30] at H
                    have c30b0 : ((t135.size : Int) == x8_1) = true := beq_iff_eq.mpr c30
                    have c30b1 : ((t135.size : Int) != x8_1) = false := bne_eq_false_iff_eq.mpr c30
                    clear c30
                    by_cases c31 : (t135.size : Int) ≥ 1
                    · rw [if_pos c31] at H
                      have c31b0 : decide (1 ≤ (t135.size : Int)) = true := decide_eq_true c31
                      have c31b1 : decide (1 ≤ t135.size) = true := decide_eq_true (by omega)
                      clear c31
                      obtain rfl := Option.some.inj H
                      go_wp2_with (first | ((with_reducible refine gate_callee (f := 10) rfl ?_); refine goesL_ (some 37) rfl rfl Try.func10 (by kernel_rfl) rfl #[] rfl (by (try simp only [List.map_toArray, List.map_cons, List.map_nil]); first | done | rfl | (simp only [List.length_drop, List.length_take]; rfl)) ?_; (with_reducible refine (cleatlaw18_sent.calls k1  true _ A27.out).mono ?_); rintro e w32 ⟨rfl, hb⟩; refine ⟨_, rfl, ?_⟩; have n0_ := Aside0.mk (below_step (by repeat (first | (with_reducible first | exact HB.out | apply below_alloc | apply pw_below_drewN | apply below_drew1) | exact HB.out)) hb); clear HB; have HB := n0_; clear n0_; (try clear hb); (try clear hb2); (try clear hk); (try clear hi)))
                      go_ret
                      exact ⟨by first | rfl | (simp [errW_none, errW_some] <;> rfl) | (simp [*, errW_none, errW_some] <;> rfl), by repeat (first | (with_reducible first | exact HB.out | apply below_alloc | apply pw_below_drewN | apply below_drew1) | exact HB.out)⟩
                    · rw [if_neg c31] at H
                      have c31b0 : decide (1 ≤ (t135.size : Int)) = false := decide_eq_false c31
                      have c31b1 : decide (1 ≤ t135.size) = false := decide_eq_false (by omega)
                      clear c31
                      obtain rfl := Option.some.inj H
                      go_wp2_with (first | ((with_reducible refine gate_callee (f := 10) rfl ?_); refine goesL_ (some 37) rfl rfl Try.func10 (by kernel_rfl) rfl #[] rfl (by (try simp only [List.map_toArray, List.map_cons, List.map_nil]); first | done | rfl | (simp only [List.length_drop, List.length_take]; rfl)) ?_; (with_reducible refine (cleatlaw18_sent.calls k1  true _ A27.out).mono ?_); rintro e w33 ⟨rfl, hb⟩; refine ⟨_, rfl, ?_⟩; have n0_ := Aside0.mk (below_step (by repeat (first | (with_reducible first | exact HB.out | apply below_alloc | apply pw_below_drewN | apply below_drew1) | exact HB.out)) hb); clear HB; have HB := n0_; clear n0_; (try clear hb); (try clear hb2); (try clear hk); (try clear hi)))
                      go_ret
                      exact ⟨by first | rfl | (simp [errW_none, errW_some] <;> rfl) | (simp [*, errW_none, errW_some] <;> rfl), by repeat (first | (with_reducible first | exact HB.out | apply below_alloc | apply pw_below_drewN | apply below_drew1) | exact HB.out)⟩
                  · rw [if_neg c30] at H
                    have c30b0 : ((t135.size : Int) == x8_1) = false := beq_eq_false_iff_ne.mpr c30
                    have c30b1 : ((t135.size : Int) != x8_1) = true := bne_iff_ne.mpr c30
                    obtain rfl := Option.some.inj H
                    go_wp2_with (first | ((with_reducible refine gate_callee (f := 10) rfl ?_); refine goesL_ (some 37) rfl rfl Try.func10 (by kernel_rfl) rfl #[] rfl (by (try simp only [List.map_toArray, List.map_cons, List.map_nil]); first | done | rfl | (simp only [List.length_drop, List.length_take]; rfl)) ?_; (with_reducible refine (cleatlaw18_sent.calls k1  true _ A27.out).mono ?_); rintro e w34 ⟨rfl, hb⟩; refine ⟨_, rfl, ?_⟩; have n0_ := Aside0.mk (below_step (by repeat (first | (with_reducible first | exact HB.out | apply below_alloc | apply pw_below_drewN | apply below_drew1) | exact HB.out)) hb); clear HB; have HB := n0_; clear n0_; (try clear hb); (try clear hb2); (try clear hk); (try clear hi)))
                    go_ret
                    exact ⟨by first | rfl | (simp [errW_none, errW_some] <;> rfl) | (simp [*, errW_none, errW_some] <;> rfl), by repeat (first | (with_reducible first | exact HB.out | apply below_alloc | apply pw_below_drewN | apply below_drew1) | exact HB.out)⟩
                · rw [if_neg c29] at H
                  have c29b0 : decide (a1 < a0) = false := decide_eq_false c29
                  clear c29
                  by_cases c35 : (t135.size : Int) ≤ (t136.size : Int)
                  · rw [if_pos c35] at H
                    have c35b0 : decide ((t135.size : Int) ≤ (t136.size : Int)) = true := decide_eq_true c35
                    have c35b1 : decide (t135.size ≤ t136.size) = true := decide_eq_true (Int.ofNat_le.mp c35)
                    clear c35
                    by_cases c36 : (t135.size : Int) = x8_1
                    · rw [if_pos c36] at H
                      have c36b0 : ((t135.size : Int) == x8_1) = true := beq_iff_eq.mpr c36
                      have c36b1 : ((t135.size : Int) != x8_1) = false := bne_eq_false_iff_eq.mpr c36
                      clear c36
                      by_cases c37 : (t135.size : Int) ≥ 1
                      · rw [if_pos c37] at H
                        have c37b0 : decide (1 ≤ (t135.size : Int)) = true := decide_eq_true c37
                        have c37b1 : decide (1 ≤ t135.size) = true := decide_eq_true (by omega)
                        clear c37
                        obtain rfl := Option.some.inj H
                        go_wp2_with (first | ((with_reducible refine gate_callee (f := 10) rfl ?_); refine goesL_ (some 37) rfl rfl Try.func10 (by kernel_rfl) rfl #[] rfl (by (try simp only [List.map_toArray, List.map_cons, List.map_nil]); first | done | rfl | (simp only [List.length_drop, List.length_take]; rfl)) ?_; (with_reducible refine (cleatlaw18_sent.calls k1  true _ A27.out).mono ?_); rintro e w38 ⟨rfl, hb⟩; refine ⟨_, rfl, ?_⟩; have n0_ := Aside0.mk (below_step (by repeat (first | (with_reducible first | exact HB.out | apply below_alloc | apply pw_below_drewN | apply below_drew1) | exact HB.out)) hb); clear HB; have HB := n0_; clear n0_; (try clear hb); (try clear hb2); (try clear hk); (try clear hi)))
                        go_ret
                        exact ⟨by first | rfl | (simp [errW_none, errW_some] <;> rfl) | (simp [*, errW_none, errW_some] <;> rfl), by repeat (first | (with_reducible first | exact HB.out | apply below_alloc | apply pw_below_drewN | apply below_drew1) | exact HB.out)⟩
                      · rw [if_neg c37] at H
                        have c37b0 : decide (1 ≤ (t135.size : Int)) = false := decide_eq_false c37
                        have c37b1 : decide (1 ≤ t135.size) = false := decide_eq_false (by omega)
                        clear c37
                        obtain rfl := Option.some.inj H
                        go_wp2_with (first | ((with_reducible refine gate_callee (f := 10) rfl ?_); refine goesL_ (some 37) rfl rfl Try.func10 (by kernel_rfl) rfl #[] rfl (by (try simp only [List.map_toArray, List.map_cons, List.map_nil]); first | done | rfl | (simp only [List.length_drop, List.length_take]; rfl)) ?_; (with_reducible refine (cleatlaw18_sent.calls k1  true _ A27.out).mono ?_); rintro e w39 ⟨rfl, hb⟩; refine ⟨_, rfl, ?_⟩; have n0_ := Aside0.mk (below_step (by repeat (first | (with_reducible first | exact HB.out | apply below_alloc | apply pw_below_drewN | apply below_drew1) | exact HB.out)) hb); clear HB; have HB := n0_; clear n0_; (try clear hb); (try clear hb2); (try clear hk); (try clear hi)))
                        go_ret
                        exact ⟨by first | rfl | (simp [errW_none, errW_some] <;> rfl) | (simp [*, errW_none, errW_some] <;> rfl), by repeat (first | (with_reducible first | exact HB.out | apply below_alloc | apply pw_below_drewN | apply below_drew1) | exact HB.out)⟩
                    · rw [if_neg c36] at H
                      have c36b0 : ((t135.size : Int) == x8_1) = false := beq_eq_false_iff_ne.mpr c36
                      have c36b1 : ((t135.size : Int) != x8_1) = true := bne_iff_ne.mpr c36
                      obtain rfl := Option.some.inj H
                      go_wp2_with (first | ((with_reducible refine gate_callee (f := 10) rfl ?_); refine goesL_ (some 37) rfl rfl Try.func10 (by kernel_rfl) rfl #[] rfl (by (try simp only [List.map_toArray, List.map_cons, List.map_nil]); first | done | rfl | (simp only [List.length_drop, List.length_take]; rfl)) ?_; (with_reducible refine (cleatlaw18_sent.calls k1  true _ A27.out).mono ?_); rintro e w40 ⟨rfl, hb⟩; refine ⟨_, rfl, ?_⟩; have n0_ := Aside0.mk (below_step (by repeat (first | (with_reducible first | exact HB.out | apply below_alloc | apply pw_below_drewN | apply below_drew1) | exact HB.out)) hb); clear HB; have HB := n0_; clear n0_; (try clear hb); (try clear hb2); (try clear hk); (try clear hi)))
                      go_ret
                      exact ⟨by first | rfl | (simp [errW_none, errW_some] <;> rfl) | (simp [*, errW_none, errW_some] <;> rfl), by repeat (first | (with_reducible first | exact HB.out | apply below_alloc | apply pw_below_drewN | apply below_drew1) | exact HB.out)⟩
                  · rw [if_neg c35] at H
                    have c35b0 : decide ((t135.size : Int) ≤ (t136.size : Int)) = false := decide_eq_false c35
                    have c35b1 : decide (t135.size ≤ t136.size) = false := decide_eq_false (fun h => c35 (Int.ofNat_le.mpr h))
                    clear c35
                    obtain rfl := Option.some.inj H
                    go_wp2_with (first | ((with_reducible refine gate_callee (f := 10) rfl ?_); refine goesL_ (some 37) rfl rfl Try.func10 (by kernel_rfl) rfl #[] rfl (by (try simp only [List.map_toArray, List.map_cons, List.map_nil]); first | done | rfl | (simp only [List.length_drop, List.length_take]; rfl)) ?_; (with_reducible refine (cleatlaw18_sent.calls k1  true _ A27.out).mono ?_); rintro e w41 ⟨rfl, hb⟩; refine ⟨_, rfl, ?_⟩; have n0_ := Aside0.mk (below_step (by repeat (first | (with_reducible first | exact HB.out | apply below_alloc | apply pw_below_drewN | apply below_drew1) | exact HB.out)) hb); clear HB; have HB := n0_; clear n0_; (try clear hb); (try clear hb2); (try clear hk); (try clear hi)))
                    go_ret
                    exact ⟨by first | rfl | (simp [errW_none, errW_some] <;> rfl) | (simp [*, errW_none, errW_some] <;> rfl), by repeat (first | (with_reducible first | exact HB.out | apply below_alloc | apply pw_below_drewN | apply below_drew1) | exact HB.out)⟩
              · replace c28 := Bool.eq_false_iff.mpr c28
                subst c28
                have H1 : (some false) = some r := by rw [if_neg (show ¬ (false = true) by decide)] at H; exact H
                clear H
                have H := H1
                clear H1
                obtain rfl := Option.some.inj H
                go_wp2_with (first | ((with_reducible refine gate_callee (f := 10) rfl ?_); refine goesL_ (some 37) rfl rfl Try.func10 (by kernel_rfl) rfl #[] rfl (by (try simp only [List.map_toArray, List.map_cons, List.map_nil]); first | done | rfl | (simp only [List.length_drop, List.length_take]; rfl)) ?_; (with_reducible refine (cleatlaw18_sent.calls k1  false _ A27.out).mono ?_); rintro e w42 ⟨rfl, hb⟩; refine ⟨_, rfl, ?_⟩; have n0_ := Aside0.mk (below_step (by repeat (first | (with_reducible first | exact HB.out | apply below_alloc | apply pw_below_drewN | apply below_drew1) | exact HB.out)) hb); clear HB; have HB := n0_; clear n0_; (try clear hb); (try clear hb2); (try clear hk); (try clear hi)))
                go_ret
                exact ⟨by first | rfl | (simp [errW_none, errW_some] <;> rfl) | (simp [*, errW_none, errW_some] <;> rfl), by repeat (first | (with_reducible first | exact HB.out | apply below_alloc | apply pw_below_drewN | apply below_drew1) | exact HB.out)⟩
        · rw [if_neg c8] at H
          have c8b0 : decide (x7_1 ≤ a0) = false := decide_eq_false c8
          clear c8
          by_cases c43 : x8_1 = 9
          · rw [if_pos c43] at H
            have c43b0 : (x8_1 == 9) = true := beq_iff_eq.mpr c43
            have c43b1 : (x8_1 != 9) = false := bne_eq_false_iff_eq.mpr c43
            clear c43
            replace H := Option.bind_eq_some_iff.mp H
            obtain ⟨t139, A440, H⟩ := H
            replace H : (if t139 = true then (if a0 > a1 then (if (t135.size : Int) = x8_1 then (if (t135.size : Int) ≥ 1 then (some (decide ((t135.size : Int) ≤ 10))) else (some false)) else (some false)) else (if (t135.size : Int) ≤ (t136.size : Int) then (if (t135.size : Int) = x8_1 then (if (t135.size : Int) ≥ 1 then (some (decide ((t135.size : Int) ≤ 10))) else (some false)) else (some false)) else (some false))) else (some false)) = some r := H
            have A44 := Aside0.mk A440
            clear A440
            by_cases c45 : t139 = true
            · subst c45
              have H1 : (if a0 > a1 then (if (t135.size : Int) = x8_1 then (if (t135.size : Int) ≥ 1 then (some (decide ((t135.size : Int) ≤ 10))) else (some false)) else (some false)) else (if (t135.size : Int) ≤ (t136.size : Int) then (if (t135.size : Int) = x8_1 then (if (t135.size : Int) ≥ 1 then (some (decide ((t135.size : Int) ≤ 10))) else (some false)) else (some false)) else (some false))) = some r := by rw [if_pos rfl] at H; exact H
              clear H
              have H := H1
              clear H1
              by_cases c46 : a0 > a1
              · rw [if_pos c46] at H
                have c46b0 : decide (a1 < a0) = true := decide_eq_true c46
                clear c46
                by_cases c47 : (t135.size : Int) = x8_1
                · rw [if_pos c47] at H
                  have c47b0 : ((t135.size : Int) == x8_1) = true := beq_iff_eq.mpr c47
                  have c47b1 : ((t135.size : Int) != x8_1) = false := bne_eq_false_iff_eq.mpr c47
                  clear c47
                  by_cases c48 : (t135.size : Int) ≥ 1
                  · rw [if_pos c48] at H
                    have c48b0 : decide (1 ≤ (t135.size : Int)) = true := decide_eq_true c48
                    have c48b1 : decide (1 ≤ t135.size) = true := decide_eq_true (by omega)
                    clear c48
                    obtain rfl := Option.some.inj H
                    go_wp2_with (first | ((with_reducible refine gate_callee (f := 10) rfl ?_); refine goesL_ (some 37) rfl rfl Try.func10 (by kernel_rfl) rfl #[] rfl (by (try simp only [List.map_toArray, List.map_cons, List.map_nil]); first | done | rfl | (simp only [List.length_drop, List.length_take]; rfl)) ?_; (with_reducible refine (cleatlaw18_sent.calls k1  true _ A44.out).mono ?_); rintro e w49 ⟨rfl, hb⟩; refine ⟨_, rfl, ?_⟩; have n0_ := Aside0.mk (below_step (by repeat (first | (with_reducible first | exact HB.out | apply below_alloc | apply pw_below_drewN | apply below_drew1) | exact HB.out)) hb); clear HB; have HB := n0_; clear n0_; (try clear hb); (try clear hb2); (try clear hk); (try clear hi)))
                    go_ret
                    exact ⟨by first | rfl | (simp [errW_none, errW_some] <;> rfl) | (simp [*, errW_none, errW_some] <;> rfl), by repeat (first | (with_reducible first | exact HB.out | apply below_alloc | apply pw_below_drewN | apply below_drew1) | exact HB.out)⟩
                  · rw [if_neg c48] at H
                    have c48b0 : decide (1 ≤ (t135.size : Int)) = false := decide_eq_false c48
                    have c48b1 : decide (1 ≤ t135.size) = false := decide_eq_false (by omega)
                    clear c48
                    obtain rfl := Option.some.inj H
                    go_wp2_with (first | ((with_reducible refine gate_callee (f := 10) rfl ?_); refine goesL_ (some 37) rfl rfl Try.func10 (by kernel_rfl) rfl #[] rfl (by (try simp only [List.map_toArray, List.map_cons, List.map_nil]); first | done | rfl | (simp only [List.length_drop, List.length_take]; rfl)) ?_; (with_reducible refine (cleatlaw18_sent.calls k1  true _ A44.out).mono ?_); rintro e w50 ⟨rfl, hb⟩; refine ⟨_, rfl, ?_⟩; have n0_ := Aside0.mk (below_step (by repeat (first | (with_reducible first | exact HB.out | apply below_alloc | apply pw_below_drewN | apply below_drew1) | exact HB.out)) hb); clear HB; have HB := n0_; clear n0_; (try clear hb); (try clear hb2); (try clear hk); (try clear hi)))
                    go_ret
                    exact ⟨by first | rfl | (simp [errW_none, errW_some] <;> rfl) | (simp [*, errW_none, errW_some] <;> rfl), by repeat (first | (with_reducible first | exact HB.out | apply below_alloc | apply pw_below_drewN | apply below_drew1) | exact HB.out)⟩
                · rw [if_neg c47] at H
                  have c47b0 : ((t135.size : Int) == x8_1) = false := beq_eq_false_iff_ne.mpr c47
                  have c47b1 : ((t135.size : Int) != x8_1) = true := bne_iff_ne.mpr c47
                  obtain rfl := Option.some.inj H
                  go_wp2_with (first | ((with_reducible refine gate_callee (f := 10) rfl ?_); refine goesL_ (some 37) rfl rfl Try.func10 (by kernel_rfl) rfl #[] rfl (by (try simp only [List.map_toArray, List.map_cons, List.map_nil]); first | done | rfl | (simp only [List.length_drop, List.length_take]; rfl)) ?_; (with_reducible refine (cleatlaw18_sent.calls k1  true _ A44.out).mono ?_); rintro e w51 ⟨rfl, hb⟩; refine ⟨_, rfl, ?_⟩; have n0_ := Aside0.mk (below_step (by repeat (first | (with_reducible first | exact HB.out | apply below_alloc | apply pw_below_drewN | apply below_drew1) | exact HB.out)) hb); clear HB; have HB := n0_; clear n0_; (try clear hb); (try clear hb2); (try clear hk); (try clear hi)))
                  go_ret
                  exact ⟨by first | rfl | (simp [errW_none, errW_some] <;> rfl) | (simp [*, errW_none, errW_some] <;> rfl), by repeat (first | (with_reducible first | exact HB.out | apply below_alloc | apply pw_below_drewN | apply below_drew1) | exact HB.out)⟩
              · rw [if_neg c46] at H
                have c46b0 : decide (a1 < a0) = false := decide_eq_false c46
                clear c46
                by_cases c52 : (t135.size : Int) ≤ (t136.size : Int)
                · rw [if_pos c52] at H
                  have c52b0 : decide ((t135.size : Int) ≤ (t136.size : Int)) = true := decide_eq_true c52
                  have c52b1 : decide (t135.size ≤ t136.size) = true := decide_eq_true (Int.ofNat_le.mp c52)
                  clear c52
                  by_cases c53 : (t135.size : Int) = x8_1
                  · rw [if_pos c53] at H
                    have c53b0 : ((t135.size : Int) == x8_1) = true := beq_iff_eq.mpr c53
                    have c53b1 : ((t135.size : Int) != x8_1) = false := bne_eq_false_iff_eq.mpr c53
                    clear c53
                    by_cases c54 : (t135.size : Int) ≥ 1
                    · rw [if_pos c54] at H
                      have c54b0 : decide (1 ≤ (t135.size : Int)) = true := decide_eq_true c54
                      have c54b1 : decide (1 ≤ t135.size) = true := decide_eq_true (by omega)
                      clear c54
                      obtain rfl := Option.some.inj H
                      go_wp2_with (first | ((with_reducible refine gate_callee (f := 10) rfl ?_); refine goesL_ (some 37) rfl rfl Try.func10 (by kernel_rfl) rfl #[] rfl (by (try simp only [List.map_toArray, List.map_cons, List.map_nil]); first | done | rfl | (simp only [List.length_drop, List.length_take]; rfl)) ?_; (with_reducible refine (cleatlaw18_sent.calls k1  true _ A44.out).mono ?_); rintro e w55 ⟨rfl, hb⟩; refine ⟨_, rfl, ?_⟩; have n0_ := Aside0.mk (below_step (by repeat (first | (with_reducible first | exact HB.out | apply below_alloc | apply pw_below_drewN | apply below_drew1) | exact HB.out)) hb); clear HB; have HB := n0_; clear n0_; (try clear hb); (try clear hb2); (try clear hk); (try clear hi)))
                      go_ret
                      exact ⟨by first | rfl | (simp [errW_none, errW_some] <;> rfl) | (simp [*, errW_none, errW_some] <;> rfl), by repeat (first | (with_reducible first | exact HB.out | apply below_alloc | apply pw_below_drewN | apply below_drew1) | exact HB.out)⟩
                    · rw [if_neg c54] at H
                      have c54b0 : decide (1 ≤ (t135.size : Int)) = false := decide_eq_false c54
                      have c54b1 : decide (1 ≤ t135.size) = false := decide_eq_false (by omega)
                      clear c54
                      obtain rfl := Option.some.inj H
                      go_wp2_with (first | ((with_reducible refine gate_callee (f := 10) rfl ?_); refine goesL_ (some 37) rfl rfl Try.func10 (by kernel_rfl) rfl #[] rfl (by (try simp only [List.map_toArray, List.map_cons, List.map_nil]); first | done | rfl | (simp only [List.length_drop, List.length_take]; rfl)) ?_; (with_reducible refine (cleatlaw18_sent.calls k1  true _ A44.out).mono ?_); rintro e w56 ⟨rfl, hb⟩; refine ⟨_, rfl, ?_⟩; have n0_ := Aside0.mk (below_step (by repeat (first | (with_reducible first | exact HB.out | apply below_alloc | apply pw_below_drewN | apply below_drew1) | exact HB.out)) hb); clear HB; have HB := n0_; clear n0_; (try clear hb); (try clear hb2); (try clear hk); (try clear hi)))
                      go_ret
                      exact ⟨by first | rfl | (simp [errW_none, errW_some] <;> rfl) | (simp [*, errW_none, errW_some] <;> rfl), by repeat (first | (with_reducible first | exact HB.out | apply below_alloc | apply pw_below_drewN | apply below_drew1) | exact HB.out)⟩
                  · rw [if_neg c53] at H
                    have c53b0 : ((t135.size : Int) == x8_1) = false := beq_eq_false_iff_ne.mpr c53
                    have c53b1 : ((t135.size : Int) != x8_1) = true := bne_iff_ne.mpr c53
                    obtain rfl := Option.some.inj H
                    go_wp2_with (first | ((with_reducible refine gate_callee (f := 10) rfl ?_); refine goesL_ (some 37) rfl rfl Try.func10 (by kernel_rfl) rfl #[] rfl (by (try simp only [List.map_toArray, List.map_cons, List.map_nil]); first | done | rfl | (simp only [List.length_drop, List.length_take]; rfl)) ?_; (with_reducible refine (cleatlaw18_sent.calls k1  true _ A44.out).mono ?_); rintro e w57 ⟨rfl, hb⟩; refine ⟨_, rfl, ?_⟩; have n0_ := Aside0.mk (below_step (by repeat (first | (with_reducible first | exact HB.out | apply below_alloc | apply pw_below_drewN | apply below_drew1) | exact HB.out)) hb); clear HB; have HB := n0_; clear n0_; (try clear hb); (try clear hb2); (try clear hk); (try clear hi)))
                    go_ret
                    exact ⟨by first | rfl | (simp [errW_none, errW_some] <;> rfl) | (simp [*, errW_none, errW_some] <;> rfl), by repeat (first | (with_reducible first | exact HB.out | apply below_alloc | apply pw_below_drewN | apply below_drew1) | exact HB.out)⟩
                · rw [if_neg c52] at H
                  have c52b0 : decide ((t135.size : Int) ≤ (t136.size : Int)) = false := decide_eq_false c52
                  have c52b1 : decide (t135.size ≤ t136.size) = false := decide_eq_false (fun h => c52 (Int.ofNat_le.mpr h))
                  clear c52
                  obtain rfl := Option.some.inj H
                  go_wp2_with (first | ((with_reducible refine gate_callee (f := 10) rfl ?_); refine goesL_ (some 37) rfl rfl Try.func10 (by kernel_rfl) rfl #[] rfl (by (try simp only [List.map_toArray, List.map_cons, List.map_nil]); first | done | rfl | (simp only [List.length_drop, List.length_take]; rfl)) ?_; (with_reducible refine (cleatlaw18_sent.calls k1  true _ A44.out).mono ?_); rintro e w58 ⟨rfl, hb⟩; refine ⟨_, rfl, ?_⟩; have n0_ := Aside0.mk (below_step (by repeat (first | (with_reducible first | exact HB.out | apply below_alloc | apply pw_below_drewN | apply below_drew1) | exact HB.out)) hb); clear HB; have HB := n0_; clear n0_; (try clear hb); (try clear hb2); (try clear hk); (try clear hi)))
                  go_ret
                  exact ⟨by first | rfl | (simp [errW_none, errW_some] <;> rfl) | (simp [*, errW_none, errW_some] <;> rfl), by repeat (first | (with_reducible first | exact HB.out | apply below_alloc | apply pw_below_drewN | apply below_drew1) | exact HB.out)⟩
            · replace c45 := Bool.eq_false_iff.mpr c45
              subst c45
              have H1 : (some false) = some r := by rw [if_neg (show ¬ (false = true) by decide)] at H; exact H
              clear H
              have H := H1
              clear H1
              obtain rfl := Option.some.inj H
              go_wp2_with (first | ((with_reducible refine gate_callee (f := 10) rfl ?_); refine goesL_ (some 37) rfl rfl Try.func10 (by kernel_rfl) rfl #[] rfl (by (try simp only [List.map_toArray, List.map_cons, List.map_nil]); first | done | rfl | (simp only [List.length_drop, List.length_take]; rfl)) ?_; (with_reducible refine (cleatlaw18_sent.calls k1  false _ A44.out).mono ?_); rintro e w59 ⟨rfl, hb⟩; refine ⟨_, rfl, ?_⟩; have n0_ := Aside0.mk (below_step (by repeat (first | (with_reducible first | exact HB.out | apply below_alloc | apply pw_below_drewN | apply below_drew1) | exact HB.out)) hb); clear HB; have HB := n0_; clear n0_; (try clear hb); (try clear hb2); (try clear hk); (try clear hi)))
              go_ret
              exact ⟨by first | rfl | (simp [errW_none, errW_some] <;> rfl) | (simp [*, errW_none, errW_some] <;> rfl), by repeat (first | (with_reducible first | exact HB.out | apply below_alloc | apply pw_below_drewN | apply below_drew1) | exact HB.out)⟩
          · rw [if_neg c43] at H
            have c43b0 : (x8_1 == 9) = false := beq_eq_false_iff_ne.mpr c43
            have c43b1 : (x8_1 != 9) = true := bne_iff_ne.mpr c43
            replace H := Option.bind_eq_some_iff.mp H
            obtain ⟨t140, A600, H⟩ := H
            replace H : (if t140 = true then (if a0 > a1 then (if (t135.size : Int) = x8_1 then (if (t135.size : Int) ≥ 1 then (some (decide ((t135.size : Int) ≤ 10))) else (some false)) else (some false)) else (if (t135.size : Int) ≤ (t136.size : Int) then (if (t135.size : Int) = x8_1 then (if (t135.size : Int) ≥ 1 then (some (decide ((t135.size : Int) ≤ 10))) else (some false)) else (some false)) else (some false))) else (some false)) = some r := H
            have A60 := Aside0.mk A600
            clear A600
            by_cases c61 : t140 = true
            · subst c61
              have H1 : (if a0 > a1 then (if (t135.size : Int) = x8_1 then (if (t135.size : Int) ≥ 1 then (some (decide ((t135.size : Int) ≤ 10))) else (some false)) else (some false)) else (if (t135.size : Int) ≤ (t136.size : Int) then (if (t135.size : Int) = x8_1 then (if (t135.size : Int) ≥ 1 then (some (decide ((t135.size : Int) ≤ 10))) else (some false)) else (some false)) else (some false))) = some r := by rw [if_pos rfl] at H; exact H
              clear H
              have H := H1
              clear H1
              by_cases c62 : a0 > a1
              · rw [if_pos c62] at H
                have c62b0 : decide (a1 < a0) = true := decide_eq_true c62
                clear c62
                by_cases c63 : (t135.size : Int) = x8_1
                · rw [if_pos c63] at H
                  have c63b0 : ((t135.size : Int) == x8_1) = true := beq_iff_eq.mpr c63
                  have c63b1 : ((t135.size : Int) != x8_1) = false := bne_eq_false_iff_eq.mpr c63
                  clear c63
                  by_cases c64 : (t135.size : Int) ≥ 1
                  · rw [if_pos c64] at H
                    have c64b0 : decide (1 ≤ (t135.size : Int)) = true := decide_eq_true c64
                    have c64b1 : decide (1 ≤ t135.size) = true := decide_eq_true (by omega)
                    clear c64
                    obtain rfl := Option.some.inj H
                    go_wp2_with (first | ((with_reducible refine gate_callee (f := 10) rfl ?_); refine goesL_ (some 37) rfl rfl Try.func10 (by kernel_rfl) rfl #[] rfl (by (try simp only [List.map_toArray, List.map_cons, List.map_nil]); first | done | rfl | (simp only [List.length_drop, List.length_take]; rfl)) ?_; (with_reducible refine (cleatlaw18_sent.calls k1  true _ A60.out).mono ?_); rintro e w65 ⟨rfl, hb⟩; refine ⟨_, rfl, ?_⟩; have n0_ := Aside0.mk (below_step (by repeat (first | (with_reducible first | exact HB.out | apply below_alloc | apply pw_below_drewN | apply below_drew1) | exact HB.out)) hb); clear HB; have HB := n0_; clear n0_; (try clear hb); (try clear hb2); (try clear hk); (try clear hi)))
                    go_ret
                    exact ⟨by first | rfl | (simp [errW_none, errW_some] <;> rfl) | (simp [*, errW_none, errW_some] <;> rfl), by repeat (first | (with_reducible first | exact HB.out | apply below_alloc | apply pw_below_drewN | apply below_drew1) | exact HB.out)⟩
                  · rw [if_neg c64] at H
                    have c64b0 : decide (1 ≤ (t135.size : Int)) = false := decide_eq_false c64
                    have c64b1 : decide (1 ≤ t135.size) = false := decide_eq_false (by omega)
                    clear c64
                    obtain rfl := Option.some.inj H
                    go_wp2_with (first | ((with_reducible refine gate_callee (f := 10) rfl ?_); refine goesL_ (some 37) rfl rfl Try.func10 (by kernel_rfl) rfl #[] rfl (by (try simp only [List.map_toArray, List.map_cons, List.map_nil]); first | done | rfl | (simp only [List.length_drop, List.length_take]; rfl)) ?_; (with_reducible refine (cleatlaw18_sent.calls k1  true _ A60.out).mono ?_); rintro e w66 ⟨rfl, hb⟩; refine ⟨_, rfl, ?_⟩; have n0_ := Aside0.mk (below_step (by repeat (first | (with_reducible first | exact HB.out | apply below_alloc | apply pw_below_drewN | apply below_drew1) | exact HB.out)) hb); clear HB; have HB := n0_; clear n0_; (try clear hb); (try clear hb2); (try clear hk); (try clear hi)))
                    go_ret
                    exact ⟨by first | rfl | (simp [errW_none, errW_some] <;> rfl) | (simp [*, errW_none, errW_some] <;> rfl), by repeat (first | (with_reducible first | exact HB.out | apply below_alloc | apply pw_below_drewN | apply below_drew1) | exact HB.out)⟩
                · rw [if_neg c63] at H
                  have c63b0 : ((t135.size : Int) == x8_1) = false := beq_eq_false_iff_ne.mpr c63
                  have c63b1 : ((t135.size : Int) != x8_1) = true := bne_iff_ne.mpr c63
                  obtain rfl := Option.some.inj H
                  go_wp2_with (first | ((with_reducible refine gate_callee (f := 10) rfl ?_); refine goesL_ (some 37) rfl rfl Try.func10 (by kernel_rfl) rfl #[] rfl (by (try simp only [List.map_toArray, List.map_cons, List.map_nil]); first | done | rfl | (simp only [List.length_drop, List.length_take]; rfl)) ?_; (with_reducible refine (cleatlaw18_sent.calls k1  true _ A60.out).mono ?_); rintro e w67 ⟨rfl, hb⟩; refine ⟨_, rfl, ?_⟩; have n0_ := Aside0.mk (below_step (by repeat (first | (with_reducible first | exact HB.out | apply below_alloc | apply pw_below_drewN | apply below_drew1) | exact HB.out)) hb); clear HB; have HB := n0_; clear n0_; (try clear hb); (try clear hb2); (try clear hk); (try clear hi)))
                  go_ret
                  exact ⟨by first | rfl | (simp [errW_none, errW_some] <;> rfl) | (simp [*, errW_none, errW_some] <;> rfl), by repeat (first | (with_reducible first | exact HB.out | apply below_alloc | apply pw_below_drewN | apply below_drew1) | exact HB.out)⟩
              · rw [if_neg c62] at H
                have c62b0 : decide (a1 < a0) = false := decide_eq_false c62
                clear c62
                by_cases c68 : (t135.size : Int) ≤ (t136.size : Int)
                · rw [if_pos c68] at H
                  have c68b0 : decide ((t135.size : Int) ≤ (t136.size : Int)) = true := decide_eq_true c68
                  have c68b1 : decide (t135.size ≤ t136.size) = true := decide_eq_true (Int.ofNat_le.mp c68)
                  clear c68
                  by_cases c69 : (t135.size : Int) = x8_1
                  · rw [if_pos c69] at H
                    have c69b0 : ((t135.size : Int) == x8_1) = true := beq_iff_eq.mpr c69
                    have c69b1 : ((t135.size : Int) != x8_1) = false := bne_eq_false_iff_eq.mpr c69
                    clear c69
                    by_cases c70 : (t135.size : Int) ≥ 1
                    · rw [if_pos c70] at H
                      have c70b0 : decide (1 ≤ (t135.size : Int)) = true := decide_eq_true c70
                      have c70b1 : decide (1 ≤ t135.size) = true := decide_eq_true (by omega)
                      clear c70
                      obtain rfl := Option.some.inj H
                      go_wp2_with (first | ((with_reducible refine gate_callee (f := 10) rfl ?_); refine goesL_ (some 37) rfl rfl Try.func10 (by kernel_rfl) rfl #[] rfl (by (try simp only [List.map_toArray, List.map_cons, List.map_nil]); first | done | rfl | (simp only [List.length_drop, List.length_take]; rfl)) ?_; (with_reducible refine (cleatlaw18_sent.calls k1  true _ A60.out).mono ?_); rintro e w71 ⟨rfl, hb⟩; refine ⟨_, rfl, ?_⟩; have n0_ := Aside0.mk (below_step (by repeat (first | (with_reducible first | exact HB.out | apply below_alloc | apply pw_below_drewN | apply below_drew1) | exact HB.out)) hb); clear HB; have HB := n0_; clear n0_; (try clear hb); (try clear hb2); (try clear hk); (try clear hi)))
                      go_ret
                      exact ⟨by first | rfl | (simp [errW_none, errW_some] <;> rfl) | (simp [*, errW_none, errW_some] <;> rfl), by repeat (first | (with_reducible first | exact HB.out | apply below_alloc | apply pw_below_drewN | apply below_drew1) | exact HB.out)⟩
                    · rw [if_neg c70] at H
                      have c70b0 : decide (1 ≤ (t135.size : Int)) = false := decide_eq_false c70
                      have c70b1 : decide (1 ≤ t135.size) = false := decide_eq_false (by omega)
                      clear c70
                      obtain rfl := Option.some.inj H
                      go_wp2_with (first | ((with_reducible refine gate_callee (f := 10) rfl ?_); refine goesL_ (some 37) rfl rfl Try.func10 (by kernel_rfl) rfl #[] rfl (by (try simp only [List.map_toArray, List.map_cons, List.map_nil]); first | done | rfl | (simp only [List.length_drop, List.length_take]; rfl)) ?_; (with_reducible refine (cleatlaw18_sent.calls k1  true _ A60.out).mono ?_); rintro e w72 ⟨rfl, hb⟩; refine ⟨_, rfl, ?_⟩; have n0_ := Aside0.mk (below_step (by repeat (first | (with_reducible first | exact HB.out | apply below_alloc | apply pw_below_drewN | apply below_drew1) | exact HB.out)) hb); clear HB; have HB := n0_; clear n0_; (try clear hb); (try clear hb2); (try clear hk); (try clear hi)))
                      go_ret
                      exact ⟨by first | rfl | (simp [errW_none, errW_some] <;> rfl) | (simp [*, errW_none, errW_some] <;> rfl), by repeat (first | (with_reducible first | exact HB.out | apply below_alloc | apply pw_below_drewN | apply below_drew1) | exact HB.out)⟩
                  · rw [if_neg c69] at H
                    have c69b0 : ((t135.size : Int) == x8_1) = false := beq_eq_false_iff_ne.mpr c69
                    have c69b1 : ((t135.size : Int) != x8_1) = true := bne_iff_ne.mpr c69
                    obtain rfl := Option.some.inj H
                    go_wp2_with (first | ((with_reducible refine gate_callee (f := 10) rfl ?_); refine goesL_ (some 37) rfl rfl Try.func10 (by kernel_rfl) rfl #[] rfl (by (try simp only [List.map_toArray, List.map_cons, List.map_nil]); first | done | rfl | (simp only [List.length_drop, List.length_take]; rfl)) ?_; (with_reducible refine (cleatlaw18_sent.calls k1  true _ A60.out).mono ?_); rintro e w73 ⟨rfl, hb⟩; refine ⟨_, rfl, ?_⟩; have n0_ := Aside0.mk (below_step (by repeat (first | (with_reducible first | exact HB.out | apply below_alloc | apply pw_below_drewN | apply below_drew1) | exact HB.out)) hb); clear HB; have HB := n0_; clear n0_; (try clear hb); (try clear hb2); (try clear hk); (try clear hi)))
                    go_ret
                    exact ⟨by first | rfl | (simp [errW_none, errW_some] <;> rfl) | (simp [*, errW_none, errW_some] <;> rfl), by repeat (first | (with_reducible first | exact HB.out | apply below_alloc | apply pw_below_drewN | apply below_drew1) | exact HB.out)⟩
                · rw [if_neg c68] at H
                  have c68b0 : decide ((t135.size : Int) ≤ (t136.size : Int)) = false := decide_eq_false c68
                  have c68b1 : decide (t135.size ≤ t136.size) = false := decide_eq_false (fun h => c68 (Int.ofNat_le.mpr h))
                  clear c68
                  obtain rfl := Option.some.inj H
                  go_wp2_with (first | ((with_reducible refine gate_callee (f := 10) rfl ?_); refine goesL_ (some 37) rfl rfl Try.func10 (by kernel_rfl) rfl #[] rfl (by (try simp only [List.map_toArray, List.map_cons, List.map_nil]); first | done | rfl | (simp only [List.length_drop, List.length_take]; rfl)) ?_; (with_reducible refine (cleatlaw18_sent.calls k1  true _ A60.out).mono ?_); rintro e w74 ⟨rfl, hb⟩; refine ⟨_, rfl, ?_⟩; have n0_ := Aside0.mk (below_step (by repeat (first | (with_reducible first | exact HB.out | apply below_alloc | apply pw_below_drewN | apply below_drew1) | exact HB.out)) hb); clear HB; have HB := n0_; clear n0_; (try clear hb); (try clear hb2); (try clear hk); (try clear hi)))
                  go_ret
                  exact ⟨by first | rfl | (simp [errW_none, errW_some] <;> rfl) | (simp [*, errW_none, errW_some] <;> rfl), by repeat (first | (with_reducible first | exact HB.out | apply below_alloc | apply pw_below_drewN | apply below_drew1) | exact HB.out)⟩
            · replace c61 := Bool.eq_false_iff.mpr c61
              subst c61
              have H1 : (some false) = some r := by rw [if_neg (show ¬ (false = true) by decide)] at H; exact H
              clear H
              have H := H1
              clear H1
              obtain rfl := Option.some.inj H
              go_wp2_with (first | ((with_reducible refine gate_callee (f := 10) rfl ?_); refine goesL_ (some 37) rfl rfl Try.func10 (by kernel_rfl) rfl #[] rfl (by (try simp only [List.map_toArray, List.map_cons, List.map_nil]); first | done | rfl | (simp only [List.length_drop, List.length_take]; rfl)) ?_; (with_reducible refine (cleatlaw18_sent.calls k1  false _ A60.out).mono ?_); rintro e w75 ⟨rfl, hb⟩; refine ⟨_, rfl, ?_⟩; have n0_ := Aside0.mk (below_step (by repeat (first | (with_reducible first | exact HB.out | apply below_alloc | apply pw_below_drewN | apply below_drew1) | exact HB.out)) hb); clear HB; have HB := n0_; clear n0_; (try clear hb); (try clear hb2); (try clear hk); (try clear hi)))
              go_ret
              exact ⟨by first | rfl | (simp [errW_none, errW_some] <;> rfl) | (simp [*, errW_none, errW_some] <;> rfl), by repeat (first | (with_reducible first | exact HB.out | apply below_alloc | apply pw_below_drewN | apply below_drew1) | exact HB.out)⟩
      · rw [if_neg c7] at H
        have c7b0 : decide (x8_1 < 10) = false := decide_eq_false c7
        clear c7
        by_cases c76 : x8_1 = 9
        · rw [if_pos c76] at H
          have c76b0 : (x8_1 == 9) = true := beq_iff_eq.mpr c76
          have c76b1 : (x8_1 != 9) = false := bne_eq_false_iff_eq.mpr c76
          clear c76
          by_cases c77 : a0 ≥ x7_1
          · rw [if_pos c77] at H
            have c77b0 : decide (x7_1 ≤ a0) = true := decide_eq_true c77
            clear c77
            replace H := Option.bind_eq_some_iff.mp H
            obtain ⟨t141, A780, H⟩ := H
            replace H : (if t141 = true then (if a0 > a1 then (if (t135.size : Int) = 10 then (if (t135.size : Int) ≥ 1 then (some (decide ((t135.size : Int) ≤ 10))) else (some false)) else (some false)) else (if (t135.size : Int) ≤ (t136.size : Int) then (if (t135.size : Int) = 10 then (if (t135.size : Int) ≥ 1 then (some (decide ((t135.size : Int) ≤ 10))) else (some false)) else (some false)) else (some false))) else (some false)) = some r := H
            have A78 := Aside0.mk A780
            clear A780
            by_cases c79 : t141 = true
            · subst c79
              have H1 : (if a0 > a1 then (if (t135.size : Int) = 10 then (if (t135.size : Int) ≥ 1 then (some (decide ((t135.size : Int) ≤ 10))) else (some false)) else (some false)) else (if (t135.size : Int) ≤ (t136.size : Int) then (if (t135.size : Int) = 10 then (if (t135.size : Int) ≥ 1 then (some (decide ((t135.size : Int) ≤ 10))) else (some false)) else (some false)) else (some false))) = some r := by rw [if_pos rfl] at H; exact H
              clear H
              have H := H1
              clear H1
              by_cases c80 : a0 > a1
              · rw [if_pos c80] at H
                have c80b0 : decide (a1 < a0) = true := decide_eq_true c80
                clear c80
                by_cases c81 : (t135.size : Int) = 10
                · rw [if_pos c81] at H
                  have c81b0 : ((t135.size : Int) == 10) = true := beq_iff_eq.mpr c81
                  have c81b1 : ((t135.size : Int) != 10) = false := bne_eq_false_iff_eq.mpr c81
                  clear c81
                  by_cases c82 : (t135.size : Int) ≥ 1
                  · rw [if_pos c82] at H
                    have c82b0 : decide (1 ≤ (t135.size : Int)) = true := decide_eq_true c82
                    have c82b1 : decide (1 ≤ t135.size) = true := decide_eq_true (by omega)
                    clear c82
                    obtain rfl := Option.some.inj H
                    go_wp2_with (first | ((with_reducible refine gate_callee (f := 10) rfl ?_); refine goesL_ (some 37) rfl rfl Try.func10 (by kernel_rfl) rfl #[] rfl (by (try simp only [List.map_toArray, List.map_cons, List.map_nil]); first | done | rfl | (simp only [List.length_drop, List.length_take]; rfl)) ?_; (with_reducible refine (cleatlaw18_sent.calls k1  true _ A78.out).mono ?_); rintro e w83 ⟨rfl, hb⟩; refine ⟨_, rfl, ?_⟩; have n0_ := Aside0.mk (below_step (by repeat (first | (with_reducible first | exact HB.out | apply below_alloc | apply pw_below_drewN | apply below_drew1) | exact HB.out)) hb); clear HB; have HB := n0_; clear n0_; (try clear hb); (try clear hb2); (try clear hk); (try clear hi)))
                    go_ret
                    exact ⟨by first | rfl | (simp [errW_none, errW_some] <;> rfl) | (simp [*, errW_none, errW_some] <;> rfl), by repeat (first | (with_reducible first | exact HB.out | apply below_alloc | apply pw_below_drewN | apply below_drew1) | exact HB.out)⟩
                  · rw [if_neg c82] at H
                    have c82b0 : decide (1 ≤ (t135.size : Int)) = false := decide_eq_false c82
                    have c82b1 : decide (1 ≤ t135.size) = false := decide_eq_false (by omega)
                    clear c82
                    obtain rfl := Option.some.inj H
                    go_wp2_with (first | ((with_reducible refine gate_callee (f := 10) rfl ?_); refine goesL_ (some 37) rfl rfl Try.func10 (by kernel_rfl) rfl #[] rfl (by (try simp only [List.map_toArray, List.map_cons, List.map_nil]); first | done | rfl | (simp only [List.length_drop, List.length_take]; rfl)) ?_; (with_reducible refine (cleatlaw18_sent.calls k1  true _ A78.out).mono ?_); rintro e w84 ⟨rfl, hb⟩; refine ⟨_, rfl, ?_⟩; have n0_ := Aside0.mk (below_step (by repeat (first | (with_reducible first | exact HB.out | apply below_alloc | apply pw_below_drewN | apply below_drew1) | exact HB.out)) hb); clear HB; have HB := n0_; clear n0_; (try clear hb); (try clear hb2); (try clear hk); (try clear hi)))
                    go_ret
                    exact ⟨by first | rfl | (simp [errW_none, errW_some] <;> rfl) | (simp [*, errW_none, errW_some] <;> rfl), by repeat (first | (with_reducible first | exact HB.out | apply below_alloc | apply pw_below_drewN | apply below_drew1) | exact HB.out)⟩
                · rw [if_neg c81] at H
                  have c81b0 : ((t135.size : Int) == 10) = false := beq_eq_false_iff_ne.mpr c81
                  have c81b1 : ((t135.size : Int) != 10) = true := bne_iff_ne.mpr c81
                  obtain rfl := Option.some.inj H
                  go_wp2_with (first | ((with_reducible refine gate_callee (f := 10) rfl ?_); refine goesL_ (some 37) rfl rfl Try.func10 (by kernel_rfl) rfl #[] rfl (by (try simp only [List.map_toArray, List.map_cons, List.map_nil]); first | done | rfl | (simp only [List.length_drop, List.length_take]; rfl)) ?_; (with_reducible refine (cleatlaw18_sent.calls k1  true _ A78.out).mono ?_); rintro e w85 ⟨rfl, hb⟩; refine ⟨_, rfl, ?_⟩; have n0_ := Aside0.mk (below_step (by repeat (first | (with_reducible first | exact HB.out | apply below_alloc | apply pw_below_drewN | apply below_drew1) | exact HB.out)) hb); clear HB; have HB := n0_; clear n0_; (try clear hb); (try clear hb2); (try clear hk); (try clear hi)))
                  go_ret
                  exact ⟨by first | rfl | (simp [errW_none, errW_some] <;> rfl) | (simp [*, errW_none, errW_some] <;> rfl), by repeat (first | (with_reducible first | exact HB.out | apply below_alloc | apply pw_below_drewN | apply below_drew1) | exact HB.out)⟩
              · rw [if_neg c80] at H
                have c80b0 : decide (a1 < a0) = false := decide_eq_false c80
                clear c80
                by_cases c86 : (t135.size : Int) ≤ (t136.size : Int)
                · rw [if_pos c86] at H
                  have c86b0 : decide ((t135.size : Int) ≤ (t136.size : Int)) = true := decide_eq_true c86
                  have c86b1 : decide (t135.size ≤ t136.size) = true := decide_eq_true (Int.ofNat_le.mp c86)
                  clear c86
                  by_cases c87 : (t135.size : Int) = 10
                  · rw [if_pos c87] at H
                    have c87b0 : ((t135.size : Int) == 10) = true := beq_iff_eq.mpr c87
                    have c87b1 : ((t135.size : Int) != 10) = false := bne_eq_false_iff_eq.mpr c87
                    clear c87
                    by_cases c88 : (t135.size : Int) ≥ 1
                    · rw [if_pos c88] at H
                      have c88b0 : decide (1 ≤ (t135.size : Int)) = true := decide_eq_true c88
                      have c88b1 : decide (1 ≤ t135.size) = true := decide_eq_true (by omega)
                      clear c88
                      obtain rfl := Option.some.inj H
                      go_wp2_with (first | ((with_reducible refine gate_callee (f := 10) rfl ?_); refine goesL_ (some 37) rfl rfl Try.func10 (by kernel_rfl) rfl #[] rfl (by (try simp only [List.map_toArray, List.map_cons, List.map_nil]); first | done | rfl | (simp only [List.length_drop, List.length_take]; rfl)) ?_; (with_reducible refine (cleatlaw18_sent.calls k1  true _ A78.out).mono ?_); rintro e w89 ⟨rfl, hb⟩; refine ⟨_, rfl, ?_⟩; have n0_ := Aside0.mk (below_step (by repeat (first | (with_reducible first | exact HB.out | apply below_alloc | apply pw_below_drewN | apply below_drew1) | exact HB.out)) hb); clear HB; have HB := n0_; clear n0_; (try clear hb); (try clear hb2); (try clear hk); (try clear hi)))
                      go_ret
                      exact ⟨by first | rfl | (simp [errW_none, errW_some] <;> rfl) | (simp [*, errW_none, errW_some] <;> rfl), by repeat (first | (with_reducible first | exact HB.out | apply below_alloc | apply pw_below_drewN | apply below_drew1) | exact HB.out)⟩
                    · rw [if_neg c88] at H
                      have c88b0 : decide (1 ≤ (t135.size : Int)) = false := decide_eq_false c88
                      have c88b1 : decide (1 ≤ t135.size) = false := decide_eq_false (by omega)
                      clear c88
                      obtain rfl := Option.some.inj H
                      go_wp2_with (first | ((with_reducible refine gate_callee (f := 10) rfl ?_); refine goesL_ (some 37) rfl rfl Try.func10 (by kernel_rfl) rfl #[] rfl (by (try simp only [List.map_toArray, List.map_cons, List.map_nil]); first | done | rfl | (simp only [List.length_drop, List.length_take]; rfl)) ?_; (with_reducible refine (cleatlaw18_sent.calls k1  true _ A78.out).mono ?_); rintro e w90 ⟨rfl, hb⟩; refine ⟨_, rfl, ?_⟩; have n0_ := Aside0.mk (below_step (by repeat (first | (with_reducible first | exact HB.out | apply below_alloc | apply pw_below_drewN | apply below_drew1) | exact HB.out)) hb); clear HB; have HB := n0_; clear n0_; (try clear hb); (try clear hb2); (try clear hk); (try clear hi)))
                      go_ret
                      exact ⟨by first | rfl | (simp [errW_none, errW_some] <;> rfl) | (simp [*, errW_none, errW_some] <;> rfl), by repeat (first | (with_reducible first | exact HB.out | apply below_alloc | apply pw_below_drewN | apply below_drew1) | exact HB.out)⟩
                  · rw [if_neg c87] at H
                    have c87b0 : ((t135.size : Int) == 10) = false := beq_eq_false_iff_ne.mpr c87
                    have c87b1 : ((t135.size : Int) != 10) = true := bne_iff_ne.mpr c87
                    obtain rfl := Option.some.inj H
                    go_wp2_with (first | ((with_reducible refine gate_callee (f := 10) rfl ?_); refine goesL_ (some 37) rfl rfl Try.func10 (by kernel_rfl) rfl #[] rfl (by (try simp only [List.map_toArray, List.map_cons, List.map_nil]); first | done | rfl | (simp only [List.length_drop, List.length_take]; rfl)) ?_; (with_reducible refine (cleatlaw18_sent.calls k1  true _ A78.out).mono ?_); rintro e w91 ⟨rfl, hb⟩; refine ⟨_, rfl, ?_⟩; have n0_ := Aside0.mk (below_step (by repeat (first | (with_reducible first | exact HB.out | apply below_alloc | apply pw_below_drewN | apply below_drew1) | exact HB.out)) hb); clear HB; have HB := n0_; clear n0_; (try clear hb); (try clear hb2); (try clear hk); (try clear hi)))
                    go_ret
                    exact ⟨by first | rfl | (simp [errW_none, errW_some] <;> rfl) | (simp [*, errW_none, errW_some] <;> rfl), by repeat (first | (with_reducible first | exact HB.out | apply below_alloc | apply pw_below_drewN | apply below_drew1) | exact HB.out)⟩
                · rw [if_neg c86] at H
                  have c86b0 : decide ((t135.size : Int) ≤ (t136.size : Int)) = false := decide_eq_false c86
                  have c86b1 : decide (t135.size ≤ t136.size) = false := decide_eq_false (fun h => c86 (Int.ofNat_le.mpr h))
                  clear c86
                  obtain rfl := Option.some.inj H
                  go_wp2_with (first | ((with_reducible refine gate_callee (f := 10) rfl ?_); refine goesL_ (some 37) rfl rfl Try.func10 (by kernel_rfl) rfl #[] rfl (by (try simp only [List.map_toArray, List.map_cons, List.map_nil]); first | done | rfl | (simp only [List.length_drop, List.length_take]; rfl)) ?_; (with_reducible refine (cleatlaw18_sent.calls k1  true _ A78.out).mono ?_); rintro e w92 ⟨rfl, hb⟩; refine ⟨_, rfl, ?_⟩; have n0_ := Aside0.mk (below_step (by repeat (first | (with_reducible first | exact HB.out | apply below_alloc | apply pw_below_drewN | apply below_drew1) | exact HB.out)) hb); clear HB; have HB := n0_; clear n0_; (try clear hb); (try clear hb2); (try clear hk); (try clear hi)))
                  go_ret
                  exact ⟨by first | rfl | (simp [errW_none, errW_some] <;> rfl) | (simp [*, errW_none, errW_some] <;> rfl), by repeat (first | (with_reducible first | exact HB.out | apply below_alloc | apply pw_below_drewN | apply below_drew1) | exact HB.out)⟩
            · replace c79 := Bool.eq_false_iff.mpr c79
              subst c79
              have H1 : (some false) = some r := by rw [if_neg (show ¬ (false = true) by decide)] at H; exact H
              clear H
              have H := H1
              clear H1
              obtain rfl := Option.some.inj H
              go_wp2_with (first | ((with_reducible refine gate_callee (f := 10) rfl ?_); refine goesL_ (some 37) rfl rfl Try.func10 (by kernel_rfl) rfl #[] rfl (by (try simp only [List.map_toArray, List.map_cons, List.map_nil]); first | done | rfl | (simp only [List.length_drop, List.length_take]; rfl)) ?_; (with_reducible refine (cleatlaw18_sent.calls k1  false _ A78.out).mono ?_); rintro e w93 ⟨rfl, hb⟩; refine ⟨_, rfl, ?_⟩; have n0_ := Aside0.mk (below_step (by repeat (first | (with_reducible first | exact HB.out | apply below_alloc | apply pw_below_drewN | apply below_drew1) | exact HB.out)) hb); clear HB; have HB := n0_; clear n0_; (try clear hb); (try clear hb2); (try clear hk); (try clear hi)))
              go_ret
              exact ⟨by first | rfl | (simp [errW_none, errW_some] <;> rfl) | (simp [*, errW_none, errW_some] <;> rfl), by repeat (first | (with_reducible first | exact HB.out | apply below_alloc | apply pw_below_drewN | apply below_drew1) | exact HB.out)⟩
          · rw [if_neg c77] at H
            have c77b0 : decide (x7_1 ≤ a0) = false := decide_eq_false c77
            clear c77
            replace H := Option.bind_eq_some_iff.mp H
            obtain ⟨t142, A940, H⟩ := H
            replace H : (if t142 = true then (if a0 > a1 then (if (t135.size : Int) = x8_1 then (if (t135.size : Int) ≥ 1 then (some (decide ((t135.size : Int) ≤ 10))) else (some false)) else (some false)) else (if (t135.size : Int) ≤ (t136.size : Int) then (if (t135.size : Int) = x8_1 then (if (t135.size : Int) ≥ 1 then (some (decide ((t135.size : Int) ≤ 10))) else (some false)) else (some false)) else (some false))) else (some false)) = some r := H
            have A94 := Aside0.mk A940
            clear A940
            by_cases c95 : t142 = true
            · subst c95
              have H1 : (if a0 > a1 then (if (t135.size : Int) = x8_1 then (if (t135.size : Int) ≥ 1 then (some (decide ((t135.size : Int) ≤ 10))) else (some false)) else (some false)) else (if (t135.size : Int) ≤ (t136.size : Int) then (if (t135.size : Int) = x8_1 then (if (t135.size : Int) ≥ 1 then (some (decide ((t135.size : Int) ≤ 10))) else (some false)) else (some false)) else (some false))) = some r := by rw [if_pos rfl] at H; exact H
              clear H
              have H := H1
              clear H1
              by_cases c96 : a0 > a1
              · rw [if_pos c96] at H
                have c96b0 : decide (a1 < a0) = true := decide_eq_true c96
                clear c96
                by_cases c97 : (t135.size : Int) = x8_1
                · rw [if_pos c97] at H
                  have c97b0 : ((t135.size : Int) == x8_1) = true := beq_iff_eq.mpr c97
                  have c97b1 : ((t135.size : Int) != x8_1) = false := bne_eq_false_iff_eq.mpr c97
                  clear c97
                  by_cases c98 : (t135.size : Int) ≥ 1
                  · rw [if_pos c98] at H
                    have c98b0 : decide (1 ≤ (t135.size : Int)) = true := decide_eq_true c98
                    have c98b1 : decide (1 ≤ t135.size) = true := decide_eq_true (by omega)
                    clear c98
                    obtain rfl := Option.some.inj H
                    go_wp2_with (first | ((with_reducible refine gate_callee (f := 10) rfl ?_); refine goesL_ (some 37) rfl rfl Try.func10 (by kernel_rfl) rfl #[] rfl (by (try simp only [List.map_toArray, List.map_cons, List.map_nil]); first | done | rfl | (simp only [List.length_drop, List.length_take]; rfl)) ?_; (with_reducible refine (cleatlaw18_sent.calls k1  true _ A94.out).mono ?_); rintro e w99 ⟨rfl, hb⟩; refine ⟨_, rfl, ?_⟩; have n0_ := Aside0.mk (below_step (by repeat (first | (with_reducible first | exact HB.out | apply below_alloc | apply pw_below_drewN | apply below_drew1) | exact HB.out)) hb); clear HB; have HB := n0_; clear n0_; (try clear hb); (try clear hb2); (try clear hk); (try clear hi)))
                    go_ret
                    exact ⟨by first | rfl | (simp [errW_none, errW_some] <;> rfl) | (simp [*, errW_none, errW_some] <;> rfl), by repeat (first | (with_reducible first | exact HB.out | apply below_alloc | apply pw_below_drewN | apply below_drew1) | exact HB.out)⟩
                  · rw [if_neg c98] at H
                    have c98b0 : decide (1 ≤ (t135.size : Int)) = false := decide_eq_false c98
                    have c98b1 : decide (1 ≤ t135.size) = false := decide_eq_false (by omega)
                    clear c98
                    obtain rfl := Option.some.inj H
                    go_wp2_with (first | ((with_reducible refine gate_callee (f := 10) rfl ?_); refine goesL_ (some 37) rfl rfl Try.func10 (by kernel_rfl) rfl #[] rfl (by (try simp only [List.map_toArray, List.map_cons, List.map_nil]); first | done | rfl | (simp only [List.length_drop, List.length_take]; rfl)) ?_; (with_reducible refine (cleatlaw18_sent.calls k1  true _ A94.out).mono ?_); rintro e w100 ⟨rfl, hb⟩; refine ⟨_, rfl, ?_⟩; have n0_ := Aside0.mk (below_step (by repeat (first | (with_reducible first | exact HB.out | apply below_alloc | apply pw_below_drewN | apply below_drew1) | exact HB.out)) hb); clear HB; have HB := n0_; clear n0_; (try clear hb); (try clear hb2); (try clear hk); (try clear hi)))
                    go_ret
                    exact ⟨by first | rfl | (simp [errW_none, errW_some] <;> rfl) | (simp [*, errW_none, errW_some] <;> rfl), by repeat (first | (with_reducible first | exact HB.out | apply below_alloc | apply pw_below_drewN | apply below_drew1) | exact HB.out)⟩
                · rw [if_neg c97] at H
                  have c97b0 : ((t135.size : Int) == x8_1) = false := beq_eq_false_iff_ne.mpr c97
                  have c97b1 : ((t135.size : Int) != x8_1) = true := bne_iff_ne.mpr c97
                  obtain rfl := Option.some.inj H
                  go_wp2_with (first | ((with_reducible refine gate_callee (f := 10) rfl ?_); refine goesL_ (some 37) rfl rfl Try.func10 (by kernel_rfl) rfl #[] rfl (by (try simp only [List.map_toArray, List.map_cons, List.map_nil]); first | done | rfl | (simp only [List.length_drop, List.length_take]; rfl)) ?_; (with_reducible refine (cleatlaw18_sent.calls k1  true _ A94.out).mono ?_); rintro e w101 ⟨rfl, hb⟩; refine ⟨_, rfl, ?_⟩; have n0_ := Aside0.mk (below_step (by repeat (first | (with_reducible first | exact HB.out | apply below_alloc | apply pw_below_drewN | apply below_drew1) | exact HB.out)) hb); clear HB; have HB := n0_; clear n0_; (try clear hb); (try clear hb2); (try clear hk); (try clear hi)))
                  go_ret
                  exact ⟨by first | rfl | (simp [errW_none, errW_some] <;> rfl) | (simp [*, errW_none, errW_some] <;> rfl), by repeat (first | (with_reducible first | exact HB.out | apply below_alloc | apply pw_below_drewN | apply below_drew1) | exact HB.out)⟩
              · rw [if_neg c96] at H
                have c96b0 : decide (a1 < a0) = false := decide_eq_false c96
                clear c96
                by_cases c102 : (t135.size : Int) ≤ (t136.size : Int)
                · rw [if_pos c102] at H
                  have c102b0 : decide ((t135.size : Int) ≤ (t136.size : Int)) = true := decide_eq_true c102
                  have c102b1 : decide (t135.size ≤ t136.size) = true := decide_eq_true (Int.ofNat_le.mp c102)
                  clear c102
                  by_cases c103 : (t135.size : Int) = x8_1
                  · rw [if_pos c103] at H
                    have c103b0 : ((t135.size : Int) == x8_1) = true := beq_iff_eq.mpr c103
                    have c103b1 : ((t135.size : Int) != x8_1) = false := bne_eq_false_iff_eq.mpr c103
                    clear c103
                    by_cases c104 : (t135.size : Int) ≥ 1
                    · rw [if_pos c104] at H
                      have c104b0 : decide (1 ≤ (t135.size : Int)) = true := decide_eq_true c104
                      have c104b1 : decide (1 ≤ t135.size) = true := decide_eq_true (by omega)
                      clear c104
                      obtain rfl := Option.some.inj H
                      go_wp2_with (first | ((with_reducible refine gate_callee (f := 10) rfl ?_); refine goesL_ (some 37) rfl rfl Try.func10 (by kernel_rfl) rfl #[] rfl (by (try simp only [List.map_toArray, List.map_cons, List.map_nil]); first | done | rfl | (simp only [List.length_drop, List.length_take]; rfl)) ?_; (with_reducible refine (cleatlaw18_sent.calls k1  true _ A94.out).mono ?_); rintro e w105 ⟨rfl, hb⟩; refine ⟨_, rfl, ?_⟩; have n0_ := Aside0.mk (below_step (by repeat (first | (with_reducible first | exact HB.out | apply below_alloc | apply pw_below_drewN | apply below_drew1) | exact HB.out)) hb); clear HB; have HB := n0_; clear n0_; (try clear hb); (try clear hb2); (try clear hk); (try clear hi)))
                      go_ret
                      exact ⟨by first | rfl | (simp [errW_none, errW_some] <;> rfl) | (simp [*, errW_none, errW_some] <;> rfl), by repeat (first | (with_reducible first | exact HB.out | apply below_alloc | apply pw_below_drewN | apply below_drew1) | exact HB.out)⟩
                    · rw [if_neg c104] at H
                      have c104b0 : decide (1 ≤ (t135.size : Int)) = false := decide_eq_false c104
                      have c104b1 : decide (1 ≤ t135.size) = false := decide_eq_false (by omega)
                      clear c104
                      obtain rfl := Option.some.inj H
                      go_wp2_with (first | ((with_reducible refine gate_callee (f := 10) rfl ?_); refine goesL_ (some 37) rfl rfl Try.func10 (by kernel_rfl) rfl #[] rfl (by (try simp only [List.map_toArray, List.map_cons, List.map_nil]); first | done | rfl | (simp only [List.length_drop, List.length_take]; rfl)) ?_; (with_reducible refine (cleatlaw18_sent.calls k1  true _ A94.out).mono ?_); rintro e w106 ⟨rfl, hb⟩; refine ⟨_, rfl, ?_⟩; have n0_ := Aside0.mk (below_step (by repeat (first | (with_reducible first | exact HB.out | apply below_alloc | apply pw_below_drewN | apply below_drew1) | exact HB.out)) hb); clear HB; have HB := n0_; clear n0_; (try clear hb); (try clear hb2); (try clear hk); (try clear hi)))
                      go_ret
                      exact ⟨by first | rfl | (simp [errW_none, errW_some] <;> rfl) | (simp [*, errW_none, errW_some] <;> rfl), by repeat (first | (with_reducible first | exact HB.out | apply below_alloc | apply pw_below_drewN | apply below_drew1) | exact HB.out)⟩
                  · rw [if_neg c103] at H
                    have c103b0 : ((t135.size : Int) == x8_1) = false := beq_eq_false_iff_ne.mpr c103
                    have c103b1 : ((t135.size : Int) != x8_1) = true := bne_iff_ne.mpr c103
                    obtain rfl := Option.some.inj H
                    go_wp2_with (first | ((with_reducible refine gate_callee (f := 10) rfl ?_); refine goesL_ (some 37) rfl rfl Try.func10 (by kernel_rfl) rfl #[] rfl (by (try simp only [List.map_toArray, List.map_cons, List.map_nil]); first | done | rfl | (simp only [List.length_drop, List.length_take]; rfl)) ?_; (with_reducible refine (cleatlaw18_sent.calls k1  true _ A94.out).mono ?_); rintro e w107 ⟨rfl, hb⟩; refine ⟨_, rfl, ?_⟩; have n0_ := Aside0.mk (below_step (by repeat (first | (with_reducible first | exact HB.out | apply below_alloc | apply pw_below_drewN | apply below_drew1) | exact HB.out)) hb); clear HB; have HB := n0_; clear n0_; (try clear hb); (try clear hb2); (try clear hk); (try clear hi)))
                    go_ret
                    exact ⟨by first | rfl | (simp [errW_none, errW_some] <;> rfl) | (simp [*, errW_none, errW_some] <;> rfl), by repeat (first | (with_reducible first | exact HB.out | apply below_alloc | apply pw_below_drewN | apply below_drew1) | exact HB.out)⟩
                · rw [if_neg c102] at H
                  have c102b0 : decide ((t135.size : Int) ≤ (t136.size : Int)) = false := decide_eq_false c102
                  have c102b1 : decide (t135.size ≤ t136.size) = false := decide_eq_false (fun h => c102 (Int.ofNat_le.mpr h))
                  clear c102
                  obtain rfl := Option.some.inj H
                  go_wp2_with (first | ((with_reducible refine gate_callee (f := 10) rfl ?_); refine goesL_ (some 37) rfl rfl Try.func10 (by kernel_rfl) rfl #[] rfl (by (try simp only [List.map_toArray, List.map_cons, List.map_nil]); first | done | rfl | (simp only [List.length_drop, List.length_take]; rfl)) ?_; (with_reducible refine (cleatlaw18_sent.calls k1  true _ A94.out).mono ?_); rintro e w108 ⟨rfl, hb⟩; refine ⟨_, rfl, ?_⟩; have n0_ := Aside0.mk (below_step (by repeat (first | (with_reducible first | exact HB.out | apply below_alloc | apply pw_below_drewN | apply below_drew1) | exact HB.out)) hb); clear HB; have HB := n0_; clear n0_; (try clear hb); (try clear hb2); (try clear hk); (try clear hi)))
                  go_ret
                  exact ⟨by first | rfl | (simp [errW_none, errW_some] <;> rfl) | (simp [*, errW_none, errW_some] <;> rfl), by repeat (first | (with_reducible first | exact HB.out | apply below_alloc | apply pw_below_drewN | apply below_drew1) | exact HB.out)⟩
            · replace c95 := Bool.eq_false_iff.mpr c95
              subst c95
              have H1 : (some false) = some r := by rw [if_neg (show ¬ (false = true) by decide)] at H; exact H
              clear H
              have H := H1
              clear H1
              obtain rfl := Option.some.inj H
              go_wp2_with (first | ((with_reducible refine gate_callee (f := 10) rfl ?_); refine goesL_ (some 37) rfl rfl Try.func10 (by kernel_rfl) rfl #[] rfl (by (try simp only [List.map_toArray, List.map_cons, List.map_nil]); first | done | rfl | (simp only [List.length_drop, List.length_take]; rfl)) ?_; (with_reducible refine (cleatlaw18_sent.calls k1  false _ A94.out).mono ?_); rintro e w109 ⟨rfl, hb⟩; refine ⟨_, rfl, ?_⟩; have n0_ := Aside0.mk (below_step (by repeat (first | (with_reducible first | exact HB.out | apply below_alloc | apply pw_below_drewN | apply below_drew1) | exact HB.out)) hb); clear HB; have HB := n0_; clear n0_; (try clear hb); (try clear hb2); (try clear hk); (try clear hi)))
              go_ret
              exact ⟨by first | rfl | (simp [errW_none, errW_some] <;> rfl) | (simp [*, errW_none, errW_some] <;> rfl), by repeat (first | (with_reducible first | exact HB.out | apply below_alloc | apply pw_below_drewN | apply below_drew1) | exact HB.out)⟩
        · rw [if_neg c76] at H
          have c76b0 : (x8_1 == 9) = false := beq_eq_false_iff_ne.mpr c76
          have c76b1 : (x8_1 != 9) = true := bne_iff_ne.mpr c76
          replace H := Option.bind_eq_some_iff.mp H
          obtain ⟨t143, A1100, H⟩ := H
          replace H : (if t143 = true then (if a0 > a1 then (if (t135.size : Int) = x8_1 then (if (t135.size : Int) ≥ 1 then (some (decide ((t135.size : Int) ≤ 10))) else (some false)) else (some false)) else (if (t135.size : Int) ≤ (t136.size : Int) then (if (t135.size : Int) = x8_1 then (if (t135.size : Int) ≥ 1 then (some (decide ((t135.size : Int) ≤ 10))) else (some false)) else (some false)) else (some false))) else (some false)) = some r := H
          have A110 := Aside0.mk A1100
          clear A1100
          by_cases c111 : t143 = true
          · subst c111
            have H1 : (if a0 > a1 then (if (t135.size : Int) = x8_1 then (if (t135.size : Int) ≥ 1 then (some (decide ((t135.size : Int) ≤ 10))) else (some false)) else (some false)) else (if (t135.size : Int) ≤ (t136.size : Int) then (if (t135.size : Int) = x8_1 then (if (t135.size : Int) ≥ 1 then (some (decide ((t135.size : Int) ≤ 10))) else (some false)) else (some false)) else (some false))) = some r := by rw [if_pos rfl] at H; exact H
            clear H
            have H := H1
            clear H1
            by_cases c112 : a0 > a1
            · rw [if_pos c112] at H
              have c112b0 : decide (a1 < a0) = true := decide_eq_true c112
              clear c112
              by_cases c113 : (t135.size : Int) = x8_1
              · rw [if_pos c113] at H
                have c113b0 : ((t135.size : Int) == x8_1) = true := beq_iff_eq.mpr c113
                have c113b1 : ((t135.size : Int) != x8_1) = false := bne_eq_false_iff_eq.mpr c113
                clear c113
                by_cases c114 : (t135.size : Int) ≥ 1
                · rw [if_pos c114] at H
                  have c114b0 : decide (1 ≤ (t135.size : Int)) = true := decide_eq_true c114
                  have c114b1 : decide (1 ≤ t135.size) = true := decide_eq_true (by omega)
                  clear c114
                  obtain rfl := Option.some.inj H
                  go_wp2_with (first | ((with_reducible refine gate_callee (f := 10) rfl ?_); refine goesL_ (some 37) rfl rfl Try.func10 (by kernel_rfl) rfl #[] rfl (by (try simp only [List.map_toArray, List.map_cons, List.map_nil]); first | done | rfl | (simp only [List.length_drop, List.length_take]; rfl)) ?_; (with_reducible refine (cleatlaw18_sent.calls k1  true _ A110.out).mono ?_); rintro e w115 ⟨rfl, hb⟩; refine ⟨_, rfl, ?_⟩; have n0_ := Aside0.mk (below_step (by repeat (first | (with_reducible first | exact HB.out | apply below_alloc | apply pw_below_drewN | apply below_drew1) | exact HB.out)) hb); clear HB; have HB := n0_; clear n0_; (try clear hb); (try clear hb2); (try clear hk); (try clear hi)))
                  go_ret
                  exact ⟨by first | rfl | (simp [errW_none, errW_some] <;> rfl) | (simp [*, errW_none, errW_some] <;> rfl), by repeat (first | (with_reducible first | exact HB.out | apply below_alloc | apply pw_below_drewN | apply below_drew1) | exact HB.out)⟩
                · rw [if_neg c114] at H
                  have c114b0 : decide (1 ≤ (t135.size : Int)) = false := decide_eq_false c114
                  have c114b1 : decide (1 ≤ t135.size) = false := decide_eq_false (by omega)
                  clear c114
                  obtain rfl := Option.some.inj H
                  go_wp2_with (first | ((with_reducible refine gate_callee (f := 10) rfl ?_); refine goesL_ (some 37) rfl rfl Try.func10 (by kernel_rfl) rfl #[] rfl (by (try simp only [List.map_toArray, List.map_cons, List.map_nil]); first | done | rfl | (simp only [List.length_drop, List.length_take]; rfl)) ?_; (with_reducible refine (cleatlaw18_sent.calls k1  true _ A110.out).mono ?_); rintro e w116 ⟨rfl, hb⟩; refine ⟨_, rfl, ?_⟩; have n0_ := Aside0.mk (below_step (by repeat (first | (with_reducible first | exact HB.out | apply below_alloc | apply pw_below_drewN | apply below_drew1) | exact HB.out)) hb); clear HB; have HB := n0_; clear n0_; (try clear hb); (try clear hb2); (try clear hk); (try clear hi)))
                  go_ret
                  exact ⟨by first | rfl | (simp [errW_none, errW_some] <;> rfl) | (simp [*, errW_none, errW_some] <;> rfl), by repeat (first | (with_reducible first | exact HB.out | apply below_alloc | apply pw_below_drewN | apply below_drew1) | exact HB.out)⟩
              · rw [if_neg c113] at H
                have c113b0 : ((t135.size : Int) == x8_1) = false := beq_eq_false_iff_ne.mpr c113
                have c113b1 : ((t135.size : Int) != x8_1) = true := bne_iff_ne.mpr c113
                obtain rfl := Option.some.inj H
                go_wp2_with (first | ((with_reducible refine gate_callee (f := 10) rfl ?_); refine goesL_ (some 37) rfl rfl Try.func10 (by kernel_rfl) rfl #[] rfl (by (try simp only [List.map_toArray, List.map_cons, List.map_nil]); first | done | rfl | (simp only [List.length_drop, List.length_take]; rfl)) ?_; (with_reducible refine (cleatlaw18_sent.calls k1  true _ A110.out).mono ?_); rintro e w117 ⟨rfl, hb⟩; refine ⟨_, rfl, ?_⟩; have n0_ := Aside0.mk (below_step (by repeat (first | (with_reducible first | exact HB.out | apply below_alloc | apply pw_below_drewN | apply below_drew1) | exact HB.out)) hb); clear HB; have HB := n0_; clear n0_; (try clear hb); (try clear hb2); (try clear hk); (try clear hi)))
                go_ret
                exact ⟨by first | rfl | (simp [errW_none, errW_some] <;> rfl) | (simp [*, errW_none, errW_some] <;> rfl), by repeat (first | (with_reducible first | exact HB.out | apply below_alloc | apply pw_below_drewN | apply below_drew1) | exact HB.out)⟩
            · rw [if_neg c112] at H
              have c112b0 : decide (a1 < a0) = false := decide_eq_false c112
              clear c112
              by_cases c118 : (t135.size : Int) ≤ (t136.size : Int)
              · rw [if_pos c118] at H
                have c118b0 : decide ((t135.size : Int) ≤ (t136.size : Int)) = true := decide_eq_true c118
                have c118b1 : decide (t135.size ≤ t136.size) = true := decide_eq_true (Int.ofNat_le.mp c118)
                clear c118
                by_cases c119 : (t135.size : Int) = x8_1
                · rw [if_pos c119] at H
                  have c119b0 : ((t135.size : Int) == x8_1) = true := beq_iff_eq.mpr c119
                  have c119b1 : ((t135.size : Int) != x8_1) = false := bne_eq_false_iff_eq.mpr c119
                  clear c119
                  by_cases c120 : (t135.size : Int) ≥ 1
                  · rw [if_pos c120] at H
                    have c120b0 : decide (1 ≤ (t135.size : Int)) = true := decide_eq_true c120
                    have c120b1 : decide (1 ≤ t135.size) = true := decide_eq_true (by omega)
                    clear c120
                    obtain rfl := Option.some.inj H
                    go_wp2_with (first | ((with_reducible refine gate_callee (f := 10) rfl ?_); refine goesL_ (some 37) rfl rfl Try.func10 (by kernel_rfl) rfl #[] rfl (by (try simp only [List.map_toArray, List.map_cons, List.map_nil]); first | done | rfl | (simp only [List.length_drop, List.length_take]; rfl)) ?_; (with_reducible refine (cleatlaw18_sent.calls k1  true _ A110.out).mono ?_); rintro e w121 ⟨rfl, hb⟩; refine ⟨_, rfl, ?_⟩; have n0_ := Aside0.mk (below_step (by repeat (first | (with_reducible first | exact HB.out | apply below_alloc | apply pw_below_drewN | apply below_drew1) | exact HB.out)) hb); clear HB; have HB := n0_; clear n0_; (try clear hb); (try clear hb2); (try clear hk); (try clear hi)))
                    go_ret
                    exact ⟨by first | rfl | (simp [errW_none, errW_some] <;> rfl) | (simp [*, errW_none, errW_some] <;> rfl), by repeat (first | (with_reducible first | exact HB.out | apply below_alloc | apply pw_below_drewN | apply below_drew1) | exact HB.out)⟩
                  · rw [if_neg c120] at H
                    have c120b0 : decide (1 ≤ (t135.size : Int)) = false := decide_eq_false c120
                    have c120b1 : decide (1 ≤ t135.size) = false := decide_eq_false (by omega)
                    clear c120
                    obtain rfl := Option.some.inj H
                    go_wp2_with (first | ((with_reducible refine gate_callee (f := 10) rfl ?_); refine goesL_ (some 37) rfl rfl Try.func10 (by kernel_rfl) rfl #[] rfl (by (try simp only [List.map_toArray, List.map_cons, List.map_nil]); first | done | rfl | (simp only [List.length_drop, List.length_take]; rfl)) ?_; (with_reducible refine (cleatlaw18_sent.calls k1  true _ A110.out).mono ?_); rintro e w122 ⟨rfl, hb⟩; refine ⟨_, rfl, ?_⟩; have n0_ := Aside0.mk (below_step (by repeat (first | (with_reducible first | exact HB.out | apply below_alloc | apply pw_below_drewN | apply below_drew1) | exact HB.out)) hb); clear HB; have HB := n0_; clear n0_; (try clear hb); (try clear hb2); (try clear hk); (try clear hi)))
                    go_ret
                    exact ⟨by first | rfl | (simp [errW_none, errW_some] <;> rfl) | (simp [*, errW_none, errW_some] <;> rfl), by repeat (first | (with_reducible first | exact HB.out | apply below_alloc | apply pw_below_drewN | apply below_drew1) | exact HB.out)⟩
                · rw [if_neg c119] at H
                  have c119b0 : ((t135.size : Int) == x8_1) = false := beq_eq_false_iff_ne.mpr c119
                  have c119b1 : ((t135.size : Int) != x8_1) = true := bne_iff_ne.mpr c119
                  obtain rfl := Option.some.inj H
                  go_wp2_with (first | ((with_reducible refine gate_callee (f := 10) rfl ?_); refine goesL_ (some 37) rfl rfl Try.func10 (by kernel_rfl) rfl #[] rfl (by (try simp only [List.map_toArray, List.map_cons, List.map_nil]); first | done | rfl | (simp only [List.length_drop, List.length_take]; rfl)) ?_; (with_reducible refine (cleatlaw18_sent.calls k1  true _ A110.out).mono ?_); rintro e w123 ⟨rfl, hb⟩; refine ⟨_, rfl, ?_⟩; have n0_ := Aside0.mk (below_step (by repeat (first | (with_reducible first | exact HB.out | apply below_alloc | apply pw_below_drewN | apply below_drew1) | exact HB.out)) hb); clear HB; have HB := n0_; clear n0_; (try clear hb); (try clear hb2); (try clear hk); (try clear hi)))
                  go_ret
                  exact ⟨by first | rfl | (simp [errW_none, errW_some] <;> rfl) | (simp [*, errW_none, errW_some] <;> rfl), by repeat (first | (with_reducible first | exact HB.out | apply below_alloc | apply pw_below_drewN | apply below_drew1) | exact HB.out)⟩
              · rw [if_neg c118] at H
                have c118b0 : decide ((t135.size : Int) ≤ (t136.size : Int)) = false := decide_eq_false c118
                have c118b1 : decide (t135.size ≤ t136.size) = false := decide_eq_false (fun h => c118 (Int.ofNat_le.mpr h))
                clear c118
                obtain rfl := Option.some.inj H
                go_wp2_with (first | ((with_reducible refine gate_callee (f := 10) rfl ?_); refine goesL_ (some 37) rfl rfl Try.func10 (by kernel_rfl) rfl #[] rfl (by (try simp only [List.map_toArray, List.map_cons, List.map_nil]); first | done | rfl | (simp only [List.length_drop, List.length_take]; rfl)) ?_; (with_reducible refine (cleatlaw18_sent.calls k1  true _ A110.out).mono ?_); rintro e w124 ⟨rfl, hb⟩; refine ⟨_, rfl, ?_⟩; have n0_ := Aside0.mk (below_step (by repeat (first | (with_reducible first | exact HB.out | apply below_alloc | apply pw_below_drewN | apply below_drew1) | exact HB.out)) hb); clear HB; have HB := n0_; clear n0_; (try clear hb); (try clear hb2); (try clear hk); (try clear hi)))
                go_ret
                exact ⟨by first | rfl | (simp [errW_none, errW_some] <;> rfl) | (simp [*, errW_none, errW_some] <;> rfl), by repeat (first | (with_reducible first | exact HB.out | apply below_alloc | apply pw_below_drewN | apply below_drew1) | exact HB.out)⟩
          · replace c111 := Bool.eq_false_iff.mpr c111
            subst c111
            have H1 : (some false) = some r := by rw [if_neg (show ¬ (false = true) by decide)] at H; exact H
            clear H
            have H := H1
            clear H1
            obtain rfl := Option.some.inj H
            go_wp2_with (first | ((with_reducible refine gate_callee (f := 10) rfl ?_); refine goesL_ (some 37) rfl rfl Try.func10 (by kernel_rfl) rfl #[] rfl (by (try simp only [List.map_toArray, List.map_cons, List.map_nil]); first | done | rfl | (simp only [List.length_drop, List.length_take]; rfl)) ?_; (with_reducible refine (cleatlaw18_sent.calls k1  false _ A110.out).mono ?_); rintro e w125 ⟨rfl, hb⟩; refine ⟨_, rfl, ?_⟩; have n0_ := Aside0.mk (below_step (by repeat (first | (with_reducible first | exact HB.out | apply below_alloc | apply pw_below_drewN | apply below_drew1) | exact HB.out)) hb); clear HB; have HB := n0_; clear n0_; (try clear hb); (try clear hb2); (try clear hk); (try clear hi)))
            go_ret
            exact ⟨by first | rfl | (simp [errW_none, errW_some] <;> rfl) | (simp [*, errW_none, errW_some] <;> rfl), by repeat (first | (with_reducible first | exact HB.out | apply below_alloc | apply pw_below_drewN | apply below_drew1) | exact HB.out)⟩

/-- THE ONE PURE STATEMENT of cleatlaw18_WireOrder: yours. -/
def cleatlaw18_WireOrder.Pure : Prop := ∀ (a0 : Int) (a1 : Int), (Lit.int .u64 a0).wf = true → (Lit.int .u64 a1).wf = true → ∃ k, cleatlaw18_WireOrder.f k a0 a1 = some true
theorem cleatlaw18_WireOrder.walk (P : cleatlaw18_WireOrder.Pure) (a0 : Int) (a1 : Int) (w : World) (w0 : (Lit.int .u64 a0).wf = true) (w1 : (Lit.int .u64 a1).wf = true) :
    Calls Try.prog 4 #[.int .u64 a0, .int .u64 a1] w fun e w' => e = .returned (.bool true) ∧ Below w.heap.size w w' := by
  obtain ⟨k, h⟩ := P a0 a1 w0 w1
  refine (cleatlaw18_WireOrder.calls k a0 a1 true w h).mono ?_
  rintro e w' ⟨rfl, hd⟩
  exact ⟨rfl, hd⟩

end Go.Proofs.Ytbjacjileomglaa.P
