-- printed by wip/tools/myprint.py out of the translation. Not trusted: Lean checks it.
import Derived.Test.YtgonbeifaioheaaDoorPx0
import Derived.Test.YtgonbeifaioheaaDoorPx2
import Derived.Test.YtgonbeifaioheaaDoorPx5
import Derived.Test.YtgonbeifaioheaaDoorPx10
import Derived.Test.YtgonbeifaioheaaDoorPx11
namespace Go.Proofs.YtgonbeifaioheaaDoor.P
open Go.RowKit Go.Proofs.YtgonbeifaioheaaDoorW.PrintWords Go.Proofs.YtgonbeifaioheaaDoorW.PrintLast Go.Proofs.YtgonbeifaioheaaDoorW.PrintMore
attribute [local go_sem] max2_int min2_int max_two min_two max_three min_three max_four min_four   -- for this text's walks alone
set_option linter.unusedVariables false
set_option linter.unusedSimpArgs false

-- NOT PRINTED: function 3 (cleatlaw04_InstDoes)

/-! ### cleatlaw04_has: function 17 -/
def cleatlaw04_has.l0 : Nat → List Int → Int → Int → Option (Bool)
 | 0, _, _, _ => none
 | k + 1, x0, x1, x5 => if x5 < (x0.length : Int) then (if 0 ≤ x5 then (if (rd x0 x5) = x1 then (some true) else (cleatlaw04_has.l0 k x0 x1 (wrap64 (x5 + 1)))) else (none)) else (some false)
def cleatlaw04_has.f (k : Nat) (l0 : List Int) (a1 : Int) : Option (Bool) := cleatlaw04_has.l0 k l0 a1 0
theorem cleatlaw04_has.mono_l : ∀ k, (∀ y0 y1 y2, LeO (cleatlaw04_has.l0 k y0 y1 y2) (cleatlaw04_has.l0 (k + 1) y0 y1 y2))
 | 0 => fun _ _ _ r h => by simp [cleatlaw04_has.l0] at h
 | k + 1 => by
  have ih0 := cleatlaw04_has.mono_l k
  ·intro y0 y1 y2
   unfold cleatlaw04_has.l0
   repeat' first
   | (with_reducible exact ih0 _ _ _)
   | (with_reducible exact LeO.refl _)
   | (with_reducible exact LeO.none _)
   | (with_reducible refine LeO.ite ?_ ?_)
   | (with_reducible refine LeO.bind ?_ (fun _ => ?_))
   | exact ih0 _ _ _
   | exact LeO.none _
   | refine LeO.ite ?_ ?_
   | refine LeO.bind ?_ (fun _ => ?_)
theorem cleatlaw04_has.mono : ∀ a0 a1 k, LeO (cleatlaw04_has.f k a0 a1) (cleatlaw04_has.f (k + 1) a0 a1) := by
 intro a0 a1 k
 have ih0 := cleatlaw04_has.mono_l k
 unfold cleatlaw04_has.f
 repeat' first
   | (with_reducible exact ih0 _ _ _)
   | (with_reducible exact LeO.refl _)
   | (with_reducible exact LeO.none _)
   | (with_reducible refine LeO.ite ?_ ?_)
   | (with_reducible refine LeO.bind ?_ (fun _ => ?_))
   | exact ih0 _ _ _
   | exact LeO.none _
   | refine LeO.ite ?_ ?_
   | refine LeO.bind ?_ (fun _ => ?_)
set_option maxHeartbeats 8000000 in
set_option maxRecDepth 100000 in
theorem cleatlaw04_has.calls (k : Nat) (A0 : Option Addr) (c0 : Nat) (l0 : List Int) (a1 : Int) (r : Bool) (w : World) (hr0 : Kd.C (Kd.int .i64) w A0 l0.length l0) (hc0 : l0.length ≤ c0) (h : cleatlaw04_has.f k l0 a1 = some r) :
  Calls Tryd.prog 17 #[.slice A0 l0.length c0, .int .i64 a1] w fun e w' => e = .returned (.bool r) ∧ Drawn0 w w' := by
 have HR0 := Aside0.mk hr0
 have HC0 := Aside0.mk hc0
 clear hr0 hc0
 have H : (cleatlaw04_has.l0 k l0 a1 0) = some r := h
 clear h
 have H' := Aside0.mk H
 clear H
 go_enter Tryd.func17, Tryd.ntmps17
 go_wp2
 go_loopg [5] k (fun kq v5 w' => ∃ (x5_1 : Int), v5 = .int .i64 x5_1 ∧ Aside0 (cleatlaw04_has.l0 kq l0 a1 x5_1 = some r) ∧ Aside0 (kq ≤ k) ∧ Drawn0 w w')
 case atStart => exact ⟨(0), (by first | rfl | (simp; done) | (simp [*]; done)), H', ⟨Nat.le_refl _⟩, by repeat (first | exact Drawn0.refl _ | apply Drawn0.step)⟩
 case round =>
  clear H'
  try clear c1
  try clear p2
  obtain ⟨x5_1, rfl, HA, HK1, ⟨m1, rfl⟩⟩ := hrel
  cases gk with
  | zero => exact absurd HA.out (by simp [cleatlaw04_has.l0])
  | succ k1 =>
   have H := HA.out
   clear HA
   simp only [cleatlaw04_has.l0] at H
   by_cases c3 : x5_1 < (l0.length : Int)
   ·rw [if_pos c3] at H
    have c3b0 : decide (x5_1 < (l0.length : Int)) = true := decide_eq_true c3
    clear c3
    by_cases c4 : 0 ≤ x5_1
    ·rw [if_pos c4] at H
     have c4b0 : decide (0 ≤ x5_1) = true := decide_eq_true c4
     clear c4
     by_cases c5 : (rd l0 x5_1) = a1
     ·rw [if_pos c5] at H
      have c5b0 : ((rd l0 x5_1) == a1) = true := beq_iff_eq.mpr c5
      have c5b1 : ((rd l0 x5_1) != a1) = false := bne_eq_false_iff_eq.mpr c5
      clear c5
      obtain rfl := Option.some.inj H
      have p299 : 0 ≤ (x5_1 : Int) := of_decide_eq_true (by first | (with_reducible assumption) | assumption)
      have q299 : x5_1 < (l0.length : Int) := of_decide_eq_true (by first | (with_reducible assumption) | assumption)
      obtain ⟨ad299, e299, hx299_0⟩ := Kd.at_int HR0.out x5_1 p299 q299
      cases e299
      replace p299 := eq_true p299
      replace q299 := eq_true q299
      go_wp2
      go_ret
      exact ⟨by first | rfl | (simp; done) | (simp [*]; done), by repeat (first | exact Drawn0.refl _ | apply Drawn0.step)⟩
     ·rw [if_neg c5] at H
      have c5b0 : ((rd l0 x5_1) == a1) = false := beq_eq_false_iff_ne.mpr c5
      have c5b1 : ((rd l0 x5_1) != a1) = true := bne_iff_ne.mpr c5
      have H' := Aside0.mk H
      clear H
      have p299 : 0 ≤ (x5_1 : Int) := of_decide_eq_true (by first | (with_reducible assumption) | assumption)
      have q299 : x5_1 < (l0.length : Int) := of_decide_eq_true (by first | (with_reducible assumption) | assumption)
      obtain ⟨ad299, e299, hx299_0⟩ := Kd.at_int HR0.out x5_1 p299 q299
      cases e299
      replace p299 := eq_true p299
      replace q299 := eq_true q299
      go_wp2
      go_roundg k1
      case measure => have := HK1.out; omega
      case rel => exact ⟨(wrap64 (x5_1 + 1)), (by first | rfl | (simp; done) | (simp [*]; done)), H', ⟨by have := HK1.out; omega⟩, by repeat (first | exact Drawn0.refl _ | apply Drawn0.step)⟩
    ·rw [if_neg c4] at H
     exact absurd H (by simp)
   ·rw [if_neg c3] at H
    have c3b0 : decide (x5_1 < (l0.length : Int)) = false := decide_eq_false c3
    clear c3
    obtain rfl := Option.some.inj H
    go_wp2
    go_ret
    exact ⟨by first | rfl | (simp; done) | (simp [*]; done), by repeat (first | exact Drawn0.refl _ | apply Drawn0.step)⟩

-- NOT PRINTED: function 4 (cleatlaw04_InstOwn)

-- NOT PRINTED: function 5 (cleatlaw04_InstRenamed)

-- NOT PRINTED: function 6 (cleatlaw04_InstMask)

/-! ### cleatref04_names: function 42 -/
def cleatref04_names.f  : Option (List ByteArray) := some (([(⟨#[]⟩ : ByteArray), (⟨#[109, 111, 118, 122]⟩ : ByteArray), (⟨#[109, 111, 118, 110]⟩ : ByteArray), (⟨#[109, 111, 118, 107]⟩ : ByteArray), (⟨#[97, 100, 100]⟩ : ByteArray), (⟨#[115, 117, 98]⟩ : ByteArray), (⟨#[97, 100, 100, 115]⟩ : ByteArray), (⟨#[115, 117, 98, 115]⟩ : ByteArray), (⟨#[97, 110, 100]⟩ : ByteArray), (⟨#[111, 114, 114]⟩ : ByteArray), (⟨#[101, 111, 114]⟩ : ByteArray), (⟨#[97, 110, 100, 115]⟩ : ByteArray), (⟨#[97, 100, 100]⟩ : ByteArray), (⟨#[115, 117, 98]⟩ : ByteArray), (⟨#[97, 100, 100, 115]⟩ : ByteArray), (⟨#[115, 117, 98, 115]⟩ : ByteArray), (⟨#[97, 110, 100]⟩ : ByteArray), (⟨#[111, 114, 114]⟩ : ByteArray), (⟨#[101, 111, 114]⟩ : ByteArray), (⟨#[97, 110, 100, 115]⟩ : ByteArray), (⟨#[109, 97, 100, 100]⟩ : ByteArray), (⟨#[109, 115, 117, 98]⟩ : ByteArray), (⟨#[108, 100, 114]⟩ : ByteArray), (⟨#[115, 116, 114]⟩ : ByteArray), (⟨#[108, 100, 114, 98]⟩ : ByteArray), (⟨#[115, 116, 114, 98]⟩ : ByteArray), (⟨#[108, 100, 114]⟩ : ByteArray), (⟨#[97, 100, 114]⟩ : ByteArray), (⟨#[97, 100, 114, 112]⟩ : ByteArray), (⟨#[98]⟩ : ByteArray), (⟨#[98, 108]⟩ : ByteArray), (⟨#[98]⟩ : ByteArray), (⟨#[99, 98, 122]⟩ : ByteArray), (⟨#[99, 98, 110, 122]⟩ : ByteArray), (⟨#[98, 114]⟩ : ByteArray), (⟨#[98, 108, 114]⟩ : ByteArray), (⟨#[114, 101, 116]⟩ : ByteArray), (⟨#[115, 118, 99]⟩ : ByteArray), (⟨#[110, 111, 112]⟩ : ByteArray), (⟨#[99, 115, 101, 108]⟩ : ByteArray)] : List ByteArray))
set_option maxHeartbeats 8000000 in
set_option maxRecDepth 100000 in
theorem cleatref04_names.calls  (r : List ByteArray) (w : World) (h : cleatref04_names.f  = some r) :
  Calls Tryd.prog 42 #[] w fun e w' => ∃ v0_ : Value, e = .returned (v0_) ∧ Kd.R Kd.string 9 w' w.heap.size (fun _ => True) v0_ r ∧ Below w.heap.size w w' := by
 have HB := Aside0.mk (Below.refl w.heap.size w)
 have H : (some (([(⟨#[]⟩ : ByteArray), (⟨#[109, 111, 118, 122]⟩ : ByteArray), (⟨#[109, 111, 118, 110]⟩ : ByteArray), (⟨#[109, 111, 118, 107]⟩ : ByteArray), (⟨#[97, 100, 100]⟩ : ByteArray), (⟨#[115, 117, 98]⟩ : ByteArray), (⟨#[97, 100, 100, 115]⟩ : ByteArray), (⟨#[115, 117, 98, 115]⟩ : ByteArray), (⟨#[97, 110, 100]⟩ : ByteArray), (⟨#[111, 114, 114]⟩ : ByteArray), (⟨#[101, 111, 114]⟩ : ByteArray), (⟨#[97, 110, 100, 115]⟩ : ByteArray), (⟨#[97, 100, 100]⟩ : ByteArray), (⟨#[115, 117, 98]⟩ : ByteArray), (⟨#[97, 100, 100, 115]⟩ : ByteArray), (⟨#[115, 117, 98, 115]⟩ : ByteArray), (⟨#[97, 110, 100]⟩ : ByteArray), (⟨#[111, 114, 114]⟩ : ByteArray), (⟨#[101, 111, 114]⟩ : ByteArray), (⟨#[97, 110, 100, 115]⟩ : ByteArray), (⟨#[109, 97, 100, 100]⟩ : ByteArray), (⟨#[109, 115, 117, 98]⟩ : ByteArray), (⟨#[108, 100, 114]⟩ : ByteArray), (⟨#[115, 116, 114]⟩ : ByteArray), (⟨#[108, 100, 114, 98]⟩ : ByteArray), (⟨#[115, 116, 114, 98]⟩ : ByteArray), (⟨#[108, 100, 114]⟩ : ByteArray), (⟨#[97, 100, 114]⟩ : ByteArray), (⟨#[97, 100, 114, 112]⟩ : ByteArray), (⟨#[98]⟩ : ByteArray), (⟨#[98, 108]⟩ : ByteArray), (⟨#[98]⟩ : ByteArray), (⟨#[99, 98, 122]⟩ : ByteArray), (⟨#[99, 98, 110, 122]⟩ : ByteArray), (⟨#[98, 114]⟩ : ByteArray), (⟨#[98, 108, 114]⟩ : ByteArray), (⟨#[114, 101, 116]⟩ : ByteArray), (⟨#[115, 118, 99]⟩ : ByteArray), (⟨#[110, 111, 112]⟩ : ByteArray), (⟨#[99, 115, 101, 108]⟩ : ByteArray)] : List ByteArray))) = some r := h
 clear h
 obtain ⟨y331, hy331⟩ : ∃ y_ : List ByteArray, y_ = (([(⟨#[]⟩ : ByteArray), (⟨#[109, 111, 118, 122]⟩ : ByteArray), (⟨#[109, 111, 118, 110]⟩ : ByteArray), (⟨#[109, 111, 118, 107]⟩ : ByteArray), (⟨#[97, 100, 100]⟩ : ByteArray), (⟨#[115, 117, 98]⟩ : ByteArray), (⟨#[97, 100, 100, 115]⟩ : ByteArray), (⟨#[115, 117, 98, 115]⟩ : ByteArray), (⟨#[97, 110, 100]⟩ : ByteArray), (⟨#[111, 114, 114]⟩ : ByteArray), (⟨#[101, 111, 114]⟩ : ByteArray), (⟨#[97, 110, 100, 115]⟩ : ByteArray), (⟨#[97, 100, 100]⟩ : ByteArray), (⟨#[115, 117, 98]⟩ : ByteArray), (⟨#[97, 100, 100, 115]⟩ : ByteArray), (⟨#[115, 117, 98, 115]⟩ : ByteArray), (⟨#[97, 110, 100]⟩ : ByteArray), (⟨#[111, 114, 114]⟩ : ByteArray), (⟨#[101, 111, 114]⟩ : ByteArray), (⟨#[97, 110, 100, 115]⟩ : ByteArray), (⟨#[109, 97, 100, 100]⟩ : ByteArray), (⟨#[109, 115, 117, 98]⟩ : ByteArray), (⟨#[108, 100, 114]⟩ : ByteArray), (⟨#[115, 116, 114]⟩ : ByteArray), (⟨#[108, 100, 114, 98]⟩ : ByteArray), (⟨#[115, 116, 114, 98]⟩ : ByteArray), (⟨#[108, 100, 114]⟩ : ByteArray), (⟨#[97, 100, 114]⟩ : ByteArray), (⟨#[97, 100, 114, 112]⟩ : ByteArray), (⟨#[98]⟩ : ByteArray), (⟨#[98, 108]⟩ : ByteArray), (⟨#[98]⟩ : ByteArray), (⟨#[99, 98, 122]⟩ : ByteArray), (⟨#[99, 98, 110, 122]⟩ : ByteArray), (⟨#[98, 114]⟩ : ByteArray), (⟨#[98, 108, 114]⟩ : ByteArray), (⟨#[114, 101, 116]⟩ : ByteArray), (⟨#[115, 118, 99]⟩ : ByteArray), (⟨#[110, 111, 112]⟩ : ByteArray), (⟨#[99, 115, 101, 108]⟩ : ByteArray)] : List ByteArray)) := ⟨_, rfl⟩
 replace H : (some y331) = some r := by first | (rw [hy331]; with_reducible exact H) | (have H2_ := (Option.bind_some _ _).symm.trans H; rw [hy331]; with_reducible exact H2_) | (have H2_ := (Option.bind_some _ _).symm.trans H; with_reducible exact H2_) | with_reducible exact H | (rw [hy331]; exact H) | exact H
 have Ny331 := Aside0.mk hy331
 clear hy331
 obtain rfl := Option.some.inj H
 go_enter Tryd.func42, Tryd.ntmps42
 go_wp2_with (first | ((with_reducible refine gate_dst (N := 1) rfl ?_); refine Kd.R_lit Kd.string _ 9 ?hg (N := 1) ?hd (xs := ([(⟨#[]⟩ : ByteArray), (⟨#[109, 111, 118, 122]⟩ : ByteArray), (⟨#[109, 111, 118, 110]⟩ : ByteArray), (⟨#[109, 111, 118, 107]⟩ : ByteArray), (⟨#[97, 100, 100]⟩ : ByteArray), (⟨#[115, 117, 98]⟩ : ByteArray), (⟨#[97, 100, 100, 115]⟩ : ByteArray), (⟨#[115, 117, 98, 115]⟩ : ByteArray), (⟨#[97, 110, 100]⟩ : ByteArray), (⟨#[111, 114, 114]⟩ : ByteArray), (⟨#[101, 111, 114]⟩ : ByteArray), (⟨#[97, 110, 100, 115]⟩ : ByteArray), (⟨#[97, 100, 100]⟩ : ByteArray), (⟨#[115, 117, 98]⟩ : ByteArray), (⟨#[97, 100, 100, 115]⟩ : ByteArray), (⟨#[115, 117, 98, 115]⟩ : ByteArray), (⟨#[97, 110, 100]⟩ : ByteArray), (⟨#[111, 114, 114]⟩ : ByteArray), (⟨#[101, 111, 114]⟩ : ByteArray), (⟨#[97, 110, 100, 115]⟩ : ByteArray), (⟨#[109, 97, 100, 100]⟩ : ByteArray), (⟨#[109, 115, 117, 98]⟩ : ByteArray), (⟨#[108, 100, 114]⟩ : ByteArray), (⟨#[115, 116, 114]⟩ : ByteArray), (⟨#[108, 100, 114, 98]⟩ : ByteArray), (⟨#[115, 116, 114, 98]⟩ : ByteArray), (⟨#[108, 100, 114]⟩ : ByteArray), (⟨#[97, 100, 114]⟩ : ByteArray), (⟨#[97, 100, 114, 112]⟩ : ByteArray), (⟨#[98]⟩ : ByteArray), (⟨#[98, 108]⟩ : ByteArray), (⟨#[98]⟩ : ByteArray), (⟨#[99, 98, 122]⟩ : ByteArray), (⟨#[99, 98, 110, 122]⟩ : ByteArray), (⟨#[98, 114]⟩ : ByteArray), (⟨#[98, 108, 114]⟩ : ByteArray), (⟨#[114, 101, 116]⟩ : ByteArray), (⟨#[115, 118, 99]⟩ : ByteArray), (⟨#[110, 111, 112]⟩ : ByteArray), (⟨#[99, 115, 101, 108]⟩ : ByteArray)] : List ByteArray)) (inner := [.string (⟨#[]⟩ : ByteArray), .string (⟨#[109, 111, 118, 122]⟩ : ByteArray), .string (⟨#[109, 111, 118, 110]⟩ : ByteArray), .string (⟨#[109, 111, 118, 107]⟩ : ByteArray), .string (⟨#[97, 100, 100]⟩ : ByteArray), .string (⟨#[115, 117, 98]⟩ : ByteArray), .string (⟨#[97, 100, 100, 115]⟩ : ByteArray), .string (⟨#[115, 117, 98, 115]⟩ : ByteArray), .string (⟨#[97, 110, 100]⟩ : ByteArray), .string (⟨#[111, 114, 114]⟩ : ByteArray), .string (⟨#[101, 111, 114]⟩ : ByteArray), .string (⟨#[97, 110, 100, 115]⟩ : ByteArray), .string (⟨#[97, 100, 100]⟩ : ByteArray), .string (⟨#[115, 117, 98]⟩ : ByteArray), .string (⟨#[97, 100, 100, 115]⟩ : ByteArray), .string (⟨#[115, 117, 98, 115]⟩ : ByteArray), .string (⟨#[97, 110, 100]⟩ : ByteArray), .string (⟨#[111, 114, 114]⟩ : ByteArray), .string (⟨#[101, 111, 114]⟩ : ByteArray), .string (⟨#[97, 110, 100, 115]⟩ : ByteArray), .string (⟨#[109, 97, 100, 100]⟩ : ByteArray), .string (⟨#[109, 115, 117, 98]⟩ : ByteArray), .string (⟨#[108, 100, 114]⟩ : ByteArray), .string (⟨#[115, 116, 114]⟩ : ByteArray), .string (⟨#[108, 100, 114, 98]⟩ : ByteArray), .string (⟨#[115, 116, 114, 98]⟩ : ByteArray), .string (⟨#[108, 100, 114]⟩ : ByteArray), .string (⟨#[97, 100, 114]⟩ : ByteArray), .string (⟨#[97, 100, 114, 112]⟩ : ByteArray), .string (⟨#[98]⟩ : ByteArray), .string (⟨#[98, 108]⟩ : ByteArray), .string (⟨#[98]⟩ : ByteArray), .string (⟨#[99, 98, 122]⟩ : ByteArray), .string (⟨#[99, 98, 110, 122]⟩ : ByteArray), .string (⟨#[98, 114]⟩ : ByteArray), .string (⟨#[98, 108, 114]⟩ : ByteArray), .string (⟨#[114, 101, 116]⟩ : ByteArray), .string (⟨#[115, 118, 99]⟩ : ByteArray), .string (⟨#[110, 111, 112]⟩ : ByteArray), .string (⟨#[99, 115, 101, 108]⟩ : ByteArray)]) (ok := fun _ => True) (okp := fun _ => True) ?hr ?hp (fun _ hk => hk) trivial (Below.refl _ _) (Nat.le_refl _) (by simp) ?_; (case hd => rfl); (case hg => rfl); (case hr => first | (go_simp; done) | (go_simp; rfl)); (case hp => exact (Reps.one (show Kd.M Kd.string _ _ _ (⟨#[]⟩ : ByteArray) [.string (⟨#[]⟩ : ByteArray)] from rfl) (Reps.one (show Kd.M Kd.string _ _ _ (⟨#[109, 111, 118, 122]⟩ : ByteArray) [.string (⟨#[109, 111, 118, 122]⟩ : ByteArray)] from rfl) (Reps.one (show Kd.M Kd.string _ _ _ (⟨#[109, 111, 118, 110]⟩ : ByteArray) [.string (⟨#[109, 111, 118, 110]⟩ : ByteArray)] from rfl) (Reps.one (show Kd.M Kd.string _ _ _ (⟨#[109, 111, 118, 107]⟩ : ByteArray) [.string (⟨#[109, 111, 118, 107]⟩ : ByteArray)] from rfl) (Reps.one (show Kd.M Kd.string _ _ _ (⟨#[97, 100, 100]⟩ : ByteArray) [.string (⟨#[97, 100, 100]⟩ : ByteArray)] from rfl) (Reps.one (show Kd.M Kd.string _ _ _ (⟨#[115, 117, 98]⟩ : ByteArray) [.string (⟨#[115, 117, 98]⟩ : ByteArray)] from rfl) (Reps.one (show Kd.M Kd.string _ _ _ (⟨#[97, 100, 100, 115]⟩ : ByteArray) [.string (⟨#[97, 100, 100, 115]⟩ : ByteArray)] from rfl) (Reps.one (show Kd.M Kd.string _ _ _ (⟨#[115, 117, 98, 115]⟩ : ByteArray) [.string (⟨#[115, 117, 98, 115]⟩ : ByteArray)] from rfl) (Reps.one (show Kd.M Kd.string _ _ _ (⟨#[97, 110, 100]⟩ : ByteArray) [.string (⟨#[97, 110, 100]⟩ : ByteArray)] from rfl) (Reps.one (show Kd.M Kd.string _ _ _ (⟨#[111, 114, 114]⟩ : ByteArray) [.string (⟨#[111, 114, 114]⟩ : ByteArray)] from rfl) (Reps.one (show Kd.M Kd.string _ _ _ (⟨#[101, 111, 114]⟩ : ByteArray) [.string (⟨#[101, 111, 114]⟩ : ByteArray)] from rfl) (Reps.one (show Kd.M Kd.string _ _ _ (⟨#[97, 110, 100, 115]⟩ : ByteArray) [.string (⟨#[97, 110, 100, 115]⟩ : ByteArray)] from rfl) (Reps.one (show Kd.M Kd.string _ _ _ (⟨#[97, 100, 100]⟩ : ByteArray) [.string (⟨#[97, 100, 100]⟩ : ByteArray)] from rfl) (Reps.one (show Kd.M Kd.string _ _ _ (⟨#[115, 117, 98]⟩ : ByteArray) [.string (⟨#[115, 117, 98]⟩ : ByteArray)] from rfl) (Reps.one (show Kd.M Kd.string _ _ _ (⟨#[97, 100, 100, 115]⟩ : ByteArray) [.string (⟨#[97, 100, 100, 115]⟩ : ByteArray)] from rfl) (Reps.one (show Kd.M Kd.string _ _ _ (⟨#[115, 117, 98, 115]⟩ : ByteArray) [.string (⟨#[115, 117, 98, 115]⟩ : ByteArray)] from rfl) (Reps.one (show Kd.M Kd.string _ _ _ (⟨#[97, 110, 100]⟩ : ByteArray) [.string (⟨#[97, 110, 100]⟩ : ByteArray)] from rfl) (Reps.one (show Kd.M Kd.string _ _ _ (⟨#[111, 114, 114]⟩ : ByteArray) [.string (⟨#[111, 114, 114]⟩ : ByteArray)] from rfl) (Reps.one (show Kd.M Kd.string _ _ _ (⟨#[101, 111, 114]⟩ : ByteArray) [.string (⟨#[101, 111, 114]⟩ : ByteArray)] from rfl) (Reps.one (show Kd.M Kd.string _ _ _ (⟨#[97, 110, 100, 115]⟩ : ByteArray) [.string (⟨#[97, 110, 100, 115]⟩ : ByteArray)] from rfl) (Reps.one (show Kd.M Kd.string _ _ _ (⟨#[109, 97, 100, 100]⟩ : ByteArray) [.string (⟨#[109, 97, 100, 100]⟩ : ByteArray)] from rfl) (Reps.one (show Kd.M Kd.string _ _ _ (⟨#[109, 115, 117, 98]⟩ : ByteArray) [.string (⟨#[109, 115, 117, 98]⟩ : ByteArray)] from rfl) (Reps.one (show Kd.M Kd.string _ _ _ (⟨#[108, 100, 114]⟩ : ByteArray) [.string (⟨#[108, 100, 114]⟩ : ByteArray)] from rfl) (Reps.one (show Kd.M Kd.string _ _ _ (⟨#[115, 116, 114]⟩ : ByteArray) [.string (⟨#[115, 116, 114]⟩ : ByteArray)] from rfl) (Reps.one (show Kd.M Kd.string _ _ _ (⟨#[108, 100, 114, 98]⟩ : ByteArray) [.string (⟨#[108, 100, 114, 98]⟩ : ByteArray)] from rfl) (Reps.one (show Kd.M Kd.string _ _ _ (⟨#[115, 116, 114, 98]⟩ : ByteArray) [.string (⟨#[115, 116, 114, 98]⟩ : ByteArray)] from rfl) (Reps.one (show Kd.M Kd.string _ _ _ (⟨#[108, 100, 114]⟩ : ByteArray) [.string (⟨#[108, 100, 114]⟩ : ByteArray)] from rfl) (Reps.one (show Kd.M Kd.string _ _ _ (⟨#[97, 100, 114]⟩ : ByteArray) [.string (⟨#[97, 100, 114]⟩ : ByteArray)] from rfl) (Reps.one (show Kd.M Kd.string _ _ _ (⟨#[97, 100, 114, 112]⟩ : ByteArray) [.string (⟨#[97, 100, 114, 112]⟩ : ByteArray)] from rfl) (Reps.one (show Kd.M Kd.string _ _ _ (⟨#[98]⟩ : ByteArray) [.string (⟨#[98]⟩ : ByteArray)] from rfl) (Reps.one (show Kd.M Kd.string _ _ _ (⟨#[98, 108]⟩ : ByteArray) [.string (⟨#[98, 108]⟩ : ByteArray)] from rfl) (Reps.one (show Kd.M Kd.string _ _ _ (⟨#[98]⟩ : ByteArray) [.string (⟨#[98]⟩ : ByteArray)] from rfl) (Reps.one (show Kd.M Kd.string _ _ _ (⟨#[99, 98, 122]⟩ : ByteArray) [.string (⟨#[99, 98, 122]⟩ : ByteArray)] from rfl) (Reps.one (show Kd.M Kd.string _ _ _ (⟨#[99, 98, 110, 122]⟩ : ByteArray) [.string (⟨#[99, 98, 110, 122]⟩ : ByteArray)] from rfl) (Reps.one (show Kd.M Kd.string _ _ _ (⟨#[98, 114]⟩ : ByteArray) [.string (⟨#[98, 114]⟩ : ByteArray)] from rfl) (Reps.one (show Kd.M Kd.string _ _ _ (⟨#[98, 108, 114]⟩ : ByteArray) [.string (⟨#[98, 108, 114]⟩ : ByteArray)] from rfl) (Reps.one (show Kd.M Kd.string _ _ _ (⟨#[114, 101, 116]⟩ : ByteArray) [.string (⟨#[114, 101, 116]⟩ : ByteArray)] from rfl) (Reps.one (show Kd.M Kd.string _ _ _ (⟨#[115, 118, 99]⟩ : ByteArray) [.string (⟨#[115, 118, 99]⟩ : ByteArray)] from rfl) (Reps.one (show Kd.M Kd.string _ _ _ (⟨#[110, 111, 112]⟩ : ByteArray) [.string (⟨#[110, 111, 112]⟩ : ByteArray)] from rfl) (Reps.one (show Kd.M Kd.string _ _ _ (⟨#[99, 115, 101, 108]⟩ : ByteArray) [.string (⟨#[99, 115, 101, 108]⟩ : ByteArray)] from rfl) (Reps.none _ _)))))))))))))))))))))))))))))))))))))))))); intro v332 w1 ho2 hb hg_ hnew_; clear hg_ hnew_; (first | rw [← Ny331.out] at ho2 | (simp only [Int.reduceToNat] at ho2; rw [← Ny331.out] at ho2)); have n0_ := Aside0.mk (Kd.R_lower ho2 (below_size (by repeat (first | (with_reducible first | exact HB.out | apply below_alloc | apply pw_below_drewN | apply below_drew1) | exact HB.out)))); have n1_ := Aside0.mk (below_step (by repeat (first | (with_reducible first | exact HB.out | apply below_alloc | apply pw_below_drewN | apply below_drew1) | exact HB.out)) hb); clear HB; have HO333 := n0_; have HB := n1_; clear n0_ n1_; clear hb ho2))
 go_ret
 exact ⟨_, by first | rfl | (simp [errW_none, errW_some] <;> rfl) | (simp [*, errW_none, errW_some] <;> rfl), by (with_reducible repeat (first | apply Kd.R_alloc | apply Kd.R_drewN | apply Kd.R_drew)); exact HO333.out, by repeat (first | (with_reducible first | exact HB.out | apply below_alloc | apply pw_below_drewN | apply below_drew1) | exact HB.out)⟩

/-! ### cleatref04_Name: function 22 -/
def cleatref04_Name.f (a0 : Int) : Option (ByteArray × Int) := (cleatref04_Shape.f a0).bind fun t334 => (if t334 = 0 then (some ((⟨#[]⟩ : ByteArray), 1)) else ((cleatref04_names.f).bind fun t335 => (if 0 ≤ a0 then (if a0 < (t335.length : Int) then (some (rdOf ByteArray.empty t335 a0, 0)) else (none)) else (none))))
set_option maxHeartbeats 8000000 in
set_option maxRecDepth 100000 in
theorem cleatref04_Name.calls (a0 : Int) (r1 : ByteArray) (r2 : Int) (w : World) (h : cleatref04_Name.f a0 = some (r1, r2)) :
  Calls Tryd.prog 22 #[.int .i64 a0] w fun e w' => e = .returned (.tuple #[.string r1, .int .i64 r2]) ∧ Below w.heap.size w w' := by
 have HB := Aside0.mk (Below.refl w.heap.size w)
 have H : ((cleatref04_Shape.f a0).bind fun t334 => (if t334 = 0 then (some ((⟨#[]⟩ : ByteArray), 1)) else ((cleatref04_names.f).bind fun t335 => (if 0 ≤ a0 then (if a0 < (t335.length : Int) then (some (rdOf ByteArray.empty t335 a0, 0)) else (none)) else (none))))) = some (r1, r2) := h
 clear h
 replace H := Option.bind_eq_some_iff.mp H
 obtain ⟨t334, A20, H⟩ := H
 replace H : (if t334 = 0 then (some ((⟨#[]⟩ : ByteArray), 1)) else ((cleatref04_names.f).bind fun t335 => (if 0 ≤ a0 then (if a0 < (t335.length : Int) then (some (rdOf ByteArray.empty t335 a0, 0)) else (none)) else (none)))) = some (r1, r2) := H
 have A2 := Aside0.mk A20
 clear A20
 by_cases c3 : t334 = 0
 ·rw [if_pos c3] at H
  have c3b0 : (t334 == 0) = true := beq_iff_eq.mpr c3
  have c3b1 : (t334 != 0) = false := bne_eq_false_iff_eq.mpr c3
  clear c3
  simp only [Option.some.injEq, Prod.mk.injEq] at H
  obtain ⟨rfl, rfl⟩ := H
  go_enter Tryd.func22, Tryd.ntmps22
  go_wp2_with (first | ((with_reducible refine gate_callee (f := 23) rfl ?_); refine goesL_ (some 6) rfl rfl Tryd.func23 (by kernel_rfl) rfl #[.int .i64 a0] rfl (by (try simp only [List.map_toArray, List.map_cons, List.map_nil]); first | done | rfl | (simp only [List.length_drop, List.length_take]; rfl)) ?_; (with_reducible refine (cleatref04_Shape.calls a0 t334 _ A2.out).mono ?_); rintro e w4 ⟨rfl, hb⟩; refine ⟨_, rfl, ?_⟩; have n0_ := Aside0.mk (below_step (by repeat (first | (with_reducible first | exact HB.out | apply below_alloc | apply pw_below_drewN | apply below_drew1) | exact HB.out)) hb); clear HB; have HB := n0_; clear n0_; (try clear hb); (try clear hb2); (try clear hk); (try clear hi)))
  go_ret2
  exact ⟨by first | rfl | (simp [errW_none, errW_some] <;> rfl) | (simp [*, errW_none, errW_some] <;> rfl), by repeat (first | (with_reducible first | exact HB.out | apply below_alloc | apply pw_below_drewN | apply below_drew1) | exact HB.out)⟩
 ·rw [if_neg c3] at H
  have c3b0 : (t334 == 0) = false := beq_eq_false_iff_ne.mpr c3
  have c3b1 : (t334 != 0) = true := bne_iff_ne.mpr c3
  replace H := Option.bind_eq_some_iff.mp H
  obtain ⟨t335, A50, H⟩ := H
  replace H : (if 0 ≤ a0 then (if a0 < (t335.length : Int) then (some (rdOf ByteArray.empty t335 a0, 0)) else (none)) else (none)) = some (r1, r2) := H
  have A5 := Aside0.mk A50
  clear A50
  by_cases c6 : 0 ≤ a0
  ·rw [if_pos c6] at H
   have c6b0 : decide (0 ≤ a0) = true := decide_eq_true c6
   clear c6
   by_cases c7 : a0 < (t335.length : Int)
   ·rw [if_pos c7] at H
    have c7b0 : decide (a0 < (t335.length : Int)) = true := decide_eq_true c7
    clear c7
    simp only [Option.some.injEq, Prod.mk.injEq] at H
    obtain ⟨rfl, rfl⟩ := H
    go_enter Tryd.func22, Tryd.ntmps22
    go_wp2_with (first | ((with_reducible refine gate_callee (f := 23) rfl ?_); refine goesL_ (some 6) rfl rfl Tryd.func23 (by kernel_rfl) rfl #[.int .i64 a0] rfl (by (try simp only [List.map_toArray, List.map_cons, List.map_nil]); first | done | rfl | (simp only [List.length_drop, List.length_take]; rfl)) ?_; (with_reducible refine (cleatref04_Shape.calls a0 t334 _ A2.out).mono ?_); rintro e w8 ⟨rfl, hb⟩; refine ⟨_, rfl, ?_⟩; have n0_ := Aside0.mk (below_step (by repeat (first | (with_reducible first | exact HB.out | apply below_alloc | apply pw_below_drewN | apply below_drew1) | exact HB.out)) hb); clear HB; have HB := n0_; clear n0_; (try clear hb); (try clear hb2); (try clear hk); (try clear hi)) | ((with_reducible refine gate_callee (f := 42) rfl ?_); refine goesL_ (some 8) rfl rfl Tryd.func42 (by kernel_rfl) rfl #[] rfl (by (try simp only [List.map_toArray, List.map_cons, List.map_nil]); first | done | rfl | (simp only [List.length_drop, List.length_take]; rfl)) ?_; (with_reducible refine (cleatref04_names.calls  t335 _ A5.out).mono ?_); rintro e w9 ⟨v336, rfl, ho0, hb⟩; refine ⟨_, rfl, ?_⟩; have n0_ := Aside0.mk (Kd.R_lower ho0 (below_size (by repeat (first | (with_reducible first | exact HB.out | apply below_alloc | apply pw_below_drewN | apply below_drew1) | exact HB.out)))); have n1_ := Aside0.mk (below_step (by repeat (first | (with_reducible first | exact HB.out | apply below_alloc | apply pw_below_drewN | apply below_drew1) | exact HB.out)) hb); clear HB; have HO337 := n0_; have HB := n1_; clear n0_ n1_; (try clear hb); (try clear hb2); (try clear hk); (try clear hi); (try clear ho0); obtain ⟨Ao10, co10, eo10⟩ := Kd.R_slice HO337.out; subst eo10; have p338 : 0 ≤ (a0 : Int) := of_decide_eq_true (by first | (with_reducible assumption) | assumption); have q338 : a0 < (t335.length : Int) := of_decide_eq_true (by first | (with_reducible assumption) | assumption); obtain ⟨ad338, e338, hx338_0⟩ := Kd.at_string (Kd.R_reads' HO337.out).2.2 a0 p338 q338; cases e338; replace p338 := eq_true p338; replace q338 := eq_true q338))
    go_ret2
    exact ⟨by first | rfl | (simp [errW_none, errW_some] <;> rfl) | (simp [*, errW_none, errW_some] <;> rfl), by repeat (first | (with_reducible first | exact HB.out | apply below_alloc | apply pw_below_drewN | apply below_drew1) | exact HB.out)⟩
   ·rw [if_neg c7] at H
    exact absurd H (by simp)
  ·rw [if_neg c6] at H
   exact absurd H (by simp)

/-! ### inst_Ops: function 24 -/
/-- The operations of a name, among those behind i. -/
def opsFrom (s : ByteArray) (i : Nat) : List Int := ((List.range i).filter fun j : Nat => decide (1 ≤ j) && ((namesL.getD j ByteArray.empty).toList == s.toList)).map fun j : Nat => (j : Int)
def inst_Ops.f (a0 : ByteArray) : Option (List Int) := some (opsFrom a0 40)
theorem opsFrom_succ (s : ByteArray) (i : Nat) (h : 1 ≤ i) : opsFrom s (i + 1) = if (namesL.getD i ByteArray.empty).toList == s.toList then opsFrom s i ++ [(i : Int)] else opsFrom s i := by
  unfold opsFrom
  have hd : decide (1 ≤ i) = true := decide_eq_true h
  rw [List.range_succ, List.filter_append, List.map_append, List.filter_cons, List.filter_nil]
  cases hq : ((namesL.getD i ByteArray.empty).toList == s.toList)
  · rw [hd, Bool.and_false, if_neg (by decide), if_neg (by decide), List.map_nil, List.append_nil]
  · rw [hd, Bool.and_true, if_pos rfl, if_pos rfl]
    rfl
theorem opsFrom_len (s : ByteArray) (i : Nat) : (opsFrom s i).length ≤ i := by
  unfold opsFrom
  rw [List.length_map]
  have := List.length_filter_le (fun j : Nat => decide (1 ≤ j) && ((namesL.getD j ByteArray.empty).toList == s.toList)) (List.range i)
  rw [List.length_range] at this
  exact this
set_option maxHeartbeats 2000000 in
theorem inst_Ops.calls (a0 : ByteArray) (r : List Int) (w : World) (h : inst_Ops.f a0 = some r) (HT : Aside0 (Tabs w)) :
    Calls Tryd.prog 24 #[.string a0] w fun e w' => ∃ v0_ : Value, e = .returned (v0_) ∧ Kd.R (Kd.int .i64) 3 w' w.heap.size (fun _ => True) v0_ r ∧ Below w.heap.size w w' := by
  obtain rfl := Option.some.inj h
  clear h
  have hmk := info_i64
  have HB := Aside0.mk (Below.refl w.heap.size w)
  go_enter Tryd.func24, Tryd.ntmps24
  go_wp2
  go_loopw [4, 3] (fun v4 v3 wr => ∃ x : Int, v4 = .int .i64 x ∧ 1 ≤ x ∧ x ≤ 40 ∧ Aside0 ((Kd.int .i64).R 3 wr w.heap.size (fun _ => True) v3 (opsFrom a0 x.toNat)) ∧ Aside0 (Below w.heap.size w wr)) (fun i _ _ => 40 - (intOf i).toNat)
  case atStart => exact ⟨1, rfl, by omega, by omega, ⟨by simpa [opsFrom] using Kd.R_nil _ _ _ _ _⟩, HB⟩
  case round =>
    clear HB
    obtain ⟨x, rfl, hx0, hx1, HR, HB⟩ := hrel
    by_cases hlt : x ≤ 39
    · have hc := (tabs_of HT HB.out).out.names x.toNat (by omega)
      have p0 : 0 ≤ x := by omega
      have p1 : x < 40 := by omega
      have HS := Aside0.mk (opsFrom_succ a0 x.toNat (by omega))
      rw [show x.toNat + 1 = (x + 1).toNat by omega, show ((x.toNat : Nat) : Int) = x by omega] at HS
      have hlen := opsFrom_len a0 x.toNat
      have hlen2 : (opsFrom a0 x.toNat).length ≤ 40 := by omega
      have hSz := HB.out.size
      clear hlen
      generalize namesL.getD x.toNat ByteArray.empty = nm at *
      cases hq : (nm.toList == a0.toList)
      · have HS2 : Aside0 (opsFrom a0 (x + 1).toNat = opsFrom a0 x.toNat) := ⟨by rw [HS.out, hq]; rfl⟩
        clear HS
        go_wp2
        go_roundw
        case rel => exact ⟨x + 1, rfl, by omega, by omega, ⟨by rw [HS2.out]; exact HR.out⟩, HB⟩
        case measure => simp [intOf]; omega
      · have HS2 : Aside0 (opsFrom a0 (x + 1).toNat = opsFrom a0 x.toNat ++ [x]) := ⟨by rw [HS.out, hq]; rfl⟩
        clear HS
        go_wp2_with ((with_reducible refine gate_builtin (b := .append) (xs := #[.tmp 14, .tmp 16]) rfl ?_); at_builtin; refine Kd.R_append (Kd.int .i64) (w0 := w) w.heap.size rfl (.tmp 14) (.tmp 16) 30 3 (.int .i64 0) 8 rfl Tryd.underlying30 info_i64 rfl (by decide) (by omega) u3 (opsFrom a0 x.toNat) x [.int .i64 x] (fun _ => True) (fun _ => False) rfl rfl ?aP (fun _ hk => hk.elim) (fun _ _ => trivial) HR.out HB.out hSz (by omega) ?_; (case aP => exact rfl); intro v1 w3 hR3 hB3 hg3 hat3; have R3 := Aside0.mk hR3; have B3 := Aside0.mk hB3; clear hR3 hB3 hg3 hat3)
        go_roundw
        case rel => exact ⟨x + 1, rfl, by omega, by omega, ⟨by rw [HS2.out]; exact R3.out⟩, B3⟩
        case measure => simp [intOf]; omega
    · obtain rfl : x = 40 := by omega
      go_wp2
      go_ret
      exact ⟨_, rfl, HR.out, HB.out⟩

/-! ### cleatref04_Ops: function 25 -/
def cleatref04_Ops.l0 : Nat → ByteArray → List Int → List ByteArray → Int → Option (List Int)
 | 0, _, _, _, _ => none
 | k + 1, x0, x3, x4, x5 => if x5 ≤ 39 then (if 0 ≤ x5 then (if x5 < (x4.length : Int) then (if (rdOf ByteArray.empty x4 x5).toList = x0.toList then (if x3.length < 17592186044416 then (cleatref04_Ops.l0 k x0 (x3 ++ [x5]) x4 (wrap64 (x5 + 1))) else (none)) else (cleatref04_Ops.l0 k x0 x3 x4 (wrap64 (x5 + 1)))) else (none)) else (none)) else (some x3)
def cleatref04_Ops.f (k : Nat) (a0 : ByteArray) : Option (List Int) := (cleatref04_names.f).bind fun t339 => (cleatref04_Ops.l0 k a0 ([] : List Int) t339 1)
theorem cleatref04_Ops.mono_l : ∀ k, (∀ y0 y1 y2 y3, LeO (cleatref04_Ops.l0 k y0 y1 y2 y3) (cleatref04_Ops.l0 (k + 1) y0 y1 y2 y3))
 | 0 => fun _ _ _ _ r h => by simp [cleatref04_Ops.l0] at h
 | k + 1 => by
  have ih0 := cleatref04_Ops.mono_l k
  ·intro y0 y1 y2 y3
   unfold cleatref04_Ops.l0
   repeat' first
   | (with_reducible exact ih0 _ _ _ _)
   | (with_reducible exact LeO.refl _)
   | (with_reducible exact LeO.none _)
   | (with_reducible refine LeO.ite ?_ ?_)
   | (with_reducible refine LeO.bind ?_ (fun _ => ?_))
   | exact ih0 _ _ _ _
   | exact LeO.none _
   | refine LeO.ite ?_ ?_
   | refine LeO.bind ?_ (fun _ => ?_)
theorem cleatref04_Ops.mono : ∀ a0 k, LeO (cleatref04_Ops.f k a0) (cleatref04_Ops.f (k + 1) a0) := by
 intro a0 k
 have ih0 := cleatref04_Ops.mono_l k
 unfold cleatref04_Ops.f
 repeat' first
   | (with_reducible exact ih0 _ _ _ _)
   | (with_reducible exact LeO.refl _)
   | (with_reducible exact LeO.none _)
   | (with_reducible refine LeO.ite ?_ ?_)
   | (with_reducible refine LeO.bind ?_ (fun _ => ?_))
   | exact ih0 _ _ _ _
   | exact LeO.none _
   | refine LeO.ite ?_ ?_
   | refine LeO.bind ?_ (fun _ => ?_)
set_option maxHeartbeats 8000000 in
set_option maxRecDepth 100000 in
theorem cleatref04_Ops.calls (k : Nat) (a0 : ByteArray) (r : List Int) (w : World) (h : cleatref04_Ops.f k a0 = some r) :
  Calls Tryd.prog 25 #[.string a0] w fun e w' => ∃ v0_ : Value, e = .returned (v0_) ∧ Kd.R (Kd.int .i64) 3 w' w.heap.size (fun _ => True) v0_ r ∧ Below w.heap.size w w' := by
 have HB := Aside0.mk (Below.refl w.heap.size w)
 have H : ((cleatref04_names.f).bind fun t339 => (cleatref04_Ops.l0 k a0 ([] : List Int) t339 1)) = some r := h
 clear h
 replace H := Option.bind_eq_some_iff.mp H
 obtain ⟨t339, A20, H⟩ := H
 replace H : (cleatref04_Ops.l0 k a0 ([] : List Int) t339 1) = some r := H
 have A2 := Aside0.mk A20
 clear A20
 have H' := Aside0.mk H
 clear H
 go_enter Tryd.func25, Tryd.ntmps25
 go_wp2_with (first | ((with_reducible refine gate_callee (f := 42) rfl ?_); refine goesL_ (some 6) rfl rfl Tryd.func42 (by kernel_rfl) rfl #[] rfl (by (try simp only [List.map_toArray, List.map_cons, List.map_nil]); first | done | rfl | (simp only [List.length_drop, List.length_take]; rfl)) ?_; (with_reducible refine (cleatref04_names.calls  t339 _ A2.out).mono ?_); rintro e w3 ⟨v340, rfl, ho0, hb⟩; refine ⟨_, rfl, ?_⟩; have n0_ := Aside0.mk (Kd.R_lower ho0 (below_size (by repeat (first | (with_reducible first | exact HB.out | apply below_alloc | apply pw_below_drewN | apply below_drew1) | exact HB.out)))); have n1_ := Aside0.mk (below_step (by repeat (first | (with_reducible first | exact HB.out | apply below_alloc | apply pw_below_drewN | apply below_drew1) | exact HB.out)) hb); clear HB; have HO341 := n0_; have HB := n1_; clear n0_ n1_; (try clear hb); (try clear hb2); (try clear hk); (try clear hi); (try clear ho0)))
 go_loopg [3, 5] k (fun kq v3 v5 w' => ∃ (x3_1 : List Int) (x5_1 : Int), v5 = .int .i64 x5_1 ∧ Aside0 (cleatref04_Ops.l0 kq a0 x3_1 t339 x5_1 = some r) ∧ Aside0 (kq ≤ k) ∧ Aside0 (Kd.R (Kd.int .i64) 3 w' w.heap.size (fun _ => True) v3 x3_1) ∧ Aside0 (Kd.R Kd.string 9 w' w.heap.size (fun _ => True) v340 t339) ∧ Aside0 (Below w.heap.size w w'))
 case atStart => exact ⟨(([] : List Int)), (1), (by first | rfl | (simp; done) | (simp [*]; done)), H', ⟨Nat.le_refl _⟩, ⟨by first | exact Kd.R_nil _ _ _ _ _ | exact Kd.N_nil _ _ _ _ _ | exact Kd.V_nil _ _ _ _ _ | exact Kd.Q_nil _ _ _ _ _ | exact Kd.S_nil _ _ _ _ _⟩, ⟨by (with_reducible repeat (first | apply Kd.R_alloc | apply Kd.R_drewN | apply Kd.R_drew)); exact HO341.out⟩, ⟨by repeat (first | (with_reducible first | exact HB.out | apply below_alloc | apply pw_below_drewN | apply below_drew1) | exact HB.out)⟩⟩
 case round =>
  clear H'
  try clear c2
  try clear p2
  obtain ⟨x3_1, x5_1, rfl, HA, HK1, HO_3, HO_4, HB⟩ := hrel
  cases gk with
  | zero => exact absurd HA.out (by simp [cleatref04_Ops.l0])
  | succ k1 =>
   have H := HA.out
   clear HA
   simp only [cleatref04_Ops.l0] at H
   by_cases c4 : x5_1 ≤ 39
   ·rw [if_pos c4] at H
    have c4b0 : decide (x5_1 ≤ 39) = true := decide_eq_true c4
    clear c4
    by_cases c5 : 0 ≤ x5_1
    ·rw [if_pos c5] at H
     have c5b0 : decide (0 ≤ x5_1) = true := decide_eq_true c5
     clear c5
     by_cases c6 : x5_1 < (t339.length : Int)
     ·rw [if_pos c6] at H
      have c6b0 : decide (x5_1 < (t339.length : Int)) = true := decide_eq_true c6
      clear c6
      by_cases c7 : (rdOf ByteArray.empty t339 x5_1).toList = a0.toList
      ·rw [if_pos c7] at H
       have c7b0 : ((rdOf ByteArray.empty t339 x5_1).toList == a0.toList) = true := beq_iff_eq.mpr c7
       have c7b1 : ((rdOf ByteArray.empty t339 x5_1).toList != a0.toList) = false := bne_eq_false_iff_eq.mpr c7
       clear c7
       by_cases c8 : x3_1.length < 17592186044416
       ·rw [if_pos c8] at H
        have LMc8 := Aside0.mk c8
        clear c8
        obtain ⟨y343, hy343⟩ : ∃ y_ : List Int, y_ = (x3_1 ++ [x5_1]) := ⟨_, rfl⟩
        replace H : (cleatref04_Ops.l0 k1 a0 y343 t339 (wrap64 (x5_1 + 1))) = some r := by first | (rw [hy343]; with_reducible exact H) | (have H2_ := (Option.bind_some _ _).symm.trans H; rw [hy343]; with_reducible exact H2_) | (have H2_ := (Option.bind_some _ _).symm.trans H; with_reducible exact H2_) | with_reducible exact H | (rw [hy343]; exact H) | exact H
        have Ny343 := Aside0.mk hy343
        clear hy343
        have H' := Aside0.mk H
        clear H
        obtain ⟨Ao9, co9, eo9⟩ := Kd.R_slice HO_4.out
        subst eo9
        have p342 : 0 ≤ (x5_1 : Int) := of_decide_eq_true (by first | (with_reducible assumption) | assumption)
        have q342 : x5_1 < (t339.length : Int) := of_decide_eq_true (by first | (with_reducible assumption) | assumption)
        obtain ⟨ad342, e342, hx342_0⟩ := Kd.at_string (Kd.R_reads' HO_4.out).2.2 x5_1 p342 q342
        cases e342
        replace p342 := eq_true p342
        replace q342 := eq_true q342
        go_wp2_with (first | ((with_reducible refine gate_builtin (b := .append) (xs := #[.tmp 17, .tmp 19]) rfl ?_); at_builtin; refine Kd.R_append (Kd.int .i64) (w0 := w) w.heap.size rfl (.tmp 17) (.tmp 19) 30 3 (.int .i64 0) 8 rfl Tryd.underlying30 info3 rfl (by decide) (by omega) u3 x3_1 x5_1 [.int .i64 x5_1] (fun _ => True) (fun _ => False) rfl rfl ?aP (fun _ hk => hk.elim) ?aF ?aO ?aB ?aS ?aL ?_; (case aP => exact rfl); (case aB => exact (by repeat (first | (with_reducible first | exact HB.out | apply below_alloc | apply pw_below_drewN | apply below_drew1) | exact HB.out))); (case aF => exact (fun _ _ => trivial)); (case aO => exact (by (with_reducible repeat (first | apply Kd.R_alloc | apply Kd.R_drewN | apply Kd.R_drew)); exact HO_3.out)); (case aS => exact (below_size (by repeat (first | (with_reducible first | exact HB.out | apply below_alloc | apply pw_below_drewN | apply below_drew1) | exact HB.out)))); (case aL => have := LMc8.out; omega); intro v344 w10 ho hb hg hat; rw [← Ny343.out] at ho; have n0_ := Aside0.mk (Kd.R_over' (by (with_reducible repeat (first | apply Kd.R_alloc | apply Kd.R_drewN | apply Kd.R_drew)); exact HO_4.out) (Kd.R_typed (by (with_reducible repeat (first | apply Kd.R_alloc | apply Kd.R_drewN | apply Kd.R_drew)); exact HO_3.out)) (by decide) hg); have n1_ := Aside0.mk (hb); have n2_ := Aside0.mk (ho); clear HO_4; clear HB; clear HO_3; have HO_4 := n0_; have HB := n1_; have HO345 := n2_; clear n0_ n1_ n2_; clear ho hb hg hat))
        go_roundg k1
        case measure => have := HK1.out; omega
        case rel => exact ⟨(y343), (wrap64 (x5_1 + 1)), (by first | rfl | (simp; done) | (simp [*]; done)), H', ⟨by have := HK1.out; omega⟩, ⟨by (with_reducible repeat (first | apply Kd.R_alloc | apply Kd.R_drewN | apply Kd.R_drew)); exact HO345.out⟩, ⟨by (with_reducible repeat (first | apply Kd.R_alloc | apply Kd.R_drewN | apply Kd.R_drew)); exact HO_4.out⟩, ⟨by repeat (first | (with_reducible first | exact HB.out | apply below_alloc | apply pw_below_drewN | apply below_drew1) | exact HB.out)⟩⟩
       ·rw [if_neg c8] at H
        exact absurd H (by simp)
      ·rw [if_neg c7] at H
       have c7b0 : ((rdOf ByteArray.empty t339 x5_1).toList == a0.toList) = false := beq_eq_false_iff_ne.mpr c7
       have c7b1 : ((rdOf ByteArray.empty t339 x5_1).toList != a0.toList) = true := bne_iff_ne.mpr c7
       have H' := Aside0.mk H
       clear H
       obtain ⟨Ao11, co11, eo11⟩ := Kd.R_slice HO_4.out
       subst eo11
       have p342 : 0 ≤ (x5_1 : Int) := of_decide_eq_true (by first | (with_reducible assumption) | assumption)
       have q342 : x5_1 < (t339.length : Int) := of_decide_eq_true (by first | (with_reducible assumption) | assumption)
       obtain ⟨ad342, e342, hx342_0⟩ := Kd.at_string (Kd.R_reads' HO_4.out).2.2 x5_1 p342 q342
       cases e342
       replace p342 := eq_true p342
       replace q342 := eq_true q342
       go_wp2
       go_roundg k1
       case measure => have := HK1.out; omega
       case rel => exact ⟨(x3_1), (wrap64 (x5_1 + 1)), (by first | rfl | (simp; done) | (simp [*]; done)), H', ⟨by have := HK1.out; omega⟩, ⟨by (with_reducible repeat (first | apply Kd.R_alloc | apply Kd.R_drewN | apply Kd.R_drew)); exact HO_3.out⟩, ⟨by (with_reducible repeat (first | apply Kd.R_alloc | apply Kd.R_drewN | apply Kd.R_drew)); exact HO_4.out⟩, ⟨by repeat (first | (with_reducible first | exact HB.out | apply below_alloc | apply pw_below_drewN | apply below_drew1) | exact HB.out)⟩⟩
     ·rw [if_neg c6] at H
      exact absurd H (by simp)
    ·rw [if_neg c5] at H
     exact absurd H (by simp)
   ·rw [if_neg c4] at H
    have c4b0 : decide (x5_1 ≤ 39) = false := decide_eq_false c4
    clear c4
    obtain rfl := Option.some.inj H
    go_wp2
    go_ret
    exact ⟨_, by first | rfl | (simp [errW_none, errW_some] <;> rfl) | (simp [*, errW_none, errW_some] <;> rfl), by (with_reducible repeat (first | apply Kd.R_alloc | apply Kd.R_drewN | apply Kd.R_drew)); exact HO_3.out, by repeat (first | (with_reducible first | exact HB.out | apply below_alloc | apply pw_below_drewN | apply below_drew1) | exact HB.out)⟩

/-! ### cleatlaw04_InstNamed: function 7 -/
def cleatlaw04_InstNamed.f (k : Nat) (a0 : Int) (a1 : ByteArray) : Option (Bool) := (inst_Name.f a0).bind fun bt346 => ((cleatref04_Name.f a0).bind fun bt348 => ((cleatlaw04_shaped.f).bind fun t350 => (if t350 = true then ((inst_Shape.f a0).bind fun t351 => ((cleatref04_Shape.f a0).bind fun t352 => (if t351 = t352 then (if bt346.1.toList = bt348.1.toList then (if bt346.2 = bt348.2 then ((inst_Ops.f a1).bind fun t353 => ((cleatref04_Ops.f k a1).bind fun t356 => ((cleatref04_Same.f k t353 t356).bind fun t359 => (some t359)))) else (some false)) else (some false)) else (some false)))) else (some false))))
theorem cleatlaw04_InstNamed.mono : ∀ a0 a1 k, LeO (cleatlaw04_InstNamed.f k a0 a1) (cleatlaw04_InstNamed.f (k + 1) a0 a1) := by
 intro a0 a1 k
 unfold cleatlaw04_InstNamed.f
 repeat' first
   | (with_reducible exact cleatref04_Ops.mono _ _)
   | (with_reducible exact cleatref04_Same.mono _ _ _)
   | (with_reducible exact LeO.refl _)
   | (with_reducible exact LeO.none _)
   | (with_reducible refine LeO.ite ?_ ?_)
   | (with_reducible refine LeO.bind ?_ (fun _ => ?_))
   | exact cleatref04_Ops.mono _ _
   | exact cleatref04_Same.mono _ _ _
   | exact LeO.none _
   | refine LeO.ite ?_ ?_
   | refine LeO.bind ?_ (fun _ => ?_)
set_option maxHeartbeats 8000000 in
set_option maxRecDepth 100000 in
theorem cleatlaw04_InstNamed.calls (k : Nat) (a0 : Int) (a1 : ByteArray) (r : Bool) (w : World) (h : cleatlaw04_InstNamed.f k a0 a1 = some r) (HT : Aside0 (Tabs w)) :
  Calls Tryd.prog 7 #[.int .i64 a0, .string a1] w fun e w' => e = .returned (.bool r) ∧ Below w.heap.size w w' := by
 have HB := Aside0.mk (Below.refl w.heap.size w)
 have H : ((inst_Name.f a0).bind fun bt346 => ((cleatref04_Name.f a0).bind fun bt348 => ((cleatlaw04_shaped.f).bind fun t350 => (if t350 = true then ((inst_Shape.f a0).bind fun t351 => ((cleatref04_Shape.f a0).bind fun t352 => (if t351 = t352 then (if bt346.1.toList = bt348.1.toList then (if bt346.2 = bt348.2 then ((inst_Ops.f a1).bind fun t353 => ((cleatref04_Ops.f k a1).bind fun t356 => ((cleatref04_Same.f k t353 t356).bind fun t359 => (some t359)))) else (some false)) else (some false)) else (some false)))) else (some false))))) = some r := h
 clear h
 replace H := Option.bind_eq_some_iff.mp H
 obtain ⟨⟨t346, t347⟩, A30, H⟩ := H
 replace H : ((cleatref04_Name.f a0).bind fun bt348 => ((cleatlaw04_shaped.f).bind fun t350 => (if t350 = true then ((inst_Shape.f a0).bind fun t351 => ((cleatref04_Shape.f a0).bind fun t352 => (if t351 = t352 then (if t346.toList = bt348.1.toList then (if t347 = bt348.2 then ((inst_Ops.f a1).bind fun t353 => ((cleatref04_Ops.f k a1).bind fun t356 => ((cleatref04_Same.f k t353 t356).bind fun t359 => (some t359)))) else (some false)) else (some false)) else (some false)))) else (some false)))) = some r := H
 have A3 := Aside0.mk A30
 clear A30
 replace H := Option.bind_eq_some_iff.mp H
 obtain ⟨⟨t348, t349⟩, A40, H⟩ := H
 replace H : ((cleatlaw04_shaped.f).bind fun t350 => (if t350 = true then ((inst_Shape.f a0).bind fun t351 => ((cleatref04_Shape.f a0).bind fun t352 => (if t351 = t352 then (if t346.toList = t348.toList then (if t347 = t349 then ((inst_Ops.f a1).bind fun t353 => ((cleatref04_Ops.f k a1).bind fun t356 => ((cleatref04_Same.f k t353 t356).bind fun t359 => (some t359)))) else (some false)) else (some false)) else (some false)))) else (some false))) = some r := H
 have A4 := Aside0.mk A40
 clear A40
 replace H := Option.bind_eq_some_iff.mp H
 obtain ⟨t350, A50, H⟩ := H
 replace H : (if t350 = true then ((inst_Shape.f a0).bind fun t351 => ((cleatref04_Shape.f a0).bind fun t352 => (if t351 = t352 then (if t346.toList = t348.toList then (if t347 = t349 then ((inst_Ops.f a1).bind fun t353 => ((cleatref04_Ops.f k a1).bind fun t356 => ((cleatref04_Same.f k t353 t356).bind fun t359 => (some t359)))) else (some false)) else (some false)) else (some false)))) else (some false)) = some r := H
 have A5 := Aside0.mk A50
 clear A50
 by_cases c6 : t350 = true
 ·subst c6
  rw [if_pos rfl] at H
  replace H := Option.bind_eq_some_iff.mp H
  obtain ⟨t351, A70, H⟩ := H
  replace H : ((cleatref04_Shape.f a0).bind fun t352 => (if t351 = t352 then (if t346.toList = t348.toList then (if t347 = t349 then ((inst_Ops.f a1).bind fun t353 => ((cleatref04_Ops.f k a1).bind fun t356 => ((cleatref04_Same.f k t353 t356).bind fun t359 => (some t359)))) else (some false)) else (some false)) else (some false))) = some r := H
  have A7 := Aside0.mk A70
  clear A70
  replace H := Option.bind_eq_some_iff.mp H
  obtain ⟨t352, A80, H⟩ := H
  replace H : (if t351 = t352 then (if t346.toList = t348.toList then (if t347 = t349 then ((inst_Ops.f a1).bind fun t353 => ((cleatref04_Ops.f k a1).bind fun t356 => ((cleatref04_Same.f k t353 t356).bind fun t359 => (some t359)))) else (some false)) else (some false)) else (some false)) = some r := H
  have A8 := Aside0.mk A80
  clear A80
  by_cases c9 : t351 = t352
  ·rw [if_pos c9] at H
   have c9b0 : (t351 == t352) = true := beq_iff_eq.mpr c9
   have c9b1 : (t351 != t352) = false := bne_eq_false_iff_eq.mpr c9
   clear c9
   by_cases c10 : t346.toList = t348.toList
   ·rw [if_pos c10] at H
    have c10b0 : (t346.toList == t348.toList) = true := beq_iff_eq.mpr c10
    have c10b1 : (t346.toList != t348.toList) = false := bne_eq_false_iff_eq.mpr c10
    clear c10
    by_cases c11 : t347 = t349
    ·rw [if_pos c11] at H
     have c11b0 : (t347 == t349) = true := beq_iff_eq.mpr c11
     have c11b1 : (t347 != t349) = false := bne_eq_false_iff_eq.mpr c11
     clear c11
     replace H := Option.bind_eq_some_iff.mp H
     obtain ⟨t353, A120, H⟩ := H
     replace H : ((cleatref04_Ops.f k a1).bind fun t356 => ((cleatref04_Same.f k t353 t356).bind fun t359 => (some t359))) = some r := H
     have A12 := Aside0.mk A120
     clear A120
     replace H := Option.bind_eq_some_iff.mp H
     obtain ⟨t356, A130, H⟩ := H
     replace H : ((cleatref04_Same.f k t353 t356).bind fun t359 => (some t359)) = some r := H
     have A13 := Aside0.mk A130
     clear A130
     replace H := Option.bind_eq_some_iff.mp H
     obtain ⟨t359, A140, H⟩ := H
     replace H : (some t359) = some r := H
     have A14 := Aside0.mk A140
     clear A140
     obtain rfl := Option.some.inj H
     go_enter Tryd.func7, Tryd.ntmps7
     go_wp2_with (first | ((with_reducible refine gate_callee (f := 21) rfl ?_); refine goesL_ (some 11) rfl rfl Tryd.func21 (by kernel_rfl) rfl #[.int .i64 a0] rfl (by (try simp only [List.map_toArray, List.map_cons, List.map_nil]); first | done | rfl | (simp only [List.length_drop, List.length_take]; rfl)) ?_; (with_reducible refine (inst_Name.calls a0 t346 t347 _ A3.out ?tabs).mono ?_); (case tabs => (first | exact HT | (refine tabs_of HT ?_; repeat (first | (with_reducible first | exact Below.refl _ _ | exact (Aside0.out (by assumption)) | exact (Drawn0.below (by assumption)) | apply below_alloc | apply pw_below_drewN | apply below_drew1 | assumption) | exact HB.out)))); rintro e w' ⟨rfl, ⟨nd, rfl⟩⟩; refine ⟨_, rfl, ?_⟩) | ((with_reducible refine gate_callee (f := 22) rfl ?_); refine goesL_ (some 16) rfl rfl Tryd.func22 (by kernel_rfl) rfl #[.int .i64 a0] rfl (by (try simp only [List.map_toArray, List.map_cons, List.map_nil]); first | done | rfl | (simp only [List.length_drop, List.length_take]; rfl)) ?_; (with_reducible refine (cleatref04_Name.calls a0 t348 t349 _ A4.out).mono ?_); rintro e w15 ⟨rfl, hb⟩; refine ⟨_, rfl, ?_⟩; have n0_ := Aside0.mk (below_step (by repeat (first | (with_reducible first | exact HB.out | apply below_alloc | apply pw_below_drewN | apply below_drew1) | exact HB.out)) hb); clear HB; have HB := n0_; clear n0_; (try clear hb); (try clear hb2); (try clear hk); (try clear hi)) | ((with_reducible refine gate_callee (f := 11) rfl ?_); refine goesL_ (some 19) rfl rfl Tryd.func11 (by kernel_rfl) rfl #[] rfl (by (try simp only [List.map_toArray, List.map_cons, List.map_nil]); first | done | rfl | (simp only [List.length_drop, List.length_take]; rfl)) ?_; (with_reducible refine (cleatlaw04_shaped.calls  true _ A5.out ?tabs).mono ?_); (case tabs => (first | exact HT | (refine tabs_of HT ?_; repeat (first | (with_reducible first | exact Below.refl _ _ | exact (Aside0.out (by assumption)) | exact (Drawn0.below (by assumption)) | apply below_alloc | apply pw_below_drewN | apply below_drew1 | assumption) | exact HB.out)))); rintro e w16 ⟨rfl, hb⟩; refine ⟨_, rfl, ?_⟩; have n0_ := Aside0.mk (below_step (by repeat (first | (with_reducible first | exact HB.out | apply below_alloc | apply pw_below_drewN | apply below_drew1) | exact HB.out)) hb); clear HB; have HB := n0_; clear n0_; (try clear hb); (try clear hb2); (try clear hk); (try clear hi)) | (go_at_call 18; (with_reducible refine (inst_Shape.calls a0 t351 _ A7.out ?tabs).mono ?_); (case tabs => (first | exact HT | (refine tabs_of HT ?_; repeat (first | (with_reducible first | exact Below.refl _ _ | exact (Aside0.out (by assumption)) | exact (Drawn0.below (by assumption)) | apply below_alloc | apply pw_below_drewN | apply below_drew1 | assumption) | exact HB.out)))); rintro e w' ⟨rfl, ⟨nd, rfl⟩⟩) | (go_at_call 23; (with_reducible refine (cleatref04_Shape.calls a0 t352 _ A8.out).mono ?_); rintro e w17 ⟨rfl, hb⟩; have n0_ := Aside0.mk (below_step (by repeat (first | (with_reducible first | exact HB.out | apply below_alloc | apply pw_below_drewN | apply below_drew1) | exact HB.out)) hb); clear HB; have HB := n0_; clear n0_; (try clear hb); (try clear hb2); (try clear hk); (try clear hi)) | (go_at_call 24; (with_reducible refine (inst_Ops.calls a1 t353 _ A12.out ?tabs).mono ?_); (case tabs => (first | exact HT | (refine tabs_of HT ?_; repeat (first | (with_reducible first | exact Below.refl _ _ | exact (Aside0.out (by assumption)) | exact (Drawn0.below (by assumption)) | apply below_alloc | apply pw_below_drewN | apply below_drew1 | assumption) | exact HB.out)))); rintro e w18 ⟨v354, rfl, ho0, hb⟩; have n0_ := Aside0.mk (Kd.R_lower ho0 (below_size (by repeat (first | (with_reducible first | exact HB.out | apply below_alloc | apply pw_below_drewN | apply below_drew1) | exact HB.out)))); have n1_ := Aside0.mk (below_step (by repeat (first | (with_reducible first | exact HB.out | apply below_alloc | apply pw_below_drewN | apply below_drew1) | exact HB.out)) hb); clear HB; have HO355 := n0_; have HB := n1_; clear n0_ n1_; (try clear hb); (try clear hb2); (try clear hk); (try clear hi); (try clear ho0)) | (go_at_call 25; (with_reducible refine (cleatref04_Ops.calls k a1 t356 _ A13.out).mono ?_); rintro e w19 ⟨v357, rfl, ho0, hb⟩; have n0_ := Aside0.mk (Kd.R_elder' (by (with_reducible repeat (first | apply Kd.R_alloc | apply Kd.R_drewN | apply Kd.R_drew)); exact HO355.out) (Kd.R_base ho0) hb); have n1_ := Aside0.mk (Kd.R_lower (Kd.R_new' ho0 (Kd.R_lt (by (with_reducible repeat (first | apply Kd.R_alloc | apply Kd.R_drewN | apply Kd.R_drew)); exact HO355.out))) (below_size (by repeat (first | (with_reducible first | exact HB.out | apply below_alloc | apply pw_below_drewN | apply below_drew1) | exact HB.out)))); have n2_ := Aside0.mk (below_step (by repeat (first | (with_reducible first | exact HB.out | apply below_alloc | apply pw_below_drewN | apply below_drew1) | exact HB.out)) hb); clear HO355; clear HB; have HO355 := n0_; have HO358 := n1_; have HB := n2_; clear n0_ n1_ n2_; (try clear hb); (try clear hb2); (try clear hk); (try clear hi); (try clear ho0); obtain ⟨Ao20, co20, eo20⟩ := Kd.R_slice HO355.out; subst eo20; obtain ⟨Ao21, co21, eo21⟩ := Kd.R_slice HO358.out; subst eo21) | (go_at_call 14; (with_reducible refine (cleatref04_Same.calls k _ _ t353 _ _ t356 t359 _ ?side1 ?side2 ?side3 ?side4 A14.out).mono ?_); (case side1 => repeat (first | exact (Kd.R_reads' HO355.out).2.2 | (with_reducible refine Kd.C_alloc ?_ _) | (with_reducible refine Kd.C_drewN ?_ _) | (with_reducible refine Kd.C_drew ?_))); (case side2 => exact (Kd.R_reads' HO355.out).2.1); (case side3 => repeat (first | exact (Kd.R_reads' HO358.out).2.2 | (with_reducible refine Kd.C_alloc ?_ _) | (with_reducible refine Kd.C_drewN ?_ _) | (with_reducible refine Kd.C_drew ?_))); (case side4 => exact (Kd.R_reads' HO358.out).2.1); rintro e w' ⟨rfl, ⟨nd, rfl⟩⟩))
     go_ret
     exact ⟨by first | rfl | (simp [errW_none, errW_some] <;> rfl) | (simp [*, errW_none, errW_some] <;> rfl), by repeat (first | (with_reducible first | exact HB.out | apply below_alloc | apply pw_below_drewN | apply below_drew1) | exact HB.out)⟩
    ·rw [if_neg c11] at H
     have c11b0 : (t347 == t349) = false := beq_eq_false_iff_ne.mpr c11
     have c11b1 : (t347 != t349) = true := bne_iff_ne.mpr c11
     obtain rfl := Option.some.inj H
     go_enter Tryd.func7, Tryd.ntmps7
     go_wp2_with (first | ((with_reducible refine gate_callee (f := 21) rfl ?_); refine goesL_ (some 11) rfl rfl Tryd.func21 (by kernel_rfl) rfl #[.int .i64 a0] rfl (by (try simp only [List.map_toArray, List.map_cons, List.map_nil]); first | done | rfl | (simp only [List.length_drop, List.length_take]; rfl)) ?_; (with_reducible refine (inst_Name.calls a0 t346 t347 _ A3.out ?tabs).mono ?_); (case tabs => (first | exact HT | (refine tabs_of HT ?_; repeat (first | (with_reducible first | exact Below.refl _ _ | exact (Aside0.out (by assumption)) | exact (Drawn0.below (by assumption)) | apply below_alloc | apply pw_below_drewN | apply below_drew1 | assumption) | exact HB.out)))); rintro e w' ⟨rfl, ⟨nd, rfl⟩⟩; refine ⟨_, rfl, ?_⟩) | ((with_reducible refine gate_callee (f := 22) rfl ?_); refine goesL_ (some 16) rfl rfl Tryd.func22 (by kernel_rfl) rfl #[.int .i64 a0] rfl (by (try simp only [List.map_toArray, List.map_cons, List.map_nil]); first | done | rfl | (simp only [List.length_drop, List.length_take]; rfl)) ?_; (with_reducible refine (cleatref04_Name.calls a0 t348 t349 _ A4.out).mono ?_); rintro e w22 ⟨rfl, hb⟩; refine ⟨_, rfl, ?_⟩; have n0_ := Aside0.mk (below_step (by repeat (first | (with_reducible first | exact HB.out | apply below_alloc | apply pw_below_drewN | apply below_drew1) | exact HB.out)) hb); clear HB; have HB := n0_; clear n0_; (try clear hb); (try clear hb2); (try clear hk); (try clear hi)) | ((with_reducible refine gate_callee (f := 11) rfl ?_); refine goesL_ (some 19) rfl rfl Tryd.func11 (by kernel_rfl) rfl #[] rfl (by (try simp only [List.map_toArray, List.map_cons, List.map_nil]); first | done | rfl | (simp only [List.length_drop, List.length_take]; rfl)) ?_; (with_reducible refine (cleatlaw04_shaped.calls  true _ A5.out ?tabs).mono ?_); (case tabs => (first | exact HT | (refine tabs_of HT ?_; repeat (first | (with_reducible first | exact Below.refl _ _ | exact (Aside0.out (by assumption)) | exact (Drawn0.below (by assumption)) | apply below_alloc | apply pw_below_drewN | apply below_drew1 | assumption) | exact HB.out)))); rintro e w23 ⟨rfl, hb⟩; refine ⟨_, rfl, ?_⟩; have n0_ := Aside0.mk (below_step (by repeat (first | (with_reducible first | exact HB.out | apply below_alloc | apply pw_below_drewN | apply below_drew1) | exact HB.out)) hb); clear HB; have HB := n0_; clear n0_; (try clear hb); (try clear hb2); (try clear hk); (try clear hi)) | (go_at_call 18; (with_reducible refine (inst_Shape.calls a0 t351 _ A7.out ?tabs).mono ?_); (case tabs => (first | exact HT | (refine tabs_of HT ?_; repeat (first | (with_reducible first | exact Below.refl _ _ | exact (Aside0.out (by assumption)) | exact (Drawn0.below (by assumption)) | apply below_alloc | apply pw_below_drewN | apply below_drew1 | assumption) | exact HB.out)))); rintro e w' ⟨rfl, ⟨nd, rfl⟩⟩) | (go_at_call 23; (with_reducible refine (cleatref04_Shape.calls a0 t352 _ A8.out).mono ?_); rintro e w24 ⟨rfl, hb⟩; have n0_ := Aside0.mk (below_step (by repeat (first | (with_reducible first | exact HB.out | apply below_alloc | apply pw_below_drewN | apply below_drew1) | exact HB.out)) hb); clear HB; have HB := n0_; clear n0_; (try clear hb); (try clear hb2); (try clear hk); (try clear hi)))
     go_ret
     exact ⟨by first | rfl | (simp [errW_none, errW_some] <;> rfl) | (simp [*, errW_none, errW_some] <;> rfl), by repeat (first | (with_reducible first | exact HB.out | apply below_alloc | apply pw_below_drewN | apply below_drew1) | exact HB.out)⟩
   ·rw [if_neg c10] at H
    have c10b0 : (t346.toList == t348.toList) = false := beq_eq_false_iff_ne.mpr c10
    have c10b1 : (t346.toList != t348.toList) = true := bne_iff_ne.mpr c10
    obtain rfl := Option.some.inj H
    go_enter Tryd.func7, Tryd.ntmps7
    go_wp2_with (first | ((with_reducible refine gate_callee (f := 21) rfl ?_); refine goesL_ (some 11) rfl rfl Tryd.func21 (by kernel_rfl) rfl #[.int .i64 a0] rfl (by (try simp only [List.map_toArray, List.map_cons, List.map_nil]); first | done | rfl | (simp only [List.length_drop, List.length_take]; rfl)) ?_; (with_reducible refine (inst_Name.calls a0 t346 t347 _ A3.out ?tabs).mono ?_); (case tabs => (first | exact HT | (refine tabs_of HT ?_; repeat (first | (with_reducible first | exact Below.refl _ _ | exact (Aside0.out (by assumption)) | exact (Drawn0.below (by assumption)) | apply below_alloc | apply pw_below_drewN | apply below_drew1 | assumption) | exact HB.out)))); rintro e w' ⟨rfl, ⟨nd, rfl⟩⟩; refine ⟨_, rfl, ?_⟩) | ((with_reducible refine gate_callee (f := 22) rfl ?_); refine goesL_ (some 16) rfl rfl Tryd.func22 (by kernel_rfl) rfl #[.int .i64 a0] rfl (by (try simp only [List.map_toArray, List.map_cons, List.map_nil]); first | done | rfl | (simp only [List.length_drop, List.length_take]; rfl)) ?_; (with_reducible refine (cleatref04_Name.calls a0 t348 t349 _ A4.out).mono ?_); rintro e w25 ⟨rfl, hb⟩; refine ⟨_, rfl, ?_⟩; have n0_ := Aside0.mk (below_step (by repeat (first | (with_reducible first | exact HB.out | apply below_alloc | apply pw_below_drewN | apply below_drew1) | exact HB.out)) hb); clear HB; have HB := n0_; clear n0_; (try clear hb); (try clear hb2); (try clear hk); (try clear hi)) | ((with_reducible refine gate_callee (f := 11) rfl ?_); refine goesL_ (some 19) rfl rfl Tryd.func11 (by kernel_rfl) rfl #[] rfl (by (try simp only [List.map_toArray, List.map_cons, List.map_nil]); first | done | rfl | (simp only [List.length_drop, List.length_take]; rfl)) ?_; (with_reducible refine (cleatlaw04_shaped.calls  true _ A5.out ?tabs).mono ?_); (case tabs => (first | exact HT | (refine tabs_of HT ?_; repeat (first | (with_reducible first | exact Below.refl _ _ | exact (Aside0.out (by assumption)) | exact (Drawn0.below (by assumption)) | apply below_alloc | apply pw_below_drewN | apply below_drew1 | assumption) | exact HB.out)))); rintro e w26 ⟨rfl, hb⟩; refine ⟨_, rfl, ?_⟩; have n0_ := Aside0.mk (below_step (by repeat (first | (with_reducible first | exact HB.out | apply below_alloc | apply pw_below_drewN | apply below_drew1) | exact HB.out)) hb); clear HB; have HB := n0_; clear n0_; (try clear hb); (try clear hb2); (try clear hk); (try clear hi)) | (go_at_call 18; (with_reducible refine (inst_Shape.calls a0 t351 _ A7.out ?tabs).mono ?_); (case tabs => (first | exact HT | (refine tabs_of HT ?_; repeat (first | (with_reducible first | exact Below.refl _ _ | exact (Aside0.out (by assumption)) | exact (Drawn0.below (by assumption)) | apply below_alloc | apply pw_below_drewN | apply below_drew1 | assumption) | exact HB.out)))); rintro e w' ⟨rfl, ⟨nd, rfl⟩⟩) | (go_at_call 23; (with_reducible refine (cleatref04_Shape.calls a0 t352 _ A8.out).mono ?_); rintro e w27 ⟨rfl, hb⟩; have n0_ := Aside0.mk (below_step (by repeat (first | (with_reducible first | exact HB.out | apply below_alloc | apply pw_below_drewN | apply below_drew1) | exact HB.out)) hb); clear HB; have HB := n0_; clear n0_; (try clear hb); (try clear hb2); (try clear hk); (try clear hi)))
    go_ret
    exact ⟨by first | rfl | (simp [errW_none, errW_some] <;> rfl) | (simp [*, errW_none, errW_some] <;> rfl), by repeat (first | (with_reducible first | exact HB.out | apply below_alloc | apply pw_below_drewN | apply below_drew1) | exact HB.out)⟩
  ·rw [if_neg c9] at H
   have c9b0 : (t351 == t352) = false := beq_eq_false_iff_ne.mpr c9
   have c9b1 : (t351 != t352) = true := bne_iff_ne.mpr c9
   obtain rfl := Option.some.inj H
   go_enter Tryd.func7, Tryd.ntmps7
   go_wp2_with (first | ((with_reducible refine gate_callee (f := 21) rfl ?_); refine goesL_ (some 11) rfl rfl Tryd.func21 (by kernel_rfl) rfl #[.int .i64 a0] rfl (by (try simp only [List.map_toArray, List.map_cons, List.map_nil]); first | done | rfl | (simp only [List.length_drop, List.length_take]; rfl)) ?_; (with_reducible refine (inst_Name.calls a0 t346 t347 _ A3.out ?tabs).mono ?_); (case tabs => (first | exact HT | (refine tabs_of HT ?_; repeat (first | (with_reducible first | exact Below.refl _ _ | exact (Aside0.out (by assumption)) | exact (Drawn0.below (by assumption)) | apply below_alloc | apply pw_below_drewN | apply below_drew1 | assumption) | exact HB.out)))); rintro e w' ⟨rfl, ⟨nd, rfl⟩⟩; refine ⟨_, rfl, ?_⟩) | ((with_reducible refine gate_callee (f := 22) rfl ?_); refine goesL_ (some 16) rfl rfl Tryd.func22 (by kernel_rfl) rfl #[.int .i64 a0] rfl (by (try simp only [List.map_toArray, List.map_cons, List.map_nil]); first | done | rfl | (simp only [List.length_drop, List.length_take]; rfl)) ?_; (with_reducible refine (cleatref04_Name.calls a0 t348 t349 _ A4.out).mono ?_); rintro e w28 ⟨rfl, hb⟩; refine ⟨_, rfl, ?_⟩; have n0_ := Aside0.mk (below_step (by repeat (first | (with_reducible first | exact HB.out | apply below_alloc | apply pw_below_drewN | apply below_drew1) | exact HB.out)) hb); clear HB; have HB := n0_; clear n0_; (try clear hb); (try clear hb2); (try clear hk); (try clear hi)) | ((with_reducible refine gate_callee (f := 11) rfl ?_); refine goesL_ (some 19) rfl rfl Tryd.func11 (by kernel_rfl) rfl #[] rfl (by (try simp only [List.map_toArray, List.map_cons, List.map_nil]); first | done | rfl | (simp only [List.length_drop, List.length_take]; rfl)) ?_; (with_reducible refine (cleatlaw04_shaped.calls  true _ A5.out ?tabs).mono ?_); (case tabs => (first | exact HT | (refine tabs_of HT ?_; repeat (first | (with_reducible first | exact Below.refl _ _ | exact (Aside0.out (by assumption)) | exact (Drawn0.below (by assumption)) | apply below_alloc | apply pw_below_drewN | apply below_drew1 | assumption) | exact HB.out)))); rintro e w29 ⟨rfl, hb⟩; refine ⟨_, rfl, ?_⟩; have n0_ := Aside0.mk (below_step (by repeat (first | (with_reducible first | exact HB.out | apply below_alloc | apply pw_below_drewN | apply below_drew1) | exact HB.out)) hb); clear HB; have HB := n0_; clear n0_; (try clear hb); (try clear hb2); (try clear hk); (try clear hi)) | (go_at_call 18; (with_reducible refine (inst_Shape.calls a0 t351 _ A7.out ?tabs).mono ?_); (case tabs => (first | exact HT | (refine tabs_of HT ?_; repeat (first | (with_reducible first | exact Below.refl _ _ | exact (Aside0.out (by assumption)) | exact (Drawn0.below (by assumption)) | apply below_alloc | apply pw_below_drewN | apply below_drew1 | assumption) | exact HB.out)))); rintro e w' ⟨rfl, ⟨nd, rfl⟩⟩) | (go_at_call 23; (with_reducible refine (cleatref04_Shape.calls a0 t352 _ A8.out).mono ?_); rintro e w30 ⟨rfl, hb⟩; have n0_ := Aside0.mk (below_step (by repeat (first | (with_reducible first | exact HB.out | apply below_alloc | apply pw_below_drewN | apply below_drew1) | exact HB.out)) hb); clear HB; have HB := n0_; clear n0_; (try clear hb); (try clear hb2); (try clear hk); (try clear hi)))
   go_ret
   exact ⟨by first | rfl | (simp [errW_none, errW_some] <;> rfl) | (simp [*, errW_none, errW_some] <;> rfl), by repeat (first | (with_reducible first | exact HB.out | apply below_alloc | apply pw_below_drewN | apply below_drew1) | exact HB.out)⟩
 ·replace c6 := Bool.eq_false_iff.mpr c6
  subst c6
  rw [if_neg (show ¬ (false = true) by decide)] at H
  obtain rfl := Option.some.inj H
  go_enter Tryd.func7, Tryd.ntmps7
  go_wp2_with (first | ((with_reducible refine gate_callee (f := 21) rfl ?_); refine goesL_ (some 11) rfl rfl Tryd.func21 (by kernel_rfl) rfl #[.int .i64 a0] rfl (by (try simp only [List.map_toArray, List.map_cons, List.map_nil]); first | done | rfl | (simp only [List.length_drop, List.length_take]; rfl)) ?_; (with_reducible refine (inst_Name.calls a0 t346 t347 _ A3.out ?tabs).mono ?_); (case tabs => (first | exact HT | (refine tabs_of HT ?_; repeat (first | (with_reducible first | exact Below.refl _ _ | exact (Aside0.out (by assumption)) | exact (Drawn0.below (by assumption)) | apply below_alloc | apply pw_below_drewN | apply below_drew1 | assumption) | exact HB.out)))); rintro e w' ⟨rfl, ⟨nd, rfl⟩⟩; refine ⟨_, rfl, ?_⟩) | ((with_reducible refine gate_callee (f := 22) rfl ?_); refine goesL_ (some 16) rfl rfl Tryd.func22 (by kernel_rfl) rfl #[.int .i64 a0] rfl (by (try simp only [List.map_toArray, List.map_cons, List.map_nil]); first | done | rfl | (simp only [List.length_drop, List.length_take]; rfl)) ?_; (with_reducible refine (cleatref04_Name.calls a0 t348 t349 _ A4.out).mono ?_); rintro e w31 ⟨rfl, hb⟩; refine ⟨_, rfl, ?_⟩; have n0_ := Aside0.mk (below_step (by repeat (first | (with_reducible first | exact HB.out | apply below_alloc | apply pw_below_drewN | apply below_drew1) | exact HB.out)) hb); clear HB; have HB := n0_; clear n0_; (try clear hb); (try clear hb2); (try clear hk); (try clear hi)) | ((with_reducible refine gate_callee (f := 11) rfl ?_); refine goesL_ (some 19) rfl rfl Tryd.func11 (by kernel_rfl) rfl #[] rfl (by (try simp only [List.map_toArray, List.map_cons, List.map_nil]); first | done | rfl | (simp only [List.length_drop, List.length_take]; rfl)) ?_; (with_reducible refine (cleatlaw04_shaped.calls  false _ A5.out ?tabs).mono ?_); (case tabs => (first | exact HT | (refine tabs_of HT ?_; repeat (first | (with_reducible first | exact Below.refl _ _ | exact (Aside0.out (by assumption)) | exact (Drawn0.below (by assumption)) | apply below_alloc | apply pw_below_drewN | apply below_drew1 | assumption) | exact HB.out)))); rintro e w32 ⟨rfl, hb⟩; refine ⟨_, rfl, ?_⟩; have n0_ := Aside0.mk (below_step (by repeat (first | (with_reducible first | exact HB.out | apply below_alloc | apply pw_below_drewN | apply below_drew1) | exact HB.out)) hb); clear HB; have HB := n0_; clear n0_; (try clear hb); (try clear hb2); (try clear hk); (try clear hi)))
  go_ret
  exact ⟨by first | rfl | (simp [errW_none, errW_some] <;> rfl) | (simp [*, errW_none, errW_some] <;> rfl), by repeat (first | (with_reducible first | exact HB.out | apply below_alloc | apply pw_below_drewN | apply below_drew1) | exact HB.out)⟩


end Go.Proofs.YtgonbeifaioheaaDoor.P
