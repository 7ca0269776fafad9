-- printed by wip/tools/myprint.py out of the translation. Not trusted: Lean checks it.
import Derived.Test.YtgonbeifaioheaaDoorPx0
namespace Go.Proofs.YtgonbeifaioheaaDoor.P
open Go.RowKit Go.Proofs.YtgonbeifaioheaaDoorW.PrintWords Go.Proofs.YtgonbeifaioheaaDoorW.PrintLast Go.Proofs.YtgonbeifaioheaaDoorW.PrintMore
attribute [local go_sem] max2_int min2_int max_two min_two max_three min_three max_four min_four   -- for this text's walks alone
set_option linter.unusedVariables false
set_option linter.unusedSimpArgs false

/-! ### cleatref04_Has: function 29 -/
mutual
def cleatref04_Has.j0 : Nat → Int → ByteArray → List ByteArray → Bool → Option (Bool)
 | 0, _, _, _, _ => none
 | k + 1, x0, x1, x5, x14 => if x14 = true then (some false) else (if 0 ≤ x0 then (if x0 < (x5.length : Int) then (cleatref04_Has.l0 k x1 (rdOf ByteArray.empty x5 x0) 0) else (none)) else (none))
def cleatref04_Has.l0 : Nat → ByteArray → ByteArray → Int → Option (Bool)
 | 0, _, _, _ => none
 | k + 1, x1, x6, x7 => if x7 < (x6.size : Int) then (if 0 ≤ x7 then (if x7 ≤ (wrap64 (x7 + 1)) then (if (wrap64 (x7 + 1)) ≤ (x6.size : Int) then (if (x6.extract (x7 : Int).toNat ((wrap64 (x7 + 1)) : Int).toNat).toList = x1.toList then (some true) else (cleatref04_Has.l0 k x1 x6 (wrap64 (x7 + 1)))) else (none)) else (none)) else (none)) else (some false)
end
def cleatref04_Has.f (k : Nat) (a0 : Int) (a1 : ByteArray) : Option (Bool) := (some (([(⟨#[]⟩ : ByteArray), (⟨#[100, 105, 119]⟩ : ByteArray), (⟨#[100, 110, 105, 119]⟩ : ByteArray), (⟨#[100, 110, 107]⟩ : ByteArray), (⟨#[100, 110, 109, 115, 119]⟩ : ByteArray), (⟨#[100, 110, 109, 115, 119]⟩ : ByteArray), (⟨#[100, 110, 109, 97]⟩ : ByteArray), (⟨#[100, 110, 105]⟩ : ByteArray), (⟨#[100, 110, 105]⟩ : ByteArray), (⟨#[100, 105]⟩ : ByteArray), (⟨#[100, 105]⟩ : ByteArray), (⟨#[105]⟩ : ByteArray), (⟨#[99, 105]⟩ : ByteArray), (⟨#[110]⟩ : ByteArray), (⟨#[105]⟩ : ByteArray), (⟨#[]⟩ : ByteArray), (⟨#[100, 110, 109, 99]⟩ : ByteArray)] : List ByteArray) : List ByteArray)).bind fun y160 => (if a0 < 0 then (cleatref04_Has.j0 k a0 a1 y160 true) else (cleatref04_Has.j0 k a0 a1 y160 (decide (a0 > 16))))
theorem cleatref04_Has.mono_l : ∀ k, (∀ y0 y1 y2 y3, LeO (cleatref04_Has.j0 k y0 y1 y2 y3) (cleatref04_Has.j0 (k + 1) y0 y1 y2 y3)) ∧ (∀ y0 y1 y2, LeO (cleatref04_Has.l0 k y0 y1 y2) (cleatref04_Has.l0 (k + 1) y0 y1 y2))
 | 0 => ⟨fun _ _ _ _ r h => by simp [cleatref04_Has.j0] at h, fun _ _ _ r h => by simp [cleatref04_Has.l0] at h⟩
 | k + 1 => by
  obtain ⟨ih0, ih1⟩ := cleatref04_Has.mono_l k
  refine ⟨?_, ?_⟩
  ·intro y0 y1 y2 y3
   unfold cleatref04_Has.j0
   repeat' first
   | (with_reducible exact ih0 _ _ _ _)
   | (with_reducible exact ih1 _ _ _)
   | (with_reducible exact LeO.refl _)
   | (with_reducible exact LeO.none _)
   | (with_reducible refine LeO.ite ?_ ?_)
   | (with_reducible refine LeO.bind ?_ (fun _ => ?_))
   | exact ih0 _ _ _ _
   | exact ih1 _ _ _
   | exact LeO.none _
   | refine LeO.ite ?_ ?_
   | refine LeO.bind ?_ (fun _ => ?_)
  ·intro y0 y1 y2
   unfold cleatref04_Has.l0
   repeat' first
   | (with_reducible exact ih0 _ _ _ _)
   | (with_reducible exact ih1 _ _ _)
   | (with_reducible exact LeO.refl _)
   | (with_reducible exact LeO.none _)
   | (with_reducible refine LeO.ite ?_ ?_)
   | (with_reducible refine LeO.bind ?_ (fun _ => ?_))
   | exact ih0 _ _ _ _
   | exact ih1 _ _ _
   | exact LeO.none _
   | refine LeO.ite ?_ ?_
   | refine LeO.bind ?_ (fun _ => ?_)
theorem cleatref04_Has.mono : ∀ a0 a1 k, LeO (cleatref04_Has.f k a0 a1) (cleatref04_Has.f (k + 1) a0 a1) := by
 intro a0 a1 k
 obtain ⟨ih0, ih1⟩ := cleatref04_Has.mono_l k
 unfold cleatref04_Has.f
 repeat' first
   | (with_reducible exact ih0 _ _ _ _)
   | (with_reducible exact ih1 _ _ _)
   | (with_reducible exact LeO.refl _)
   | (with_reducible exact LeO.none _)
   | (with_reducible refine LeO.ite ?_ ?_)
   | (with_reducible refine LeO.bind ?_ (fun _ => ?_))
   | exact ih0 _ _ _ _
   | exact ih1 _ _ _
   | exact LeO.none _
   | refine LeO.ite ?_ ?_
   | refine LeO.bind ?_ (fun _ => ?_)
set_option maxHeartbeats 8000000 in
set_option maxRecDepth 100000 in
theorem cleatref04_Has.calls (k : Nat) (a0 : Int) (a1 : ByteArray) (r : Bool) (w : World) (h : cleatref04_Has.f k a0 a1 = some r) :
  Calls Tryd.prog 29 #[.int .i64 a0, .string a1] w fun e w' => e = .returned (.bool r) ∧ Below w.heap.size w w' := by
 have HB := Aside0.mk (Below.refl w.heap.size w)
 have H : ((some (([(⟨#[]⟩ : ByteArray), (⟨#[100, 105, 119]⟩ : ByteArray), (⟨#[100, 110, 105, 119]⟩ : ByteArray), (⟨#[100, 110, 107]⟩ : ByteArray), (⟨#[100, 110, 109, 115, 119]⟩ : ByteArray), (⟨#[100, 110, 109, 115, 119]⟩ : ByteArray), (⟨#[100, 110, 109, 97]⟩ : ByteArray), (⟨#[100, 110, 105]⟩ : ByteArray), (⟨#[100, 110, 105]⟩ : ByteArray), (⟨#[100, 105]⟩ : ByteArray), (⟨#[100, 105]⟩ : ByteArray), (⟨#[105]⟩ : ByteArray), (⟨#[99, 105]⟩ : ByteArray), (⟨#[110]⟩ : ByteArray), (⟨#[105]⟩ : ByteArray), (⟨#[]⟩ : ByteArray), (⟨#[100, 110, 109, 99]⟩ : ByteArray)] : List ByteArray) : List ByteArray)).bind fun y160 => (if a0 < 0 then (cleatref04_Has.j0 k a0 a1 y160 true) else (cleatref04_Has.j0 k a0 a1 y160 (decide (a0 > 16))))) = some r := h
 clear h
 obtain ⟨y160, hy160⟩ : ∃ y_ : List ByteArray, y_ = (([(⟨#[]⟩ : ByteArray), (⟨#[100, 105, 119]⟩ : ByteArray), (⟨#[100, 110, 105, 119]⟩ : ByteArray), (⟨#[100, 110, 107]⟩ : ByteArray), (⟨#[100, 110, 109, 115, 119]⟩ : ByteArray), (⟨#[100, 110, 109, 115, 119]⟩ : ByteArray), (⟨#[100, 110, 109, 97]⟩ : ByteArray), (⟨#[100, 110, 105]⟩ : ByteArray), (⟨#[100, 110, 105]⟩ : ByteArray), (⟨#[100, 105]⟩ : ByteArray), (⟨#[100, 105]⟩ : ByteArray), (⟨#[105]⟩ : ByteArray), (⟨#[99, 105]⟩ : ByteArray), (⟨#[110]⟩ : ByteArray), (⟨#[105]⟩ : ByteArray), (⟨#[]⟩ : ByteArray), (⟨#[100, 110, 109, 99]⟩ : ByteArray)] : List ByteArray)) := ⟨_, rfl⟩
 replace H : (if a0 < 0 then (cleatref04_Has.j0 k a0 a1 y160 true) else (cleatref04_Has.j0 k a0 a1 y160 (decide (a0 > 16)))) = some r := by first | (rw [hy160]; with_reducible exact H) | (have H2_ := (Option.bind_some _ _).symm.trans H; rw [hy160]; with_reducible exact H2_) | (have H2_ := (Option.bind_some _ _).symm.trans H; with_reducible exact H2_) | with_reducible exact H | (rw [hy160]; exact H) | exact H
 have Ny160 := Aside0.mk hy160
 clear hy160
 have HC3 := Aside0.mk H
 clear H
 go_enter Tryd.func29, Tryd.ntmps29
 go_upto_region 2 with (first | ((with_reducible refine gate_dst (N := 8) rfl ?_); refine Kd.R_lit Kd.string _ 9 ?hg (N := 8) ?hd (xs := ([(⟨#[]⟩ : ByteArray), (⟨#[100, 105, 119]⟩ : ByteArray), (⟨#[100, 110, 105, 119]⟩ : ByteArray), (⟨#[100, 110, 107]⟩ : ByteArray), (⟨#[100, 110, 109, 115, 119]⟩ : ByteArray), (⟨#[100, 110, 109, 115, 119]⟩ : ByteArray), (⟨#[100, 110, 109, 97]⟩ : ByteArray), (⟨#[100, 110, 105]⟩ : ByteArray), (⟨#[100, 110, 105]⟩ : ByteArray), (⟨#[100, 105]⟩ : ByteArray), (⟨#[100, 105]⟩ : ByteArray), (⟨#[105]⟩ : ByteArray), (⟨#[99, 105]⟩ : ByteArray), (⟨#[110]⟩ : ByteArray), (⟨#[105]⟩ : ByteArray), (⟨#[]⟩ : ByteArray), (⟨#[100, 110, 109, 99]⟩ : ByteArray)] : List ByteArray)) (inner := [.string (⟨#[]⟩ : ByteArray), .string (⟨#[100, 105, 119]⟩ : ByteArray), .string (⟨#[100, 110, 105, 119]⟩ : ByteArray), .string (⟨#[100, 110, 107]⟩ : ByteArray), .string (⟨#[100, 110, 109, 115, 119]⟩ : ByteArray), .string (⟨#[100, 110, 109, 115, 119]⟩ : ByteArray), .string (⟨#[100, 110, 109, 97]⟩ : ByteArray), .string (⟨#[100, 110, 105]⟩ : ByteArray), .string (⟨#[100, 110, 105]⟩ : ByteArray), .string (⟨#[100, 105]⟩ : ByteArray), .string (⟨#[100, 105]⟩ : ByteArray), .string (⟨#[105]⟩ : ByteArray), .string (⟨#[99, 105]⟩ : ByteArray), .string (⟨#[110]⟩ : ByteArray), .string (⟨#[105]⟩ : ByteArray), .string (⟨#[]⟩ : ByteArray), .string (⟨#[100, 110, 109, 99]⟩ : ByteArray)]) (ok := fun _ => True) (okp := fun _ => True) ?hr ?hp (fun _ hk => hk) trivial (Below.refl _ _) (Nat.le_refl _) (by simp) ?_; (case hd => rfl); (case hg => rfl); (case hr => first | (go_simp; done) | (go_simp; rfl)); (case hp => exact (Reps.one (show Kd.M Kd.string _ _ _ (⟨#[]⟩ : ByteArray) [.string (⟨#[]⟩ : ByteArray)] from rfl) (Reps.one (show Kd.M Kd.string _ _ _ (⟨#[100, 105, 119]⟩ : ByteArray) [.string (⟨#[100, 105, 119]⟩ : ByteArray)] from rfl) (Reps.one (show Kd.M Kd.string _ _ _ (⟨#[100, 110, 105, 119]⟩ : ByteArray) [.string (⟨#[100, 110, 105, 119]⟩ : ByteArray)] from rfl) (Reps.one (show Kd.M Kd.string _ _ _ (⟨#[100, 110, 107]⟩ : ByteArray) [.string (⟨#[100, 110, 107]⟩ : ByteArray)] from rfl) (Reps.one (show Kd.M Kd.string _ _ _ (⟨#[100, 110, 109, 115, 119]⟩ : ByteArray) [.string (⟨#[100, 110, 109, 115, 119]⟩ : ByteArray)] from rfl) (Reps.one (show Kd.M Kd.string _ _ _ (⟨#[100, 110, 109, 115, 119]⟩ : ByteArray) [.string (⟨#[100, 110, 109, 115, 119]⟩ : ByteArray)] from rfl) (Reps.one (show Kd.M Kd.string _ _ _ (⟨#[100, 110, 109, 97]⟩ : ByteArray) [.string (⟨#[100, 110, 109, 97]⟩ : ByteArray)] from rfl) (Reps.one (show Kd.M Kd.string _ _ _ (⟨#[100, 110, 105]⟩ : ByteArray) [.string (⟨#[100, 110, 105]⟩ : ByteArray)] from rfl) (Reps.one (show Kd.M Kd.string _ _ _ (⟨#[100, 110, 105]⟩ : ByteArray) [.string (⟨#[100, 110, 105]⟩ : ByteArray)] from rfl) (Reps.one (show Kd.M Kd.string _ _ _ (⟨#[100, 105]⟩ : ByteArray) [.string (⟨#[100, 105]⟩ : ByteArray)] from rfl) (Reps.one (show Kd.M Kd.string _ _ _ (⟨#[100, 105]⟩ : ByteArray) [.string (⟨#[100, 105]⟩ : ByteArray)] from rfl) (Reps.one (show Kd.M Kd.string _ _ _ (⟨#[105]⟩ : ByteArray) [.string (⟨#[105]⟩ : ByteArray)] from rfl) (Reps.one (show Kd.M Kd.string _ _ _ (⟨#[99, 105]⟩ : ByteArray) [.string (⟨#[99, 105]⟩ : ByteArray)] from rfl) (Reps.one (show Kd.M Kd.string _ _ _ (⟨#[110]⟩ : ByteArray) [.string (⟨#[110]⟩ : ByteArray)] from rfl) (Reps.one (show Kd.M Kd.string _ _ _ (⟨#[105]⟩ : ByteArray) [.string (⟨#[105]⟩ : ByteArray)] from rfl) (Reps.one (show Kd.M Kd.string _ _ _ (⟨#[]⟩ : ByteArray) [.string (⟨#[]⟩ : ByteArray)] from rfl) (Reps.one (show Kd.M Kd.string _ _ _ (⟨#[100, 110, 109, 99]⟩ : ByteArray) [.string (⟨#[100, 110, 109, 99]⟩ : ByteArray)] from rfl) (Reps.none _ _))))))))))))))))))); intro v161 w4 ho5 hb hg_ hnew_; clear hg_ hnew_; (first | rw [← Ny160.out] at ho5 | (simp only [Int.reduceToNat] at ho5; rw [← Ny160.out] at ho5)); have n0_ := Aside0.mk (Kd.R_lower ho5 (below_size (by repeat (first | (with_reducible first | exact HB.out | apply below_alloc | apply pw_below_drewN | apply below_drew1) | exact HB.out)))); have n1_ := Aside0.mk (below_step (by repeat (first | (with_reducible first | exact HB.out | apply below_alloc | apply pw_below_drewN | apply below_drew1) | exact HB.out)) hb); clear HB; have HO162 := n0_; have HB := n1_; clear n0_ n1_; clear hb ho5))
 (try simp only [Act.put, List.setIfInBounds_toArray, List.set_cons_zero, List.set_cons_succ])
 go_cut [14] (fun v14 wc => ∃ (kq : Nat) (x14_2 : Bool), v14 = .bool x14_2 ∧ Aside0 (cleatref04_Has.j0 kq a0 a1 y160 x14_2 = some r) ∧ Aside0 (kq ≤ k) ∧ Aside0 (Kd.R Kd.string 9 wc w.heap.size (fun _ => True) v161 y160) ∧ Aside0 (Below w.heap.size w wc))
 case first =>
  have H := HC3.out
  clear HC3
  by_cases c6 : a0 < 0
  ·rw [if_pos c6] at H
   have c6b0 : decide (a0 < 0) = true := decide_eq_true c6
   clear c6
   (first | rw [c6b0] | (simp only [i64_w, i32_w]; rw [c6b0]) | skip)
   have H' := Aside0.mk H
   clear H
   go_wp2
   go_meet
   case rel => exact ⟨_, (true), (by first | rfl | (simp; done) | (simp [*]; done)), H', ⟨by first | omega | exact Nat.le_refl _⟩, ⟨by (with_reducible repeat (first | apply Kd.R_alloc | apply Kd.R_drewN | apply Kd.R_drew)); exact HO162.out⟩, ⟨by repeat (first | (with_reducible first | exact HB.out | apply below_alloc | apply pw_below_drewN | apply below_drew1) | exact HB.out)⟩⟩
  ·rw [if_neg c6] at H
   have c6b0 : decide (a0 < 0) = false := decide_eq_false c6
   clear c6
   (first | rw [c6b0] | (simp only [i64_w, i32_w]; rw [c6b0]) | skip)
   have H' := Aside0.mk H
   clear H
   go_wp2
   go_meet
   case rel => exact ⟨_, (decide (a0 > 16)), (by first | rfl | (simp; done) | (simp [*]; done)), H', ⟨by first | omega | exact Nat.le_refl _⟩, ⟨by (with_reducible repeat (first | apply Kd.R_alloc | apply Kd.R_drewN | apply Kd.R_drew)); exact HO162.out⟩, ⟨by repeat (first | (with_reducible first | exact HB.out | apply below_alloc | apply pw_below_drewN | apply below_drew1) | exact HB.out)⟩⟩
 case rest =>
  clear HC3
  try clear c2
  try clear p2
  try clear c6
  try clear c6b0
  obtain ⟨kq, x14_2, rfl, HA, HJ2, HO_5, HB⟩ := hcut
  cases kq with
  | zero => exact absurd HA.out (by simp [cleatref04_Has.j0])
  | succ kj2 =>
   have H := HA.out
   clear HA
   simp only [cleatref04_Has.j0] at H
   by_cases c7 : x14_2 = true
   ·subst c7
    rw [if_pos rfl] at H
    obtain rfl := Option.some.inj H
    go_wp2
    go_ret
    exact ⟨by first | rfl | (simp [errW_none, errW_some] <;> rfl) | (simp [*, errW_none, errW_some] <;> rfl), by repeat (first | (with_reducible first | exact HB.out | apply below_alloc | apply pw_below_drewN | apply below_drew1) | exact HB.out)⟩
   ·replace c7 := Bool.eq_false_iff.mpr c7
    subst c7
    rw [if_neg (show ¬ (false = true) by decide)] at H
    by_cases c8 : 0 ≤ a0
    ·rw [if_pos c8] at H
     have c8b0 : decide (0 ≤ a0) = true := decide_eq_true c8
     clear c8
     by_cases c9 : a0 < (y160.length : Int)
     ·rw [if_pos c9] at H
      have c9b0 : decide (a0 < (y160.length : Int)) = true := decide_eq_true c9
      clear c9
      have H' := Aside0.mk H
      clear H
      obtain ⟨Ao10, co10, eo10⟩ := Kd.R_slice HO_5.out
      subst eo10
      have p163 : 0 ≤ (a0 : Int) := of_decide_eq_true (by first | (with_reducible assumption) | assumption)
      have q163 : a0 < (y160.length : Int) := of_decide_eq_true (by first | (with_reducible assumption) | assumption)
      obtain ⟨ad163, e163, hx163_0⟩ := Kd.at_string (Kd.R_reads' HO_5.out).2.2 a0 p163 q163
      cases e163
      replace p163 := eq_true p163
      replace q163 := eq_true q163
      go_wp2
      go_loopg [7] kj2 (fun kq v7 w' => ∃ (x7_2 : Int), v7 = .int .i64 x7_2 ∧ Aside0 (cleatref04_Has.l0 kq a1 (rdOf ByteArray.empty y160 a0) x7_2 = some r) ∧ Aside0 (kq ≤ kj2) ∧ Aside0 (Below w.heap.size w w'))
      case atStart => exact ⟨(0), (by first | rfl | (simp; done) | (simp [*]; done)), H', ⟨Nat.le_refl _⟩, ⟨by repeat (first | (with_reducible first | exact HB.out | apply below_alloc | apply pw_below_drewN | apply below_drew1) | exact HB.out)⟩⟩
      case round =>
       clear H'
       try clear p1
       try clear q1
       try clear hx1
       try clear c2
       try clear p2
       try clear c6
       try clear c6b0
       try clear c7
       try clear c8
       try clear c8b0
       try clear c9
       try clear c9b0
       try clear hx163_0
       try clear p163
       try clear p2
       try clear q163
       obtain ⟨x7_2, rfl, HA, HK2, HB⟩ := hrel
       cases gk with
       | zero => exact absurd HA.out (by simp [cleatref04_Has.l0])
       | succ k2 =>
        have H := HA.out
        clear HA
        simp only [cleatref04_Has.l0] at H
        by_cases c11 : x7_2 < ((rdOf ByteArray.empty y160 a0).size : Int)
        ·rw [if_pos c11] at H
         have c11b0 : decide (x7_2 < ((rdOf ByteArray.empty y160 a0).size : Int)) = true := decide_eq_true c11
         clear c11
         by_cases c12 : 0 ≤ x7_2
         ·rw [if_pos c12] at H
          have c12b0 := eq_true c12
          have c12b1 : decide (0 ≤ x7_2) = true := decide_eq_true c12
          clear c12
          by_cases c13 : x7_2 ≤ (wrap64 (x7_2 + 1))
          ·rw [if_pos c13] at H
           have c13b0 := eq_true c13
           have c13b1 : decide (x7_2 ≤ (wrap64 (x7_2 + 1))) = true := decide_eq_true c13
           by_cases c14 : (wrap64 (x7_2 + 1)) ≤ ((rdOf ByteArray.empty y160 a0).size : Int)
           ·rw [if_pos c14] at H
            have c14b0 := eq_true c14
            have c14b1 : decide ((wrap64 (x7_2 + 1)) ≤ ((rdOf ByteArray.empty y160 a0).size : Int)) = true := decide_eq_true c14
            by_cases c15 : ((rdOf ByteArray.empty y160 a0).extract (x7_2 : Int).toNat ((wrap64 (x7_2 + 1)) : Int).toNat).toList = a1.toList
            ·rw [if_pos c15] at H
             have c15b0 : (((rdOf ByteArray.empty y160 a0).extract (x7_2 : Int).toNat ((wrap64 (x7_2 + 1)) : Int).toNat).toList == a1.toList) = true := beq_iff_eq.mpr c15
             have c15b1 : (((rdOf ByteArray.empty y160 a0).extract (x7_2 : Int).toNat ((wrap64 (x7_2 + 1)) : Int).toNat).toList != a1.toList) = false := bne_eq_false_iff_eq.mpr c15
             clear c15
             obtain rfl := Option.some.inj H
             go_wp2
             go_ret
             exact ⟨by first | rfl | (simp [errW_none, errW_some] <;> rfl) | (simp [*, errW_none, errW_some] <;> rfl), by repeat (first | (with_reducible first | exact HB.out | apply below_alloc | apply pw_below_drewN | apply below_drew1) | exact HB.out)⟩
            ·rw [if_neg c15] at H
             have c15b0 : (((rdOf ByteArray.empty y160 a0).extract (x7_2 : Int).toNat ((wrap64 (x7_2 + 1)) : Int).toNat).toList == a1.toList) = false := beq_eq_false_iff_ne.mpr c15
             have c15b1 : (((rdOf ByteArray.empty y160 a0).extract (x7_2 : Int).toNat ((wrap64 (x7_2 + 1)) : Int).toNat).toList != a1.toList) = true := bne_iff_ne.mpr c15
             have H' := Aside0.mk H
             clear H
             go_wp2
             go_roundg k2
             case measure => have := HJ2.out; have := HK2.out; omega
             case rel => exact ⟨(wrap64 (x7_2 + 1)), (by first | rfl | (simp; done) | (simp [*]; done)), H', ⟨by have := HJ2.out; have := HK2.out; omega⟩, ⟨by repeat (first | (with_reducible first | exact HB.out | apply below_alloc | apply pw_below_drewN | apply below_drew1) | exact HB.out)⟩⟩
           ·rw [if_neg c14] at H
            exact absurd H (by simp)
          ·rw [if_neg c13] at H
           exact absurd H (by simp)
         ·rw [if_neg c12] at H
          exact absurd H (by simp)
        ·rw [if_neg c11] at H
         have c11b0 : decide (x7_2 < ((rdOf ByteArray.empty y160 a0).size : Int)) = false := decide_eq_false c11
         clear c11
         obtain rfl := Option.some.inj H
         go_wp2
         go_ret
         exact ⟨by first | rfl | (simp [errW_none, errW_some] <;> rfl) | (simp [*, errW_none, errW_some] <;> rfl), by repeat (first | (with_reducible first | exact HB.out | apply below_alloc | apply pw_below_drewN | apply below_drew1) | exact HB.out)⟩
     ·rw [if_neg c9] at H
      exact absurd H (by simp)
    ·rw [if_neg c8] at H
     exact absurd H (by simp)

/-! ### cleatref04_reg: function 34 -/
def cleatref04_reg.f (k : Nat) (a0 : Int) (a1 : ByteArray) (a2 : Int) : Option (Bool) := (cleatref04_Has.f k a0 a1).bind fun t164 => (if t164 = true then (if a2 ≥ 0 then (some (decide (a2 ≤ 31))) else (some false)) else (some (a2 == 0)))
theorem cleatref04_reg.mono : ∀ a0 a1 a2 k, LeO (cleatref04_reg.f k a0 a1 a2) (cleatref04_reg.f (k + 1) a0 a1 a2) := by
 intro a0 a1 a2 k
 unfold cleatref04_reg.f
 repeat' first
   | (with_reducible exact cleatref04_Has.mono _ _ _)
   | (with_reducible exact LeO.refl _)
   | (with_reducible exact LeO.none _)
   | (with_reducible refine LeO.ite ?_ ?_)
   | (with_reducible refine LeO.bind ?_ (fun _ => ?_))
   | exact cleatref04_Has.mono _ _ _
   | exact LeO.none _
   | refine LeO.ite ?_ ?_
   | refine LeO.bind ?_ (fun _ => ?_)
set_option maxHeartbeats 8000000 in
set_option maxRecDepth 100000 in
theorem cleatref04_reg.calls (k : Nat) (a0 : Int) (a1 : ByteArray) (a2 : Int) (r : Bool) (w : World) (h : cleatref04_reg.f k a0 a1 a2 = some r) :
  Calls Tryd.prog 34 #[.int .i64 a0, .string a1, .int .i64 a2] w fun e w' => e = .returned (.bool r) ∧ Below w.heap.size w w' := by
 have HB := Aside0.mk (Below.refl w.heap.size w)
 have H : ((cleatref04_Has.f k a0 a1).bind fun t164 => (if t164 = true then (if a2 ≥ 0 then (some (decide (a2 ≤ 31))) else (some false)) else (some (a2 == 0)))) = some r := h
 clear h
 replace H := Option.bind_eq_some_iff.mp H
 obtain ⟨t164, A40, H⟩ := H
 replace H : (if t164 = true then (if a2 ≥ 0 then (some (decide (a2 ≤ 31))) else (some false)) else (some (a2 == 0))) = some r := H
 have A4 := Aside0.mk A40
 clear A40
 by_cases c5 : t164 = true
 ·subst c5
  rw [if_pos rfl] at H
  by_cases c6 : a2 ≥ 0
  ·rw [if_pos c6] at H
   have c6b0 : decide (0 ≤ a2) = true := decide_eq_true c6
   clear c6
   obtain rfl := Option.some.inj H
   go_enter Tryd.func34, Tryd.ntmps34
   go_wp2_with (first | ((with_reducible refine gate_callee (f := 29) rfl ?_); refine goesL_ (some 9) rfl rfl Tryd.func29 (by kernel_rfl) rfl #[.int .i64 a0, .string a1] rfl (by (try simp only [List.map_toArray, List.map_cons, List.map_nil]); first | done | rfl | (simp only [List.length_drop, List.length_take]; rfl)) ?_; (with_reducible refine (cleatref04_Has.calls k a0 a1 true _ A4.out).mono ?_); rintro e w7 ⟨rfl, hb⟩; refine ⟨_, rfl, ?_⟩; have n0_ := Aside0.mk (below_step (by repeat (first | (with_reducible first | exact HB.out | apply below_alloc | apply pw_below_drewN | apply below_drew1) | exact HB.out)) hb); clear HB; have HB := n0_; clear n0_; (try clear hb); (try clear hb2); (try clear hk); (try clear hi)))
   go_ret
   exact ⟨by first | rfl | (simp [errW_none, errW_some] <;> rfl) | (simp [*, errW_none, errW_some] <;> rfl), by repeat (first | (with_reducible first | exact HB.out | apply below_alloc | apply pw_below_drewN | apply below_drew1) | exact HB.out)⟩
  ·rw [if_neg c6] at H
   have c6b0 : decide (0 ≤ a2) = false := decide_eq_false c6
   clear c6
   obtain rfl := Option.some.inj H
   go_enter Tryd.func34, Tryd.ntmps34
   go_wp2_with (first | ((with_reducible refine gate_callee (f := 29) rfl ?_); refine goesL_ (some 9) rfl rfl Tryd.func29 (by kernel_rfl) rfl #[.int .i64 a0, .string a1] rfl (by (try simp only [List.map_toArray, List.map_cons, List.map_nil]); first | done | rfl | (simp only [List.length_drop, List.length_take]; rfl)) ?_; (with_reducible refine (cleatref04_Has.calls k a0 a1 true _ A4.out).mono ?_); rintro e w8 ⟨rfl, hb⟩; refine ⟨_, rfl, ?_⟩; have n0_ := Aside0.mk (below_step (by repeat (first | (with_reducible first | exact HB.out | apply below_alloc | apply pw_below_drewN | apply below_drew1) | exact HB.out)) hb); clear HB; have HB := n0_; clear n0_; (try clear hb); (try clear hb2); (try clear hk); (try clear hi)))
   go_ret
   exact ⟨by first | rfl | (simp [errW_none, errW_some] <;> rfl) | (simp [*, errW_none, errW_some] <;> rfl), by repeat (first | (with_reducible first | exact HB.out | apply below_alloc | apply pw_below_drewN | apply below_drew1) | exact HB.out)⟩
 ·replace c5 := Bool.eq_false_iff.mpr c5
  subst c5
  rw [if_neg (show ¬ (false = true) by decide)] at H
  obtain rfl := Option.some.inj H
  go_enter Tryd.func34, Tryd.ntmps34
  go_wp2_with (first | ((with_reducible refine gate_callee (f := 29) rfl ?_); refine goesL_ (some 9) rfl rfl Tryd.func29 (by kernel_rfl) rfl #[.int .i64 a0, .string a1] rfl (by (try simp only [List.map_toArray, List.map_cons, List.map_nil]); first | done | rfl | (simp only [List.length_drop, List.length_take]; rfl)) ?_; (with_reducible refine (cleatref04_Has.calls k a0 a1 false _ A4.out).mono ?_); rintro e w9 ⟨rfl, hb⟩; refine ⟨_, rfl, ?_⟩; have n0_ := Aside0.mk (below_step (by repeat (first | (with_reducible first | exact HB.out | apply below_alloc | apply pw_below_drewN | apply below_drew1) | exact HB.out)) hb); clear HB; have HB := n0_; clear n0_; (try clear hb); (try clear hb2); (try clear hk); (try clear hi)))
  go_ret
  exact ⟨by first | rfl | (simp [errW_none, errW_some] <;> rfl) | (simp [*, errW_none, errW_some] <;> rfl), by repeat (first | (with_reducible first | exact HB.out | apply below_alloc | apply pw_below_drewN | apply below_drew1) | exact HB.out)⟩

/-! ### cleatref01_Power: function 58 -/
def cleatref01_Power.l0 : Nat → Int → Int → Int → Option (Int)
 | 0, _, _, _ => none
 | k + 1, x0, x3, x4 => if x4 < x0 then (cleatref01_Power.l0 k x0 (IntKind.u64.wrap (2 * x3)) (wrap64 (x4 + 1))) else (some x3)
def cleatref01_Power.f (k : Nat) (a0 : Int) : Option (Int) := cleatref01_Power.l0 k a0 1 0
theorem cleatref01_Power.mono_l : ∀ k, (∀ y0 y1 y2, LeO (cleatref01_Power.l0 k y0 y1 y2) (cleatref01_Power.l0 (k + 1) y0 y1 y2))
 | 0 => fun _ _ _ r h => by simp [cleatref01_Power.l0] at h
 | k + 1 => by
  have ih0 := cleatref01_Power.mono_l k
  ·intro y0 y1 y2
   unfold cleatref01_Power.l0
   repeat' first
   | (with_reducible exact ih0 _ _ _)
   | (with_reducible exact LeO.refl _)
   | (with_reducible exact LeO.none _)
   | (with_reducible refine LeO.ite ?_ ?_)
   | (with_reducible refine LeO.bind ?_ (fun _ => ?_))
   | exact ih0 _ _ _
   | exact LeO.none _
   | refine LeO.ite ?_ ?_
   | refine LeO.bind ?_ (fun _ => ?_)
theorem cleatref01_Power.mono : ∀ a0 k, LeO (cleatref01_Power.f k a0) (cleatref01_Power.f (k + 1) a0) := by
 intro a0 k
 have ih0 := cleatref01_Power.mono_l k
 unfold cleatref01_Power.f
 repeat' first
   | (with_reducible exact ih0 _ _ _)
   | (with_reducible exact LeO.refl _)
   | (with_reducible exact LeO.none _)
   | (with_reducible refine LeO.ite ?_ ?_)
   | (with_reducible refine LeO.bind ?_ (fun _ => ?_))
   | exact ih0 _ _ _
   | exact LeO.none _
   | refine LeO.ite ?_ ?_
   | refine LeO.bind ?_ (fun _ => ?_)
set_option maxHeartbeats 8000000 in
set_option maxRecDepth 100000 in
theorem cleatref01_Power.calls (k : Nat) (a0 : Int) (r : Int) (w : World) (h : cleatref01_Power.f k a0 = some r) :
  Calls Tryd.prog 58 #[.int .i64 a0] w fun e w' => e = .returned (.int .u64 r) ∧ Drawn0 w w' := by
 have H : (cleatref01_Power.l0 k a0 1 0) = some r := h
 clear h
 have H' := Aside0.mk H
 clear H
 go_enter Tryd.func58, Tryd.ntmps58
 go_wp2
 go_loopg [3, 4] k (fun kq v3 v4 w' => ∃ (x3_1 : Int) (x4_1 : Int), v3 = .int .u64 x3_1 ∧ v4 = .int .i64 x4_1 ∧ Aside0 (cleatref01_Power.l0 kq a0 x3_1 x4_1 = some r) ∧ Aside0 (kq ≤ k) ∧ Drawn0 w w')
 case atStart => exact ⟨(1), (0), (by first | rfl | (simp; done) | (simp [*]; done)), (by first | rfl | (simp; done) | (simp [*]; done)), H', ⟨Nat.le_refl _⟩, by repeat (first | exact Drawn0.refl _ | apply Drawn0.step)⟩
 case round =>
  clear H'
  obtain ⟨x3_1, x4_1, rfl, rfl, HA, HK1, ⟨m1, rfl⟩⟩ := hrel
  cases gk with
  | zero => exact absurd HA.out (by simp [cleatref01_Power.l0])
  | succ k1 =>
   have H := HA.out
   clear HA
   simp only [cleatref01_Power.l0] at H
   by_cases c2 : x4_1 < a0
   ·rw [if_pos c2] at H
    have c2b0 : decide (x4_1 < a0) = true := decide_eq_true c2
    clear c2
    have H' := Aside0.mk H
    clear H
    go_wp2
    go_roundg k1
    case measure => have := HK1.out; omega
    case rel => exact ⟨(IntKind.u64.wrap (2 * x3_1)), (wrap64 (x4_1 + 1)), (by first | rfl | (simp; done) | (simp [*]; done)), (by first | rfl | (simp; done) | (simp [*]; done)), H', ⟨by have := HK1.out; omega⟩, by repeat (first | exact Drawn0.refl _ | apply Drawn0.step)⟩
   ·rw [if_neg c2] at H
    have c2b0 : decide (x4_1 < a0) = false := decide_eq_false c2
    clear c2
    obtain rfl := Option.some.inj H
    go_wp2
    go_ret
    exact ⟨by first | rfl | (simp; done) | (simp [*]; done), by repeat (first | exact Drawn0.refl _ | apply Drawn0.step)⟩

/-! ### cleatref01_Low: function 52 -/
def cleatref01_Low.f (k : Nat) (a0 : Int) (a1 : Int) : Option (Int) := if a1 ≤ 0 then (some 0) else (if a1 ≥ 64 then (some a0) else ((cleatref01_Power.f k a1).bind fun t165 => (if t165 = 0 then (none) else (some (Int.tmod a0 t165)))))
theorem cleatref01_Low.mono : ∀ a0 a1 k, LeO (cleatref01_Low.f k a0 a1) (cleatref01_Low.f (k + 1) a0 a1) := by
 intro a0 a1 k
 unfold cleatref01_Low.f
 repeat' first
   | (with_reducible exact cleatref01_Power.mono _ _)
   | (with_reducible exact LeO.refl _)
   | (with_reducible exact LeO.none _)
   | (with_reducible refine LeO.ite ?_ ?_)
   | (with_reducible refine LeO.bind ?_ (fun _ => ?_))
   | exact cleatref01_Power.mono _ _
   | exact LeO.none _
   | refine LeO.ite ?_ ?_
   | refine LeO.bind ?_ (fun _ => ?_)
set_option maxHeartbeats 8000000 in
set_option maxRecDepth 100000 in
theorem cleatref01_Low.calls (k : Nat) (a0 : Int) (a1 : Int) (r : Int) (w : World) (h : cleatref01_Low.f k a0 a1 = some r) :
  Calls Tryd.prog 52 #[.int .u64 a0, .int .i64 a1] w fun e w' => e = .returned (.int .u64 r) ∧ Drawn0 w w' := by
 have H : (if a1 ≤ 0 then (some 0) else (if a1 ≥ 64 then (some a0) else ((cleatref01_Power.f k a1).bind fun t165 => (if t165 = 0 then (none) else (some (Int.tmod a0 t165)))))) = some r := h
 clear h
 by_cases c3 : a1 ≤ 0
 ·rw [if_pos c3] at H
  have c3b0 : decide (a1 ≤ 0) = true := decide_eq_true c3
  clear c3
  obtain rfl := Option.some.inj H
  go_enter Tryd.func52, Tryd.ntmps52
  go_wp2
  go_ret
  exact ⟨by first | rfl | (simp; done) | (simp [*]; done), by repeat (first | exact Drawn0.refl _ | apply Drawn0.step)⟩
 ·rw [if_neg c3] at H
  have c3b0 : decide (a1 ≤ 0) = false := decide_eq_false c3
  clear c3
  by_cases c4 : a1 ≥ 64
  ·rw [if_pos c4] at H
   have c4b0 : decide (64 ≤ a1) = true := decide_eq_true c4
   clear c4
   obtain rfl := Option.some.inj H
   go_enter Tryd.func52, Tryd.ntmps52
   go_wp2
   go_ret
   exact ⟨by first | rfl | (simp; done) | (simp [*]; done), by repeat (first | exact Drawn0.refl _ | apply Drawn0.step)⟩
  ·rw [if_neg c4] at H
   have c4b0 : decide (64 ≤ a1) = false := decide_eq_false c4
   clear c4
   replace H := Option.bind_eq_some_iff.mp H
   obtain ⟨t165, A50, H⟩ := H
   replace H : (if t165 = 0 then (none) else (some (Int.tmod a0 t165))) = some r := H
   have A5 := Aside0.mk A50
   clear A50
   by_cases c6 : t165 = 0
   ·rw [if_pos c6] at H
    exact absurd H (by simp)
   ·rw [if_neg c6] at H
    have c6b0 : (t165 == 0) = false := beq_eq_false_iff_ne.mpr c6
    have c6b1 : (t165 != 0) = true := bne_iff_ne.mpr c6
    obtain rfl := Option.some.inj H
    go_enter Tryd.func52, Tryd.ntmps52
    go_wp2_with (first | ((with_reducible refine gate_callee (f := 58) rfl ?_); refine goesL_ (some 12) rfl rfl Tryd.func58 (by kernel_rfl) rfl #[.int .i64 a1] rfl (by (try simp only [List.map_toArray, List.map_cons, List.map_nil]); first | done | rfl | (simp only [List.length_drop, List.length_take]; rfl)) ?_; (with_reducible refine (cleatref01_Power.calls k a1 t165 _ A5.out).mono ?_); rintro e w' ⟨rfl, ⟨nd, rfl⟩⟩; refine ⟨_, rfl, ?_⟩))
    go_ret
    exact ⟨by first | rfl | (simp; done) | (simp [*]; done), by repeat (first | exact Drawn0.refl _ | apply Drawn0.step)⟩

/-! ### cleatref01_Bit: function 57 -/
def cleatref01_Bit.f (k : Nat) (a0 : Int) (a1 : Int) : Option (Bool) := (cleatref01_Power.f k a1).bind fun t166 => (if t166 = 0 then (none) else (some ((Int.tmod (IntKind.u64.wrap (Int.tdiv a0 t166)) 2) == 1)))
theorem cleatref01_Bit.mono : ∀ a0 a1 k, LeO (cleatref01_Bit.f k a0 a1) (cleatref01_Bit.f (k + 1) a0 a1) := by
 intro a0 a1 k
 unfold cleatref01_Bit.f
 repeat' first
   | (with_reducible exact cleatref01_Power.mono _ _)
   | (with_reducible exact LeO.refl _)
   | (with_reducible exact LeO.none _)
   | (with_reducible refine LeO.ite ?_ ?_)
   | (with_reducible refine LeO.bind ?_ (fun _ => ?_))
   | exact cleatref01_Power.mono _ _
   | exact LeO.none _
   | refine LeO.ite ?_ ?_
   | refine LeO.bind ?_ (fun _ => ?_)
set_option maxHeartbeats 8000000 in
set_option maxRecDepth 100000 in
theorem cleatref01_Bit.calls (k : Nat) (a0 : Int) (a1 : Int) (r : Bool) (w : World) (h : cleatref01_Bit.f k a0 a1 = some r) :
  Calls Tryd.prog 57 #[.int .u64 a0, .int .i64 a1] w fun e w' => e = .returned (.bool r) ∧ Drawn0 w w' := by
 have H : ((cleatref01_Power.f k a1).bind fun t166 => (if t166 = 0 then (none) else (some ((Int.tmod (IntKind.u64.wrap (Int.tdiv a0 t166)) 2) == 1)))) = some r := h
 clear h
 replace H := Option.bind_eq_some_iff.mp H
 obtain ⟨t166, A30, H⟩ := H
 replace H : (if t166 = 0 then (none) else (some ((Int.tmod (IntKind.u64.wrap (Int.tdiv a0 t166)) 2) == 1))) = some r := H
 have A3 := Aside0.mk A30
 clear A30
 by_cases c4 : t166 = 0
 ·rw [if_pos c4] at H
  exact absurd H (by simp)
 ·rw [if_neg c4] at H
  have c4b0 : (t166 == 0) = false := beq_eq_false_iff_ne.mpr c4
  have c4b1 : (t166 != 0) = true := bne_iff_ne.mpr c4
  obtain rfl := Option.some.inj H
  go_enter Tryd.func57, Tryd.ntmps57
  go_wp2_with (first | ((with_reducible refine gate_callee (f := 58) rfl ?_); refine goesL_ (some 7) rfl rfl Tryd.func58 (by kernel_rfl) rfl #[.int .i64 a1] rfl (by (try simp only [List.map_toArray, List.map_cons, List.map_nil]); first | done | rfl | (simp only [List.length_drop, List.length_take]; rfl)) ?_; (with_reducible refine (cleatref01_Power.calls k a1 t166 _ A3.out).mono ?_); rintro e w' ⟨rfl, ⟨nd, rfl⟩⟩; refine ⟨_, rfl, ?_⟩))
  go_ret
  exact ⟨by first | rfl | (simp; done) | (simp [*]; done), by repeat (first | exact Drawn0.refl _ | apply Drawn0.step)⟩

/-! ### cleatref02_again: function 56 -/
def cleatref02_again.l0 : Nat → Int → Int → Int → Int → Option (Int)
 | 0, _, _, _, _ => none
 | k + 1, x0, x1, x5, x6 => if x6 < 64 then (if x1 = 0 then (none) else ((cleatref01_Bit.f k x0 (Int.tmod x6 x1)).bind fun t167 => (if t167 = true then ((cleatref01_Power.f k x6).bind fun t168 => (cleatref02_again.l0 k x0 x1 (IntKind.u64.wrap (x5 + t168)) (wrap64 (x6 + 1)))) else (cleatref02_again.l0 k x0 x1 x5 (wrap64 (x6 + 1)))))) else (some x5)
def cleatref02_again.f (k : Nat) (a0 : Int) (a1 : Int) : Option (Int) := cleatref02_again.l0 k a0 a1 0 0
theorem cleatref02_again.mono_l : ∀ k, (∀ y0 y1 y2 y3, LeO (cleatref02_again.l0 k y0 y1 y2 y3) (cleatref02_again.l0 (k + 1) y0 y1 y2 y3))
 | 0 => fun _ _ _ _ r h => by simp [cleatref02_again.l0] at h
 | k + 1 => by
  have ih0 := cleatref02_again.mono_l k
  ·intro y0 y1 y2 y3
   unfold cleatref02_again.l0
   repeat' first
   | (with_reducible exact ih0 _ _ _ _)
   | (with_reducible exact cleatref01_Bit.mono _ _ _)
   | (with_reducible exact cleatref01_Power.mono _ _)
   | (with_reducible exact LeO.refl _)
   | (with_reducible exact LeO.none _)
   | (with_reducible refine LeO.ite ?_ ?_)
   | (with_reducible refine LeO.bind ?_ (fun _ => ?_))
   | exact ih0 _ _ _ _
   | exact cleatref01_Bit.mono _ _ _
   | exact cleatref01_Power.mono _ _
   | exact LeO.none _
   | refine LeO.ite ?_ ?_
   | refine LeO.bind ?_ (fun _ => ?_)
theorem cleatref02_again.mono : ∀ a0 a1 k, LeO (cleatref02_again.f k a0 a1) (cleatref02_again.f (k + 1) a0 a1) := by
 intro a0 a1 k
 have ih0 := cleatref02_again.mono_l k
 unfold cleatref02_again.f
 repeat' first
   | (with_reducible exact ih0 _ _ _ _)
   | (with_reducible exact cleatref01_Bit.mono _ _ _)
   | (with_reducible exact cleatref01_Power.mono _ _)
   | (with_reducible exact LeO.refl _)
   | (with_reducible exact LeO.none _)
   | (with_reducible refine LeO.ite ?_ ?_)
   | (with_reducible refine LeO.bind ?_ (fun _ => ?_))
   | exact ih0 _ _ _ _
   | exact cleatref01_Bit.mono _ _ _
   | exact cleatref01_Power.mono _ _
   | exact LeO.none _
   | refine LeO.ite ?_ ?_
   | refine LeO.bind ?_ (fun _ => ?_)
set_option maxHeartbeats 8000000 in
set_option maxRecDepth 100000 in
theorem cleatref02_again.calls (k : Nat) (a0 : Int) (a1 : Int) (r : Int) (w : World) (h : cleatref02_again.f k a0 a1 = some r) :
  Calls Tryd.prog 56 #[.int .u64 a0, .int .i64 a1] w fun e w' => e = .returned (.int .u64 r) ∧ Drawn0 w w' := by
 have H : (cleatref02_again.l0 k a0 a1 0 0) = some r := h
 clear h
 have H' := Aside0.mk H
 clear H
 go_enter Tryd.func56, Tryd.ntmps56
 go_wp2
 go_loopg [5, 6] k (fun kq v5 v6 w' => ∃ (x5_1 : Int) (x6_1 : Int), v5 = .int .u64 x5_1 ∧ v6 = .int .i64 x6_1 ∧ Aside0 (cleatref02_again.l0 kq a0 a1 x5_1 x6_1 = some r) ∧ Aside0 (kq ≤ k) ∧ Drawn0 w w')
 case atStart => exact ⟨(0), (0), (by first | rfl | (simp; done) | (simp [*]; done)), (by first | rfl | (simp; done) | (simp [*]; done)), H', ⟨Nat.le_refl _⟩, by repeat (first | exact Drawn0.refl _ | apply Drawn0.step)⟩
 case round =>
  clear H'
  try clear p2
  obtain ⟨x5_1, x6_1, rfl, rfl, HA, HK1, ⟨m1, rfl⟩⟩ := hrel
  cases gk with
  | zero => exact absurd HA.out (by simp [cleatref02_again.l0])
  | succ k1 =>
   have H := HA.out
   clear HA
   simp only [cleatref02_again.l0] at H
   by_cases c3 : x6_1 < 64
   ·rw [if_pos c3] at H
    have c3b0 : decide (x6_1 < 64) = true := decide_eq_true c3
    clear c3
    by_cases c4 : a1 = 0
    ·rw [if_pos c4] at H
     exact absurd H (by simp)
    ·rw [if_neg c4] at H
     have c4b0 : (a1 == 0) = false := beq_eq_false_iff_ne.mpr c4
     have c4b1 : (a1 != 0) = true := bne_iff_ne.mpr c4
     replace H := Option.bind_eq_some_iff.mp H
     obtain ⟨t167, A50, H⟩ := H
     replace H : (if t167 = true then ((cleatref01_Power.f k1 x6_1).bind fun t168 => (cleatref02_again.l0 k1 a0 a1 (IntKind.u64.wrap (x5_1 + t168)) (wrap64 (x6_1 + 1)))) else (cleatref02_again.l0 k1 a0 a1 x5_1 (wrap64 (x6_1 + 1)))) = some r := H
     have A5 := Aside0.mk A50
     clear A50
     by_cases c6 : t167 = true
     ·subst c6
      rw [if_pos rfl] at H
      replace H := Option.bind_eq_some_iff.mp H
      obtain ⟨t168, A70, H⟩ := H
      replace H : (cleatref02_again.l0 k1 a0 a1 (IntKind.u64.wrap (x5_1 + t168)) (wrap64 (x6_1 + 1))) = some r := H
      have A7 := Aside0.mk A70
      clear A70
      have H' := Aside0.mk H
      clear H
      go_wp2_with (first | ((with_reducible refine gate_callee (f := 57) rfl ?_); refine goesL_ (some 15) rfl rfl Tryd.func57 (by kernel_rfl) rfl #[.int .u64 a0, .int .i64 (Int.tmod x6_1 a1)] rfl (by (try simp only [List.map_toArray, List.map_cons, List.map_nil]); first | done | rfl | (simp only [List.length_drop, List.length_take]; rfl)) ?_; (with_reducible refine (cleatref01_Bit.calls k1 a0 (Int.tmod x6_1 a1) true _ A5.out).mono ?_); rintro e w' ⟨rfl, ⟨nd, rfl⟩⟩; refine ⟨_, rfl, ?_⟩) | ((with_reducible refine gate_callee (f := 58) rfl ?_); refine goesL_ (some 18) rfl rfl Tryd.func58 (by kernel_rfl) rfl #[.int .i64 x6_1] rfl (by (try simp only [List.map_toArray, List.map_cons, List.map_nil]); first | done | rfl | (simp only [List.length_drop, List.length_take]; rfl)) ?_; (with_reducible refine (cleatref01_Power.calls k1 x6_1 t168 _ A7.out).mono ?_); rintro e w' ⟨rfl, ⟨nd, rfl⟩⟩; refine ⟨_, rfl, ?_⟩))
      go_roundg k1
      case measure => have := HK1.out; omega
      case rel => exact ⟨(IntKind.u64.wrap (x5_1 + t168)), (wrap64 (x6_1 + 1)), (by first | rfl | (simp; done) | (simp [*]; done)), (by first | rfl | (simp; done) | (simp [*]; done)), H', ⟨by have := HK1.out; omega⟩, by repeat (first | exact Drawn0.refl _ | apply Drawn0.step)⟩
     ·replace c6 := Bool.eq_false_iff.mpr c6
      subst c6
      rw [if_neg (show ¬ (false = true) by decide)] at H
      have H' := Aside0.mk H
      clear H
      go_wp2_with (first | ((with_reducible refine gate_callee (f := 57) rfl ?_); refine goesL_ (some 15) rfl rfl Tryd.func57 (by kernel_rfl) rfl #[.int .u64 a0, .int .i64 (Int.tmod x6_1 a1)] rfl (by (try simp only [List.map_toArray, List.map_cons, List.map_nil]); first | done | rfl | (simp only [List.length_drop, List.length_take]; rfl)) ?_; (with_reducible refine (cleatref01_Bit.calls k1 a0 (Int.tmod x6_1 a1) false _ A5.out).mono ?_); rintro e w' ⟨rfl, ⟨nd, rfl⟩⟩; refine ⟨_, rfl, ?_⟩))
      go_roundg k1
      case measure => have := HK1.out; omega
      case rel => exact ⟨(x5_1), (wrap64 (x6_1 + 1)), (by first | rfl | (simp; done) | (simp [*]; done)), (by first | rfl | (simp; done) | (simp [*]; done)), H', ⟨by have := HK1.out; omega⟩, by repeat (first | exact Drawn0.refl _ | apply Drawn0.step)⟩
   ·rw [if_neg c3] at H
    have c3b0 : decide (x6_1 < 64) = false := decide_eq_false c3
    clear c3
    obtain rfl := Option.some.inj H
    go_wp2
    go_ret
    exact ⟨by first | rfl | (simp; done) | (simp [*]; done), by repeat (first | exact Drawn0.refl _ | apply Drawn0.step)⟩

/-! ### cleatref02_Size: function 50 -/
def cleatref02_Size.l0 : Nat → Int → Int → Option (Int)
 | 0, _, _ => none
 | k + 1, x0, x3 => if x3 < 64 then ((cleatref01_Low.f k x0 x3).bind fun t169 => ((cleatref02_again.f k t169 x3).bind fun t170 => (if t170 = x0 then (some x3) else (cleatref02_Size.l0 k x0 (wrap64 (2 * x3)))))) else (some 64)
def cleatref02_Size.f (k : Nat) (a0 : Int) : Option (Int) := cleatref02_Size.l0 k a0 2
theorem cleatref02_Size.mono_l : ∀ k, (∀ y0 y1, LeO (cleatref02_Size.l0 k y0 y1) (cleatref02_Size.l0 (k + 1) y0 y1))
 | 0 => fun _ _ r h => by simp [cleatref02_Size.l0] at h
 | k + 1 => by
  have ih0 := cleatref02_Size.mono_l k
  ·intro y0 y1
   unfold cleatref02_Size.l0
   repeat' first
   | (with_reducible exact ih0 _ _)
   | (with_reducible exact cleatref01_Low.mono _ _ _)
   | (with_reducible exact cleatref02_again.mono _ _ _)
   | (with_reducible exact LeO.refl _)
   | (with_reducible exact LeO.none _)
   | (with_reducible refine LeO.ite ?_ ?_)
   | (with_reducible refine LeO.bind ?_ (fun _ => ?_))
   | exact ih0 _ _
   | exact cleatref01_Low.mono _ _ _
   | exact cleatref02_again.mono _ _ _
   | exact LeO.none _
   | refine LeO.ite ?_ ?_
   | refine LeO.bind ?_ (fun _ => ?_)
theorem cleatref02_Size.mono : ∀ a0 k, LeO (cleatref02_Size.f k a0) (cleatref02_Size.f (k + 1) a0) := by
 intro a0 k
 have ih0 := cleatref02_Size.mono_l k
 unfold cleatref02_Size.f
 repeat' first
   | (with_reducible exact ih0 _ _)
   | (with_reducible exact cleatref01_Low.mono _ _ _)
   | (with_reducible exact cleatref02_again.mono _ _ _)
   | (with_reducible exact LeO.refl _)
   | (with_reducible exact LeO.none _)
   | (with_reducible refine LeO.ite ?_ ?_)
   | (with_reducible refine LeO.bind ?_ (fun _ => ?_))
   | exact ih0 _ _
   | exact cleatref01_Low.mono _ _ _
   | exact cleatref02_again.mono _ _ _
   | exact LeO.none _
   | refine LeO.ite ?_ ?_
   | refine LeO.bind ?_ (fun _ => ?_)
set_option maxHeartbeats 8000000 in
set_option maxRecDepth 100000 in
theorem cleatref02_Size.calls (k : Nat) (a0 : Int) (r : Int) (w : World) (h : cleatref02_Size.f k a0 = some r) :
  Calls Tryd.prog 50 #[.int .u64 a0] w fun e w' => e = .returned (.int .i64 r) ∧ Drawn0 w w' := by
 have H : (cleatref02_Size.l0 k a0 2) = some r := h
 clear h
 have H' := Aside0.mk H
 clear H
 go_enter Tryd.func50, Tryd.ntmps50
 go_wp2
 go_loopg [3] k (fun kq v3 w' => ∃ (x3_1 : Int), v3 = .int .i64 x3_1 ∧ Aside0 (cleatref02_Size.l0 kq a0 x3_1 = some r) ∧ Aside0 (kq ≤ k) ∧ Drawn0 w w')
 case atStart => exact ⟨(2), (by first | rfl | (simp; done) | (simp [*]; done)), H', ⟨Nat.le_refl _⟩, by repeat (first | exact Drawn0.refl _ | apply Drawn0.step)⟩
 case round =>
  clear H'
  obtain ⟨x3_1, rfl, HA, HK1, ⟨m1, rfl⟩⟩ := hrel
  cases gk with
  | zero => exact absurd HA.out (by simp [cleatref02_Size.l0])
  | succ k1 =>
   have H := HA.out
   clear HA
   simp only [cleatref02_Size.l0] at H
   by_cases c2 : x3_1 < 64
   ·rw [if_pos c2] at H
    have c2b0 : decide (x3_1 < 64) = true := decide_eq_true c2
    clear c2
    replace H := Option.bind_eq_some_iff.mp H
    obtain ⟨t169, A30, H⟩ := H
    replace H : ((cleatref02_again.f k1 t169 x3_1).bind fun t170 => (if t170 = a0 then (some x3_1) else (cleatref02_Size.l0 k1 a0 (wrap64 (2 * x3_1))))) = some r := H
    have A3 := Aside0.mk A30
    clear A30
    replace H := Option.bind_eq_some_iff.mp H
    obtain ⟨t170, A40, H⟩ := H
    replace H : (if t170 = a0 then (some x3_1) else (cleatref02_Size.l0 k1 a0 (wrap64 (2 * x3_1)))) = some r := H
    have A4 := Aside0.mk A40
    clear A40
    by_cases c5 : t170 = a0
    ·rw [if_pos c5] at H
     have c5b0 : (t170 == a0) = true := beq_iff_eq.mpr c5
     have c5b1 : (t170 != a0) = false := bne_eq_false_iff_eq.mpr c5
     clear c5
     obtain rfl := Option.some.inj H
     go_wp2_with (first | ((with_reducible refine gate_callee (f := 52) rfl ?_); refine goesL_ (some 10) rfl rfl Tryd.func52 (by kernel_rfl) rfl #[.int .u64 a0, .int .i64 x3_1] rfl (by (try simp only [List.map_toArray, List.map_cons, List.map_nil]); first | done | rfl | (simp only [List.length_drop, List.length_take]; rfl)) ?_; (with_reducible refine (cleatref01_Low.calls k1 a0 x3_1 t169 _ A3.out).mono ?_); rintro e w' ⟨rfl, ⟨nd, rfl⟩⟩; refine ⟨_, rfl, ?_⟩) | ((with_reducible refine gate_callee (f := 56) rfl ?_); refine goesL_ (some 12) rfl rfl Tryd.func56 (by kernel_rfl) rfl #[.int .u64 t169, .int .i64 x3_1] rfl (by (try simp only [List.map_toArray, List.map_cons, List.map_nil]); first | done | rfl | (simp only [List.length_drop, List.length_take]; rfl)) ?_; (with_reducible refine (cleatref02_again.calls k1 t169 x3_1 t170 _ A4.out).mono ?_); rintro e w' ⟨rfl, ⟨nd, rfl⟩⟩; refine ⟨_, rfl, ?_⟩))
     go_ret
     exact ⟨by first | rfl | (simp; done) | (simp [*]; done), by repeat (first | exact Drawn0.refl _ | apply Drawn0.step)⟩
    ·rw [if_neg c5] at H
     have c5b0 : (t170 == a0) = false := beq_eq_false_iff_ne.mpr c5
     have c5b1 : (t170 != a0) = true := bne_iff_ne.mpr c5
     have H' := Aside0.mk H
     clear H
     go_wp2_with (first | ((with_reducible refine gate_callee (f := 52) rfl ?_); refine goesL_ (some 10) rfl rfl Tryd.func52 (by kernel_rfl) rfl #[.int .u64 a0, .int .i64 x3_1] rfl (by (try simp only [List.map_toArray, List.map_cons, List.map_nil]); first | done | rfl | (simp only [List.length_drop, List.length_take]; rfl)) ?_; (with_reducible refine (cleatref01_Low.calls k1 a0 x3_1 t169 _ A3.out).mono ?_); rintro e w' ⟨rfl, ⟨nd, rfl⟩⟩; refine ⟨_, rfl, ?_⟩) | ((with_reducible refine gate_callee (f := 56) rfl ?_); refine goesL_ (some 12) rfl rfl Tryd.func56 (by kernel_rfl) rfl #[.int .u64 t169, .int .i64 x3_1] rfl (by (try simp only [List.map_toArray, List.map_cons, List.map_nil]); first | done | rfl | (simp only [List.length_drop, List.length_take]; rfl)) ?_; (with_reducible refine (cleatref02_again.calls k1 t169 x3_1 t170 _ A4.out).mono ?_); rintro e w' ⟨rfl, ⟨nd, rfl⟩⟩; refine ⟨_, rfl, ?_⟩))
     go_roundg k1
     case measure => have := HK1.out; omega
     case rel => exact ⟨(wrap64 (2 * x3_1)), (by first | rfl | (simp; done) | (simp [*]; done)), H', ⟨by have := HK1.out; omega⟩, by repeat (first | exact Drawn0.refl _ | apply Drawn0.step)⟩
   ·rw [if_neg c2] at H
    have c2b0 : decide (x3_1 < 64) = false := decide_eq_false c2
    clear c2
    obtain rfl := Option.some.inj H
    go_wp2
    go_ret
    exact ⟨by first | rfl | (simp; done) | (simp [*]; done), by repeat (first | exact Drawn0.refl _ | apply Drawn0.step)⟩

/-! ### cleatref02_Ones: function 51 -/
def cleatref02_Ones.l0 : Nat → Int → Int → Int → Option (Int)
 | 0, _, _, _ => none
 | k + 1, x0, x3, x4 => if x4 < 64 then ((cleatref01_Bit.f k x0 x4).bind fun t171 => (if t171 = true then (cleatref02_Ones.l0 k x0 (wrap64 (x3 + 1)) (wrap64 (x4 + 1))) else (cleatref02_Ones.l0 k x0 x3 (wrap64 (x4 + 1))))) else (some x3)
def cleatref02_Ones.f (k : Nat) (a0 : Int) : Option (Int) := cleatref02_Ones.l0 k a0 0 0
theorem cleatref02_Ones.mono_l : ∀ k, (∀ y0 y1 y2, LeO (cleatref02_Ones.l0 k y0 y1 y2) (cleatref02_Ones.l0 (k + 1) y0 y1 y2))
 | 0 => fun _ _ _ r h => by simp [cleatref02_Ones.l0] at h
 | k + 1 => by
  have ih0 := cleatref02_Ones.mono_l k
  ·intro y0 y1 y2
   unfold cleatref02_Ones.l0
   repeat' first
   | (with_reducible exact ih0 _ _ _)
   | (with_reducible exact cleatref01_Bit.mono _ _ _)
   | (with_reducible exact LeO.refl _)
   | (with_reducible exact LeO.none _)
   | (with_reducible refine LeO.ite ?_ ?_)
   | (with_reducible refine LeO.bind ?_ (fun _ => ?_))
   | exact ih0 _ _ _
   | exact cleatref01_Bit.mono _ _ _
   | exact LeO.none _
   | refine LeO.ite ?_ ?_
   | refine LeO.bind ?_ (fun _ => ?_)
theorem cleatref02_Ones.mono : ∀ a0 k, LeO (cleatref02_Ones.f k a0) (cleatref02_Ones.f (k + 1) a0) := by
 intro a0 k
 have ih0 := cleatref02_Ones.mono_l k
 unfold cleatref02_Ones.f
 repeat' first
   | (with_reducible exact ih0 _ _ _)
   | (with_reducible exact cleatref01_Bit.mono _ _ _)
   | (with_reducible exact LeO.refl _)
   | (with_reducible exact LeO.none _)
   | (with_reducible refine LeO.ite ?_ ?_)
   | (with_reducible refine LeO.bind ?_ (fun _ => ?_))
   | exact ih0 _ _ _
   | exact cleatref01_Bit.mono _ _ _
   | exact LeO.none _
   | refine LeO.ite ?_ ?_
   | refine LeO.bind ?_ (fun _ => ?_)
set_option maxHeartbeats 8000000 in
set_option maxRecDepth 100000 in
theorem cleatref02_Ones.calls (k : Nat) (a0 : Int) (r : Int) (w : World) (h : cleatref02_Ones.f k a0 = some r) :
  Calls Tryd.prog 51 #[.int .u64 a0] w fun e w' => e = .returned (.int .i64 r) ∧ Drawn0 w w' := by
 have H : (cleatref02_Ones.l0 k a0 0 0) = some r := h
 clear h
 have H' := Aside0.mk H
 clear H
 go_enter Tryd.func51, Tryd.ntmps51
 go_wp2
 go_loopg [3, 4] k (fun kq v3 v4 w' => ∃ (x3_1 : Int) (x4_1 : Int), v3 = .int .i64 x3_1 ∧ v4 = .int .i64 x4_1 ∧ Aside0 (cleatref02_Ones.l0 kq a0 x3_1 x4_1 = some r) ∧ Aside0 (kq ≤ k) ∧ Drawn0 w w')
 case atStart => exact ⟨(0), (0), (by first | rfl | (simp; done) | (simp [*]; done)), (by first | rfl | (simp; done) | (simp [*]; done)), H', ⟨Nat.le_refl _⟩, by repeat (first | exact Drawn0.refl _ | apply Drawn0.step)⟩
 case round =>
  clear H'
  obtain ⟨x3_1, x4_1, rfl, rfl, HA, HK1, ⟨m1, rfl⟩⟩ := hrel
  cases gk with
  | zero => exact absurd HA.out (by simp [cleatref02_Ones.l0])
  | succ k1 =>
   have H := HA.out
   clear HA
   simp only [cleatref02_Ones.l0] at H
   by_cases c2 : x4_1 < 64
   ·rw [if_pos c2] at H
    have c2b0 : decide (x4_1 < 64) = true := decide_eq_true c2
    clear c2
    replace H := Option.bind_eq_some_iff.mp H
    obtain ⟨t171, A30, H⟩ := H
    replace H : (if t171 = true then (cleatref02_Ones.l0 k1 a0 (wrap64 (x3_1 + 1)) (wrap64 (x4_1 + 1))) else (cleatref02_Ones.l0 k1 a0 x3_1 (wrap64 (x4_1 + 1)))) = some r := H
    have A3 := Aside0.mk A30
    clear A30
    by_cases c4 : t171 = true
    ·subst c4
     rw [if_pos rfl] at H
     have H' := Aside0.mk H
     clear H
     go_wp2_with (first | ((with_reducible refine gate_callee (f := 57) rfl ?_); refine goesL_ (some 11) rfl rfl Tryd.func57 (by kernel_rfl) rfl #[.int .u64 a0, .int .i64 x4_1] rfl (by (try simp only [List.map_toArray, List.map_cons, List.map_nil]); first | done | rfl | (simp only [List.length_drop, List.length_take]; rfl)) ?_; (with_reducible refine (cleatref01_Bit.calls k1 a0 x4_1 true _ A3.out).mono ?_); rintro e w' ⟨rfl, ⟨nd, rfl⟩⟩; refine ⟨_, rfl, ?_⟩))
     go_roundg k1
     case measure => have := HK1.out; omega
     case rel => exact ⟨(wrap64 (x3_1 + 1)), (wrap64 (x4_1 + 1)), (by first | rfl | (simp; done) | (simp [*]; done)), (by first | rfl | (simp; done) | (simp [*]; done)), H', ⟨by have := HK1.out; omega⟩, by repeat (first | exact Drawn0.refl _ | apply Drawn0.step)⟩
    ·replace c4 := Bool.eq_false_iff.mpr c4
     subst c4
     rw [if_neg (show ¬ (false = true) by decide)] at H
     have H' := Aside0.mk H
     clear H
     go_wp2_with (first | ((with_reducible refine gate_callee (f := 57) rfl ?_); refine goesL_ (some 11) rfl rfl Tryd.func57 (by kernel_rfl) rfl #[.int .u64 a0, .int .i64 x4_1] rfl (by (try simp only [List.map_toArray, List.map_cons, List.map_nil]); first | done | rfl | (simp only [List.length_drop, List.length_take]; rfl)) ?_; (with_reducible refine (cleatref01_Bit.calls k1 a0 x4_1 false _ A3.out).mono ?_); rintro e w' ⟨rfl, ⟨nd, rfl⟩⟩; refine ⟨_, rfl, ?_⟩))
     go_roundg k1
     case measure => have := HK1.out; omega
     case rel => exact ⟨(x3_1), (wrap64 (x4_1 + 1)), (by first | rfl | (simp; done) | (simp [*]; done)), (by first | rfl | (simp; done) | (simp [*]; done)), H', ⟨by have := HK1.out; omega⟩, by repeat (first | exact Drawn0.refl _ | apply Drawn0.step)⟩
   ·rw [if_neg c2] at H
    have c2b0 : decide (x4_1 < 64) = false := decide_eq_false c2
    clear c2
    obtain rfl := Option.some.inj H
    go_wp2
    go_ret
    exact ⟨by first | rfl | (simp; done) | (simp [*]; done), by repeat (first | exact Drawn0.refl _ | apply Drawn0.step)⟩

/-! ### cleatref01_Small: function 61 -/
def cleatref01_Small.f (k : Nat) (a0 : Int) (a1 : Int) : Option (Bool) := if a1 ≥ 64 then (some true) else ((cleatref01_Power.f k a1).bind fun t172 => (some (decide (a0 < t172))))
theorem cleatref01_Small.mono : ∀ a0 a1 k, LeO (cleatref01_Small.f k a0 a1) (cleatref01_Small.f (k + 1) a0 a1) := by
 intro a0 a1 k
 unfold cleatref01_Small.f
 repeat' first
   | (with_reducible exact cleatref01_Power.mono _ _)
   | (with_reducible exact LeO.refl _)
   | (with_reducible exact LeO.none _)
   | (with_reducible refine LeO.ite ?_ ?_)
   | (with_reducible refine LeO.bind ?_ (fun _ => ?_))
   | exact cleatref01_Power.mono _ _
   | exact LeO.none _
   | refine LeO.ite ?_ ?_
   | refine LeO.bind ?_ (fun _ => ?_)
set_option maxHeartbeats 8000000 in
set_option maxRecDepth 100000 in
theorem cleatref01_Small.calls (k : Nat) (a0 : Int) (a1 : Int) (r : Bool) (w : World) (h : cleatref01_Small.f k a0 a1 = some r) :
  Calls Tryd.prog 61 #[.int .u64 a0, .int .i64 a1] w fun e w' => e = .returned (.bool r) ∧ Drawn0 w w' := by
 have H : (if a1 ≥ 64 then (some true) else ((cleatref01_Power.f k a1).bind fun t172 => (some (decide (a0 < t172))))) = some r := h
 clear h
 by_cases c3 : a1 ≥ 64
 ·rw [if_pos c3] at H
  have c3b0 : decide (64 ≤ a1) = true := decide_eq_true c3
  clear c3
  obtain rfl := Option.some.inj H
  go_enter Tryd.func61, Tryd.ntmps61
  go_wp2
  go_ret
  exact ⟨by first | rfl | (simp; done) | (simp [*]; done), by repeat (first | exact Drawn0.refl _ | apply Drawn0.step)⟩
 ·rw [if_neg c3] at H
  have c3b0 : decide (64 ≤ a1) = false := decide_eq_false c3
  clear c3
  replace H := Option.bind_eq_some_iff.mp H
  obtain ⟨t172, A40, H⟩ := H
  replace H : (some (decide (a0 < t172))) = some r := H
  have A4 := Aside0.mk A40
  clear A40
  obtain rfl := Option.some.inj H
  go_enter Tryd.func61, Tryd.ntmps61
  go_wp2_with (first | (go_at_call 58; (with_reducible refine (cleatref01_Power.calls k a1 t172 _ A4.out).mono ?_); rintro e w' ⟨rfl, ⟨nd, rfl⟩⟩))
  go_ret
  exact ⟨by first | rfl | (simp; done) | (simp [*]; done), by repeat (first | exact Drawn0.refl _ | apply Drawn0.step)⟩

end Go.Proofs.YtgonbeifaioheaaDoor.P
