-- printed by wip/tools/myprint.py out of the translation. Not trusted: Lean checks it.
import Derived.Test.YtpndeninbokjoaaDoorPx0
import Derived.Test.YtpndeninbokjoaaDoorPx11
import Derived.Test.YtpndeninbokjoaaDoorPx12
namespace Go.Proofs.YtpndeninbokjoaaDoor.P
open Go.RowKit Go.Proofs.YtpndeninbokjoaaDoorW.PrintWords Go.Proofs.YtpndeninbokjoaaDoorW.PrintLast Go.Proofs.YtpndeninbokjoaaDoorW.PrintMore
attribute [local go_sem] max2_int min2_int max_two min_two max_three min_three max_four min_four   -- for this text's walks alone
set_option linter.unusedVariables false
set_option linter.unusedSimpArgs false

/-! ### cleatlaw11_OperandJoins: function 3 -/
mutual
def cleatlaw11_OperandJoins.j0 : Nat → List (S44) → Int → List (S44) → Int → List (S44) → Int → Bool → Option (Bool)
 | 0, _, _, _, _, _, _, _ => none
 | k + 1, x5, x6, x7, x8, x10, x11, x51 => if x51 = true then ((cleatlaw11_given.f k).bind fun t280 => (if t280 = true then (some (x11 == 3)) else (some false))) else (if x6 = 0 then (cleatlaw11_OperandJoins.j1 k x5 x7 x10 x11 (x8 != 0)) else (cleatlaw11_OperandJoins.j1 k x5 x7 x10 x11 true))
def cleatlaw11_OperandJoins.j1 : Nat → List (S44) → List (S44) → List (S44) → Int → Bool → Option (Bool)
 | 0, _, _, _, _, _ => none
 | k + 1, x5, x7, x10, x11, x62 => if x62 = true then ((cleatlaw11_given.f k).bind fun t281 => (some t281)) else (if ([] : List (S44)).length + x5.length < 2513169434916 then ((some (([] : List (S44)) ++ x5 : List (S44))).bind fun y282 => (if y282.length + x7.length < 2513169434916 then ((cleatlaw11_given.f k).bind fun t288 => (if t288 = true then (if x11 = 0 then ((cleatref11_Same.f k x10 (y282 ++ x7)).bind fun t289 => (some t289)) else (some false)) else (some false))) else (none))) else (none))
end
def cleatlaw11_OperandJoins.f (k : Nat) (l0 : List (S29)) (l1 : List (S29)) : Option (Bool) := if (wrap64 ((l0.length : Int) + (l1.length : Int))) > 60 then (some true) else ((operand_Parse.f l0).bind fun bt259 => ((operand_Parse.f l1).bind fun bt263 => (if ([] : List (S29)).length + l0.length < 4398046511104 then ((some (([] : List (S29)) ++ l0 : List (S29))).bind fun y267 => (if y267.length < 4398046511104 then ((some (y267 ++ [(⟨4, (⟨#[44]⟩ : ByteArray), 0⟩ : S29)] : List (S29))).bind fun y270 => (if y270.length + l1.length < 4398046511104 then ((operand_Parse.f (y270 ++ l1)).bind fun bt276 => (if (l0.length : Int) = 0 then (cleatlaw11_OperandJoins.j0 k bt259.1 bt259.2 bt263.1 bt263.2 bt276.1 bt276.2 true) else (cleatlaw11_OperandJoins.j0 k bt259.1 bt259.2 bt263.1 bt263.2 bt276.1 bt276.2 ((l1.length : Int) == 0)))) else (none))) else (none))) else (none))))
theorem cleatlaw11_OperandJoins.mono_l : ∀ k, (∀ y0 y1 y2 y3 y4 y5 y6, LeO (cleatlaw11_OperandJoins.j0 k y0 y1 y2 y3 y4 y5 y6) (cleatlaw11_OperandJoins.j0 (k + 1) y0 y1 y2 y3 y4 y5 y6)) ∧ (∀ y0 y1 y2 y3 y4, LeO (cleatlaw11_OperandJoins.j1 k y0 y1 y2 y3 y4) (cleatlaw11_OperandJoins.j1 (k + 1) y0 y1 y2 y3 y4))
 | 0 => ⟨fun _ _ _ _ _ _ _ r h => by simp [cleatlaw11_OperandJoins.j0] at h, fun _ _ _ _ _ r h => by simp [cleatlaw11_OperandJoins.j1] at h⟩
 | k + 1 => by
  obtain ⟨ih0, ih1⟩ := cleatlaw11_OperandJoins.mono_l k
  refine ⟨?_, ?_⟩
  ·intro y0 y1 y2 y3 y4 y5 y6
   unfold cleatlaw11_OperandJoins.j0
   repeat' first
   | (with_reducible exact ih0 _ _ _ _ _ _ _)
   | (with_reducible exact ih1 _ _ _ _ _)
   | (with_reducible exact cleatlaw11_given.mono _)
   | (with_reducible exact cleatref11_Same.mono _ _ _)
   | (with_reducible exact LeO.refl _)
   | (with_reducible exact LeO.none _)
   | (with_reducible refine LeO.ite ?_ ?_)
   | (with_reducible refine LeO.bind ?_ (fun _ => ?_))
   | exact ih0 _ _ _ _ _ _ _
   | exact ih1 _ _ _ _ _
   | exact cleatlaw11_given.mono _
   | exact cleatref11_Same.mono _ _ _
   | exact LeO.none _
   | refine LeO.ite ?_ ?_
   | refine LeO.bind ?_ (fun _ => ?_)
  ·intro y0 y1 y2 y3 y4
   unfold cleatlaw11_OperandJoins.j1
   repeat' first
   | (with_reducible exact ih0 _ _ _ _ _ _ _)
   | (with_reducible exact ih1 _ _ _ _ _)
   | (with_reducible exact cleatlaw11_given.mono _)
   | (with_reducible exact cleatref11_Same.mono _ _ _)
   | (with_reducible exact LeO.refl _)
   | (with_reducible exact LeO.none _)
   | (with_reducible refine LeO.ite ?_ ?_)
   | (with_reducible refine LeO.bind ?_ (fun _ => ?_))
   | exact ih0 _ _ _ _ _ _ _
   | exact ih1 _ _ _ _ _
   | exact cleatlaw11_given.mono _
   | exact cleatref11_Same.mono _ _ _
   | exact LeO.none _
   | refine LeO.ite ?_ ?_
   | refine LeO.bind ?_ (fun _ => ?_)
theorem cleatlaw11_OperandJoins.mono : ∀ a0 a1 k, LeO (cleatlaw11_OperandJoins.f k a0 a1) (cleatlaw11_OperandJoins.f (k + 1) a0 a1) := by
 intro a0 a1 k
 obtain ⟨ih0, ih1⟩ := cleatlaw11_OperandJoins.mono_l k
 unfold cleatlaw11_OperandJoins.f
 repeat' first
   | (with_reducible exact ih0 _ _ _ _ _ _ _)
   | (with_reducible exact ih1 _ _ _ _ _)
   | (with_reducible exact cleatlaw11_given.mono _)
   | (with_reducible exact cleatref11_Same.mono _ _ _)
   | (with_reducible exact LeO.refl _)
   | (with_reducible exact LeO.none _)
   | (with_reducible refine LeO.ite ?_ ?_)
   | (with_reducible refine LeO.bind ?_ (fun _ => ?_))
   | exact ih0 _ _ _ _ _ _ _
   | exact ih1 _ _ _ _ _
   | exact cleatlaw11_given.mono _
   | exact cleatref11_Same.mono _ _ _
   | exact LeO.none _
   | refine LeO.ite ?_ ?_
   | refine LeO.bind ?_ (fun _ => ?_)
set_option maxHeartbeats 8000000 in
set_option maxRecDepth 100000 in
theorem cleatlaw11_OperandJoins.calls (k : Nat) (A0 : Option Addr) (c0 : Nat) (l0 : List (S29)) (A1 : Option Addr) (c1 : Nat) (l1 : List (S29)) (r : Bool) (w : World) (hr0 : Kd.C k29 w A0 l0.length l0) (hc0 : l0.length ≤ c0) (hr1 : Kd.C k29 w A1 l1.length l1) (hc1 : l1.length ≤ c1) (h : cleatlaw11_OperandJoins.f k l0 l1 = some r) (HT : Aside0 (Tabs w)) :
  Calls Tryd.prog 3 #[.slice A0 l0.length c0, .slice A1 l1.length c1] w fun e w' => e = .returned (.bool r) ∧ Below w.heap.size w w' := by
 have hu29 := Tryd.underlying29
 have HR0 := Aside0.mk hr0
 have HC0 := Aside0.mk hc0
 clear hr0 hc0
 have HR1 := Aside0.mk hr1
 have HC1 := Aside0.mk hc1
 clear hr1 hc1
 have HB := Aside0.mk (Below.refl w.heap.size w)
 have H : (if (wrap64 ((l0.length : Int) + (l1.length : Int))) > 60 then (some true) else ((operand_Parse.f l0).bind fun bt259 => ((operand_Parse.f l1).bind fun bt263 => (if ([] : List (S29)).length + l0.length < 4398046511104 then ((some (([] : List (S29)) ++ l0 : List (S29))).bind fun y267 => (if y267.length < 4398046511104 then ((some (y267 ++ [(⟨4, (⟨#[44]⟩ : ByteArray), 0⟩ : S29)] : List (S29))).bind fun y270 => (if y270.length + l1.length < 4398046511104 then ((operand_Parse.f (y270 ++ l1)).bind fun bt276 => (if (l0.length : Int) = 0 then (cleatlaw11_OperandJoins.j0 k bt259.1 bt259.2 bt263.1 bt263.2 bt276.1 bt276.2 true) else (cleatlaw11_OperandJoins.j0 k bt259.1 bt259.2 bt263.1 bt263.2 bt276.1 bt276.2 ((l1.length : Int) == 0)))) else (none))) else (none))) else (none))))) = some r := h
 clear h
 by_cases c3 : (wrap64 ((l0.length : Int) + (l1.length : Int))) > 60
 ·rw [if_pos c3] at H
  have c3b0 : decide (60 < (wrap64 ((l0.length : Int) + (l1.length : Int)))) = true := decide_eq_true c3
  clear c3
  obtain rfl := Option.some.inj H
  go_enter Tryd.func3, Tryd.ntmps3
  go_wp2
  go_ret
  exact ⟨by first | rfl | (simp [errW_none, errW_some] <;> rfl) | (simp [*, errW_none, errW_some] <;> rfl), by repeat (first | (with_reducible first | exact HB.out | apply below_alloc | apply pw_below_drewN | apply below_drew1) | exact HB.out)⟩
 ·rw [if_neg c3] at H
  have c3b0 : decide (60 < (wrap64 ((l0.length : Int) + (l1.length : Int)))) = false := decide_eq_false c3
  clear c3
  replace H := Option.bind_eq_some_iff.mp H
  obtain ⟨⟨t259, t260⟩, A40, H⟩ := H
  replace H : ((operand_Parse.f l1).bind fun bt263 => (if ([] : List (S29)).length + l0.length < 4398046511104 then ((some (([] : List (S29)) ++ l0 : List (S29))).bind fun y267 => (if y267.length < 4398046511104 then ((some (y267 ++ [(⟨4, (⟨#[44]⟩ : ByteArray), 0⟩ : S29)] : List (S29))).bind fun y270 => (if y270.length + l1.length < 4398046511104 then ((operand_Parse.f (y270 ++ l1)).bind fun bt276 => (if (l0.length : Int) = 0 then (cleatlaw11_OperandJoins.j0 k t259 t260 bt263.1 bt263.2 bt276.1 bt276.2 true) else (cleatlaw11_OperandJoins.j0 k t259 t260 bt263.1 bt263.2 bt276.1 bt276.2 ((l1.length : Int) == 0)))) else (none))) else (none))) else (none))) = some r := H
  have A4 := Aside0.mk A40
  clear A40
  replace H := Option.bind_eq_some_iff.mp H
  obtain ⟨⟨t263, t264⟩, A50, H⟩ := H
  replace H : (if ([] : List (S29)).length + l0.length < 4398046511104 then ((some (([] : List (S29)) ++ l0 : List (S29))).bind fun y267 => (if y267.length < 4398046511104 then ((some (y267 ++ [(⟨4, (⟨#[44]⟩ : ByteArray), 0⟩ : S29)] : List (S29))).bind fun y270 => (if y270.length + l1.length < 4398046511104 then ((operand_Parse.f (y270 ++ l1)).bind fun bt276 => (if (l0.length : Int) = 0 then (cleatlaw11_OperandJoins.j0 k t259 t260 t263 t264 bt276.1 bt276.2 true) else (cleatlaw11_OperandJoins.j0 k t259 t260 t263 t264 bt276.1 bt276.2 ((l1.length : Int) == 0)))) else (none))) else (none))) else (none)) = some r := H
  have A5 := Aside0.mk A50
  clear A50
  by_cases c6 : ([] : List (S29)).length + l0.length < 4398046511104
  ·rw [if_pos c6] at H
   have LMc6 := Aside0.mk c6
   clear c6
   obtain ⟨y267, hy267⟩ : ∃ y_ : List (S29), y_ = (([] : List (S29)) ++ l0) := ⟨_, rfl⟩
   replace H : (if y267.length < 4398046511104 then ((some (y267 ++ [(⟨4, (⟨#[44]⟩ : ByteArray), 0⟩ : S29)] : List (S29))).bind fun y270 => (if y270.length + l1.length < 4398046511104 then ((operand_Parse.f (y270 ++ l1)).bind fun bt276 => (if (l0.length : Int) = 0 then (cleatlaw11_OperandJoins.j0 k t259 t260 t263 t264 bt276.1 bt276.2 true) else (cleatlaw11_OperandJoins.j0 k t259 t260 t263 t264 bt276.1 bt276.2 ((l1.length : Int) == 0)))) else (none))) else (none)) = some r := by first | (rw [hy267]; with_reducible exact H) | (have H2_ := (Option.bind_some _ _).symm.trans H; rw [hy267]; with_reducible exact H2_) | (have H2_ := (Option.bind_some _ _).symm.trans H; with_reducible exact H2_) | with_reducible exact H | (rw [hy267]; exact H) | exact H
   have Ny267 := Aside0.mk hy267
   clear hy267
   by_cases c7 : y267.length < 4398046511104
   ·rw [if_pos c7] at H
    have LMc7 := Aside0.mk c7
    clear c7
    obtain ⟨y270, hy270⟩ : ∃ y_ : List (S29), y_ = (y267 ++ [(⟨4, (⟨#[44]⟩ : ByteArray), 0⟩ : S29)]) := ⟨_, rfl⟩
    replace H : (if y270.length + l1.length < 4398046511104 then ((operand_Parse.f (y270 ++ l1)).bind fun bt276 => (if (l0.length : Int) = 0 then (cleatlaw11_OperandJoins.j0 k t259 t260 t263 t264 bt276.1 bt276.2 true) else (cleatlaw11_OperandJoins.j0 k t259 t260 t263 t264 bt276.1 bt276.2 ((l1.length : Int) == 0)))) else (none)) = some r := by first | (rw [hy270]; with_reducible exact H) | (have H2_ := (Option.bind_some _ _).symm.trans H; rw [hy270]; with_reducible exact H2_) | (have H2_ := (Option.bind_some _ _).symm.trans H; with_reducible exact H2_) | with_reducible exact H | (rw [hy270]; exact H) | exact H
    have Ny270 := Aside0.mk hy270
    clear hy270
    by_cases c8 : y270.length + l1.length < 4398046511104
    ·rw [if_pos c8] at H
     have LMc8 := Aside0.mk c8
     clear c8
     obtain ⟨y273, hy273⟩ : ∃ y_ : List (S29), y_ = (y270 ++ l1) := ⟨_, rfl⟩
     replace H : ((operand_Parse.f y273).bind fun bt276 => (if (l0.length : Int) = 0 then (cleatlaw11_OperandJoins.j0 k t259 t260 t263 t264 bt276.1 bt276.2 true) else (cleatlaw11_OperandJoins.j0 k t259 t260 t263 t264 bt276.1 bt276.2 ((l1.length : Int) == 0)))) = some r := by first | (rw [hy273]; with_reducible exact H) | (have H2_ := (Option.bind_some _ _).symm.trans H; rw [hy273]; with_reducible exact H2_) | (have H2_ := (Option.bind_some _ _).symm.trans H; with_reducible exact H2_) | with_reducible exact H | (rw [hy273]; exact H) | exact H
     have Ny273 := Aside0.mk hy273
     clear hy273
     replace H := Option.bind_eq_some_iff.mp H
     obtain ⟨⟨t276, t277⟩, A90, H⟩ := H
     replace H : (if (l0.length : Int) = 0 then (cleatlaw11_OperandJoins.j0 k t259 t260 t263 t264 t276 t277 true) else (cleatlaw11_OperandJoins.j0 k t259 t260 t263 t264 t276 t277 ((l1.length : Int) == 0))) = some r := H
     have A9 := Aside0.mk A90
     clear A90
     have HC10 := Aside0.mk H
     clear H
     go_enter Tryd.func3, Tryd.ntmps3
     go_upto_region 10 with (first | ((with_reducible refine gate_callee (f := 6) rfl ?_); refine goesL_ (some 21) rfl rfl Tryd.func6 (by kernel_rfl) rfl #[.slice A0 l0.length c0] rfl (by (try simp only [List.map_toArray, List.map_cons, List.map_nil]); first | done | rfl | (simp only [List.length_drop, List.length_take]; rfl)) ?_; (with_reducible refine (operand_Parse.calls _ _ l0 t259 t260 _ ?side1 ?side2 A4.out ?tabs).mono ?_); (case tabs => (first | exact HT | (refine tabs_of HT ?_; repeat (first | (with_reducible first | exact Below.refl _ _ | exact (Aside0.out (by assumption)) | exact (Drawn0.below (by assumption)) | apply below_alloc | apply pw_below_drewN | apply below_drew1 | assumption) | exact HB.out)))); (case side1 => repeat (first | exact HR0.out | (with_reducible refine Kd.C_alloc ?_ _) | (with_reducible refine Kd.C_drewN ?_ _) | (with_reducible refine Kd.C_drew ?_))); (case side2 => exact HC0.out); rintro e w11 ⟨v261, rfl, ho0, hb⟩; refine ⟨_, rfl, ?_⟩; have n0_ := Aside0.mk (Kd.R_lower ho0 (below_size (by repeat (first | (with_reducible first | exact HB.out | apply below_alloc | apply pw_below_drewN | apply below_drew1) | exact HB.out)))); have n1_ := Aside0.mk (below_step (by repeat (first | (with_reducible first | exact HB.out | apply below_alloc | apply pw_below_drewN | apply below_drew1) | exact HB.out)) hb); clear HB; have HO262 := n0_; have HB := n1_; clear n0_ n1_; (try clear hb); (try clear hb2); (try clear hk); (try clear hi); (try clear ho0)) | ((with_reducible refine gate_callee (f := 6) rfl ?_); refine goesL_ (some 26) rfl rfl Tryd.func6 (by kernel_rfl) rfl #[.slice A1 l1.length c1] rfl (by (try simp only [List.map_toArray, List.map_cons, List.map_nil]); first | done | rfl | (simp only [List.length_drop, List.length_take]; rfl)) ?_; (with_reducible refine (operand_Parse.calls _ _ l1 t263 t264 _ ?side1 ?side2 A5.out ?tabs).mono ?_); (case tabs => (first | exact HT | (refine tabs_of HT ?_; repeat (first | (with_reducible first | exact Below.refl _ _ | exact (Aside0.out (by assumption)) | exact (Drawn0.below (by assumption)) | apply below_alloc | apply pw_below_drewN | apply below_drew1 | assumption) | exact HB.out)))); (case side1 => repeat (first | exact (Kd.C_below HR1.out HB.out) | (with_reducible refine Kd.C_alloc ?_ _) | (with_reducible refine Kd.C_drewN ?_ _) | (with_reducible refine Kd.C_drew ?_))); (case side2 => exact HC1.out); rintro e w12 ⟨v265, rfl, ho0, hb⟩; refine ⟨_, rfl, ?_⟩; have n0_ := Aside0.mk (Kd.R_elder' (by (with_reducible repeat (first | apply Kd.R_alloc | apply Kd.R_drewN | apply Kd.R_drew)); exact HO262.out) (Kd.R_base ho0) hb); have n1_ := Aside0.mk (Kd.R_lower (Kd.R_new' ho0 (Kd.R_lt (by (with_reducible repeat (first | apply Kd.R_alloc | apply Kd.R_drewN | apply Kd.R_drew)); exact HO262.out))) (below_size (by repeat (first | (with_reducible first | exact HB.out | apply below_alloc | apply pw_below_drewN | apply below_drew1) | exact HB.out)))); have n2_ := Aside0.mk (below_step (by repeat (first | (with_reducible first | exact HB.out | apply below_alloc | apply pw_below_drewN | apply below_drew1) | exact HB.out)) hb); clear HO262; clear HB; have HO262 := n0_; have HO266 := n1_; have HB := n2_; clear n0_ n1_ n2_; (try clear hb); (try clear hb2); (try clear hk); (try clear hi); (try clear ho0)) | ((with_reducible refine gate_builtin (b := .append) (xs := #[.tmp 29, .tmp 30]) rfl ?_); (try (refine gate_guard (by rfl) ?_; dsimp only)); at_builtin; refine Kd.R_append_rows k29 (w0 := w) w.heap.size rfl (.tmp 29) (.tmp 30) 22 29 (.agg #[(.int .i64 0), (.string ⟨#[]⟩), (.int .u64 0)]) 32 rfl Tryd.underlying22 info29 rfl (by decide) (by omega) (.slice none 0 0) ([] : List (S29)) l0 _ _ _ (fun _ => True) (fun _ => False) rfl rfl ?aO ?aR (fun _ _ h => h) (fun _ h => h.elim) ?aF ?aB ?aS ?aL ?_; (case aR => repeat (first | exact (Kd.C_below HR0.out HB.out) | (with_reducible refine Kd.C_alloc ?_ _) | (with_reducible refine Kd.C_drewN ?_ _) | (with_reducible refine Kd.C_drew ?_))); (case aB => exact (by repeat (first | (with_reducible first | exact HB.out | apply below_alloc | apply pw_below_drewN | apply below_drew1) | exact HB.out))); (case aF => exact (fun _ _ => trivial)); (case aO => exact ((Kd.R_nil _ _ _ _ (fun _ => True)))); (case aS => exact (below_size (by repeat (first | (with_reducible first | exact HB.out | apply below_alloc | apply pw_below_drewN | apply below_drew1) | exact HB.out)))); (case aL => have := LMc6.out; omega); intro v268 w13 ho hb hg hat; rw [← Ny267.out] at ho; have n0_ := Aside0.mk (Kd.R_grown (by (with_reducible repeat (first | apply Kd.R_alloc | apply Kd.R_drewN | apply Kd.R_drew)); exact HO262.out) hg (fun _ _ => by simp [Value.ownBlock])); have n1_ := Aside0.mk (Kd.R_grown (by (with_reducible repeat (first | apply Kd.R_alloc | apply Kd.R_drewN | apply Kd.R_drew)); exact HO266.out) hg (fun _ _ => by simp [Value.ownBlock])); have n2_ := Aside0.mk (hb); have n3_ := Aside0.mk (ho); clear HO262; clear HO266; clear HB; have HO262 := n0_; have HO266 := n1_; have HB := n2_; have HO269 := n3_; clear n0_ n1_ n2_ n3_; clear ho hb hg hat) | ((with_reducible refine gate_builtin (b := .append) (xs := #[.tmp 32, .tmp 34]) rfl ?_); (try (refine gate_guard (by rfl) ?_; dsimp only)); at_builtin; refine Kd.R_append k29 (w0 := w) w.heap.size rfl (.tmp 32) (.tmp 34) 22 29 (.agg #[(.int .i64 0), (.string ⟨#[]⟩), (.int .u64 0)]) 32 rfl Tryd.underlying22 info29 rfl (by decide) (by omega) v268 y267 (⟨4, (⟨#[44]⟩ : ByteArray), 0⟩ : S29) [.int .i64 4, .string (⟨#[44]⟩ : ByteArray), .int .u64 0] (fun _ => True) (fun _ => False) rfl rfl ?aP (fun _ hk => hk.elim) ?aF ?aO ?aB ?aS ?aL ?_; (case aP => exact k29_mkM _ _ _ (⟨4, (⟨#[44]⟩ : ByteArray), 0⟩ : S29)); (case aB => exact (by repeat (first | (with_reducible first | exact HB.out | apply below_alloc | apply pw_below_drewN | apply below_drew1) | exact HB.out))); (case aF => exact (fun _ _ => trivial)); (case aO => exact (by (with_reducible repeat (first | apply Kd.R_alloc | apply Kd.R_drewN | apply Kd.R_drew)); exact HO269.out)); (case aS => exact (below_size (by repeat (first | (with_reducible first | exact HB.out | apply below_alloc | apply pw_below_drewN | apply below_drew1) | exact HB.out)))); (case aL => have := LMc7.out; omega); intro v271 w14 ho hb hg hat; rw [← Ny270.out] at ho; have n0_ := Aside0.mk (Kd.R_over' (by (with_reducible repeat (first | apply Kd.R_alloc | apply Kd.R_drewN | apply Kd.R_drew)); exact HO262.out) (Kd.R_typed (by (with_reducible repeat (first | apply Kd.R_alloc | apply Kd.R_drewN | apply Kd.R_drew)); exact HO269.out)) (by decide) hg); have n1_ := Aside0.mk (Kd.R_over' (by (with_reducible repeat (first | apply Kd.R_alloc | apply Kd.R_drewN | apply Kd.R_drew)); exact HO266.out) (Kd.R_typed (by (with_reducible repeat (first | apply Kd.R_alloc | apply Kd.R_drewN | apply Kd.R_drew)); exact HO269.out)) (by decide) hg); have n2_ := Aside0.mk (hb); have n3_ := Aside0.mk (ho); clear HO262; clear HO266; clear HB; clear HO269; have HO262 := n0_; have HO266 := n1_; have HB := n2_; have HO272 := n3_; clear n0_ n1_ n2_ n3_; clear ho hb hg hat) | ((with_reducible refine gate_builtin (b := .append) (xs := #[.tmp 36, .tmp 37]) rfl ?_); (try (refine gate_guard (by rfl) ?_; dsimp only)); at_builtin; refine Kd.R_append_rows k29 (w0 := w) w.heap.size rfl (.tmp 36) (.tmp 37) 22 29 (.agg #[(.int .i64 0), (.string ⟨#[]⟩), (.int .u64 0)]) 32 rfl Tryd.underlying22 info29 rfl (by decide) (by omega) v271 y270 l1 _ _ _ (fun _ => True) (fun _ => False) rfl rfl ?aO ?aR (fun _ _ h => h) (fun _ h => h.elim) ?aF ?aB ?aS ?aL ?_; (case aR => repeat (first | exact (Kd.C_below HR1.out HB.out) | (with_reducible refine Kd.C_alloc ?_ _) | (with_reducible refine Kd.C_drewN ?_ _) | (with_reducible refine Kd.C_drew ?_))); (case aB => exact (by repeat (first | (with_reducible first | exact HB.out | apply below_alloc | apply pw_below_drewN | apply below_drew1) | exact HB.out))); (case aF => exact (fun _ _ => trivial)); (case aO => exact (by (with_reducible repeat (first | apply Kd.R_alloc | apply Kd.R_drewN | apply Kd.R_drew)); exact HO272.out)); (case aS => exact (below_size (by repeat (first | (with_reducible first | exact HB.out | apply below_alloc | apply pw_below_drewN | apply below_drew1) | exact HB.out)))); (case aL => have := LMc8.out; omega); intro v274 w15 ho hb hg hat; rw [← Ny273.out] at ho; have n0_ := Aside0.mk (Kd.R_over' (by (with_reducible repeat (first | apply Kd.R_alloc | apply Kd.R_drewN | apply Kd.R_drew)); exact HO262.out) (Kd.R_typed (by (with_reducible repeat (first | apply Kd.R_alloc | apply Kd.R_drewN | apply Kd.R_drew)); exact HO272.out)) (by decide) hg); have n1_ := Aside0.mk (Kd.R_over' (by (with_reducible repeat (first | apply Kd.R_alloc | apply Kd.R_drewN | apply Kd.R_drew)); exact HO266.out) (Kd.R_typed (by (with_reducible repeat (first | apply Kd.R_alloc | apply Kd.R_drewN | apply Kd.R_drew)); exact HO272.out)) (by decide) hg); have n2_ := Aside0.mk (hb); have n3_ := Aside0.mk (ho); clear HO262; clear HO266; clear HB; clear HO272; have HO262 := n0_; have HO266 := n1_; have HB := n2_; have HO275 := n3_; clear n0_ n1_ n2_ n3_; clear ho hb hg hat; obtain ⟨Ao16, co16, eo16⟩ := Kd.R_slice HO275.out; subst eo16) | ((with_reducible refine gate_callee (f := 6) rfl ?_); refine goesL_ (some 41) rfl rfl Tryd.func6 (by kernel_rfl) rfl #[.slice Ao16 y273.length co16] rfl (by (try simp only [List.map_toArray, List.map_cons, List.map_nil]); first | done | rfl | (simp only [List.length_drop, List.length_take]; rfl)) ?_; (with_reducible refine (operand_Parse.calls _ _ y273 t276 t277 _ ?side1 ?side2 A9.out ?tabs).mono ?_); (case tabs => (first | exact HT | (refine tabs_of HT ?_; repeat (first | (with_reducible first | exact Below.refl _ _ | exact (Aside0.out (by assumption)) | exact (Drawn0.below (by assumption)) | apply below_alloc | apply pw_below_drewN | apply below_drew1 | assumption) | exact HB.out)))); (case side1 => repeat (first | exact (Kd.R_reads' HO275.out).2.2 | (with_reducible refine Kd.C_alloc ?_ _) | (with_reducible refine Kd.C_drewN ?_ _) | (with_reducible refine Kd.C_drew ?_))); (case side2 => exact (Kd.R_reads' HO275.out).2.1); rintro e w17 ⟨v278, rfl, ho0, hb⟩; refine ⟨_, rfl, ?_⟩; have n0_ := Aside0.mk (Kd.R_elder' (by (with_reducible repeat (first | apply Kd.R_alloc | apply Kd.R_drewN | apply Kd.R_drew)); exact HO262.out) (Kd.R_base ho0) hb); have n1_ := Aside0.mk (Kd.R_elder' (by (with_reducible repeat (first | apply Kd.R_alloc | apply Kd.R_drewN | apply Kd.R_drew)); exact HO266.out) (Kd.R_base ho0) hb); have n2_ := Aside0.mk (Kd.R_below (by (with_reducible repeat (first | apply Kd.R_alloc | apply Kd.R_drewN | apply Kd.R_drew)); exact HO275.out) hb); have n3_ := Aside0.mk (Kd.R_lower (Kd.R_new' (Kd.R_new' ho0 (Kd.R_lt (by (with_reducible repeat (first | apply Kd.R_alloc | apply Kd.R_drewN | apply Kd.R_drew)); exact HO262.out))) (Kd.R_lt (by (with_reducible repeat (first | apply Kd.R_alloc | apply Kd.R_drewN | apply Kd.R_drew)); exact HO266.out))) (below_size (by repeat (first | (with_reducible first | exact HB.out | apply below_alloc | apply pw_below_drewN | apply below_drew1) | exact HB.out)))); have n4_ := Aside0.mk (below_step (by repeat (first | (with_reducible first | exact HB.out | apply below_alloc | apply pw_below_drewN | apply below_drew1) | exact HB.out)) hb); clear HO262; clear HO266; clear HO275; clear HB; have HO262 := n0_; have HO266 := n1_; have HO275 := n2_; have HO279 := n3_; have HB := n4_; clear n0_ n1_ n2_ n3_ n4_; (try clear hb); (try clear hb2); (try clear hk); (try clear hi); (try clear ho0)))
     (try simp only [Act.put, List.setIfInBounds_toArray, List.set_cons_zero, List.set_cons_succ])
     go_cut [51] (fun v51 wc => ∃ (kq : Nat) (x51_9 : Bool), v51 = .bool x51_9 ∧ Aside0 (cleatlaw11_OperandJoins.j0 kq t259 t260 t263 t264 t276 t277 x51_9 = some r) ∧ Aside0 (kq ≤ k) ∧ Aside0 (Kd.R k44 44 wc w.heap.size (fun k_ => some k_ ≠ (v265 : Value).ownBlock ∧ some k_ ≠ (v278 : Value).ownBlock) v261 t259) ∧ Aside0 (Kd.R k44 44 wc w.heap.size (fun k_ => some k_ ≠ (v261 : Value).ownBlock ∧ some k_ ≠ (v278 : Value).ownBlock) v265 t263) ∧ Aside0 (Kd.R k44 44 wc w.heap.size (fun k_ => some k_ ≠ (v261 : Value).ownBlock ∧ some k_ ≠ (v265 : Value).ownBlock) v278 t276) ∧ Aside0 (Below w.heap.size w wc))
     case first =>
      have H := HC10.out
      clear HC10
      by_cases c18 : (l0.length : Int) = 0
      ·rw [if_pos c18] at H
       have c18b0 : ((l0.length : Int) == 0) = true := beq_iff_eq.mpr c18
       have c18b1 : ((l0.length : Int) != 0) = false := bne_eq_false_iff_eq.mpr c18
       clear c18
       (first | rw [c18b0] | (simp only [i64_w, i32_w]; rw [c18b0]) | skip)
       have H' := Aside0.mk H
       clear H
       go_wp2
       go_meet
       case rel => exact ⟨_, (true), (by first | rfl | (simp; done) | (simp [*]; done)), H', ⟨by first | omega | exact Nat.le_refl _⟩, ⟨by (with_reducible repeat (first | apply Kd.R_alloc | apply Kd.R_drewN | apply Kd.R_drew)); exact Kd.R_mono HO262.out (fun _ hk => ⟨hk.1.2, hk.2⟩)⟩, ⟨by (with_reducible repeat (first | apply Kd.R_alloc | apply Kd.R_drewN | apply Kd.R_drew)); exact Kd.R_mono HO266.out (fun _ hk => ⟨hk.1.2, hk.2⟩)⟩, ⟨by (with_reducible repeat (first | apply Kd.R_alloc | apply Kd.R_drewN | apply Kd.R_drew)); exact Kd.R_mono HO279.out (fun _ hk => ⟨hk.1.2, hk.2⟩)⟩, ⟨by repeat (first | (with_reducible first | exact HB.out | apply below_alloc | apply pw_below_drewN | apply below_drew1) | exact HB.out)⟩⟩
      ·rw [if_neg c18] at H
       have c18b0 : ((l0.length : Int) == 0) = false := beq_eq_false_iff_ne.mpr c18
       have c18b1 : ((l0.length : Int) != 0) = true := bne_iff_ne.mpr c18
       have c18b2 : ¬ (l0 = []) := fun h_ => c18 (by rw [h_]; rfl)
       (first | rw [c18b0] | (simp only [i64_w, i32_w]; rw [c18b0]) | skip)
       have H' := Aside0.mk H
       clear H
       go_wp2
       go_meet
       case rel => exact ⟨_, (((l1.length : Int) == 0)), (by first | rfl | (simp; done) | (simp [*]; done)), H', ⟨by first | omega | exact Nat.le_refl _⟩, ⟨by (with_reducible repeat (first | apply Kd.R_alloc | apply Kd.R_drewN | apply Kd.R_drew)); exact Kd.R_mono HO262.out (fun _ hk => ⟨hk.1.2, hk.2⟩)⟩, ⟨by (with_reducible repeat (first | apply Kd.R_alloc | apply Kd.R_drewN | apply Kd.R_drew)); exact Kd.R_mono HO266.out (fun _ hk => ⟨hk.1.2, hk.2⟩)⟩, ⟨by (with_reducible repeat (first | apply Kd.R_alloc | apply Kd.R_drewN | apply Kd.R_drew)); exact Kd.R_mono HO279.out (fun _ hk => ⟨hk.1.2, hk.2⟩)⟩, ⟨by repeat (first | (with_reducible first | exact HB.out | apply below_alloc | apply pw_below_drewN | apply below_drew1) | exact HB.out)⟩⟩
     case rest =>
      clear HC10
      try clear c1
      try clear p2
      try clear c3
      try clear c3b0
      try clear c6
      try clear p6
      try clear c7
      try clear c8
      try clear c18
      try clear c18b0
      try clear c18b1
      try clear c18b2
      obtain ⟨kq, x51_9, rfl, HA, HJ9, HO_5, HO_7, HO_10, HB⟩ := hcut
      cases kq with
      | zero => exact absurd HA.out (by simp [cleatlaw11_OperandJoins.j0])
      | succ kj9 =>
       have H := HA.out
       clear HA
       simp only [cleatlaw11_OperandJoins.j0] at H
       by_cases c19 : x51_9 = true
       ·subst c19
        rw [if_pos rfl] at H
        replace H := Option.bind_eq_some_iff.mp H
        obtain ⟨t280, A200, H⟩ := H
        replace H : (if t280 = true then (some (t277 == 3)) else (some false)) = some r := H
        have A20 := Aside0.mk A200
        clear A200
        by_cases c21 : t280 = true
        ·subst c21
         rw [if_pos rfl] at H
         obtain rfl := Option.some.inj H
         go_wp2_with (first | ((with_reducible refine gate_callee (f := 7) rfl ?_); refine goesL_ (some 52) rfl rfl Tryd.func7 (by kernel_rfl) rfl #[] rfl (by (try simp only [List.map_toArray, List.map_cons, List.map_nil]); first | done | rfl | (simp only [List.length_drop, List.length_take]; rfl)) ?_; (with_reducible refine (cleatlaw11_given.calls kj9  true _ A20.out ?tabs).mono ?_); (case tabs => (first | exact HT | (refine tabs_of HT ?_; repeat (first | (with_reducible first | exact Below.refl _ _ | exact (Aside0.out (by assumption)) | exact (Drawn0.below (by assumption)) | apply below_alloc | apply pw_below_drewN | apply below_drew1 | assumption) | exact HB.out)))); rintro e w22 ⟨rfl, hb⟩; refine ⟨_, rfl, ?_⟩; have n0_ := Aside0.mk (Kd.R_below (by (with_reducible repeat (first | apply Kd.R_alloc | apply Kd.R_drewN | apply Kd.R_drew)); exact HO_5.out) hb); have n1_ := Aside0.mk (Kd.R_below (by (with_reducible repeat (first | apply Kd.R_alloc | apply Kd.R_drewN | apply Kd.R_drew)); exact HO_7.out) hb); have n2_ := Aside0.mk (Kd.R_below (by (with_reducible repeat (first | apply Kd.R_alloc | apply Kd.R_drewN | apply Kd.R_drew)); exact HO_10.out) hb); have n3_ := Aside0.mk (below_step (by repeat (first | (with_reducible first | exact HB.out | apply below_alloc | apply pw_below_drewN | apply below_drew1) | exact HB.out)) hb); clear HO_5; clear HO_7; clear HO_10; clear HB; have HO_5 := n0_; have HO_7 := n1_; have HO_10 := n2_; have HB := n3_; clear n0_ n1_ n2_ n3_; (try clear hb); (try clear hb2); (try clear hk); (try clear hi)))
         go_ret
         exact ⟨by first | rfl | (simp [errW_none, errW_some] <;> rfl) | (simp [*, errW_none, errW_some] <;> rfl), by repeat (first | (with_reducible first | exact HB.out | apply below_alloc | apply pw_below_drewN | apply below_drew1) | exact HB.out)⟩
        ·replace c21 := Bool.eq_false_iff.mpr c21
         subst c21
         rw [if_neg (show ¬ (false = true) by decide)] at H
         obtain rfl := Option.some.inj H
         go_wp2_with (first | ((with_reducible refine gate_callee (f := 7) rfl ?_); refine goesL_ (some 52) rfl rfl Tryd.func7 (by kernel_rfl) rfl #[] rfl (by (try simp only [List.map_toArray, List.map_cons, List.map_nil]); first | done | rfl | (simp only [List.length_drop, List.length_take]; rfl)) ?_; (with_reducible refine (cleatlaw11_given.calls kj9  false _ A20.out ?tabs).mono ?_); (case tabs => (first | exact HT | (refine tabs_of HT ?_; repeat (first | (with_reducible first | exact Below.refl _ _ | exact (Aside0.out (by assumption)) | exact (Drawn0.below (by assumption)) | apply below_alloc | apply pw_below_drewN | apply below_drew1 | assumption) | exact HB.out)))); rintro e w23 ⟨rfl, hb⟩; refine ⟨_, rfl, ?_⟩; have n0_ := Aside0.mk (Kd.R_below (by (with_reducible repeat (first | apply Kd.R_alloc | apply Kd.R_drewN | apply Kd.R_drew)); exact HO_5.out) hb); have n1_ := Aside0.mk (Kd.R_below (by (with_reducible repeat (first | apply Kd.R_alloc | apply Kd.R_drewN | apply Kd.R_drew)); exact HO_7.out) hb); have n2_ := Aside0.mk (Kd.R_below (by (with_reducible repeat (first | apply Kd.R_alloc | apply Kd.R_drewN | apply Kd.R_drew)); exact HO_10.out) hb); have n3_ := Aside0.mk (below_step (by repeat (first | (with_reducible first | exact HB.out | apply below_alloc | apply pw_below_drewN | apply below_drew1) | exact HB.out)) hb); clear HO_5; clear HO_7; clear HO_10; clear HB; have HO_5 := n0_; have HO_7 := n1_; have HO_10 := n2_; have HB := n3_; clear n0_ n1_ n2_ n3_; (try clear hb); (try clear hb2); (try clear hk); (try clear hi)))
         go_ret
         exact ⟨by first | rfl | (simp [errW_none, errW_some] <;> rfl) | (simp [*, errW_none, errW_some] <;> rfl), by repeat (first | (with_reducible first | exact HB.out | apply below_alloc | apply pw_below_drewN | apply below_drew1) | exact HB.out)⟩
       ·replace c19 := Bool.eq_false_iff.mpr c19
        subst c19
        rw [if_neg (show ¬ (false = true) by decide)] at H
        have HC24 := Aside0.mk H
        clear H
        go_upto_region 12 with (fail)
        go_cut [62] (fun v62 wc => ∃ (kq : Nat) (x62_23 : Bool), v62 = .bool x62_23 ∧ Aside0 (cleatlaw11_OperandJoins.j1 kq t259 t263 t276 t277 x62_23 = some r) ∧ Aside0 (kq ≤ kj9) ∧ Aside0 (Kd.R k44 44 wc w.heap.size (fun k_ => some k_ ≠ (v265 : Value).ownBlock ∧ some k_ ≠ (v278 : Value).ownBlock) v261 t259) ∧ Aside0 (Kd.R k44 44 wc w.heap.size (fun k_ => some k_ ≠ (v261 : Value).ownBlock ∧ some k_ ≠ (v278 : Value).ownBlock) v265 t263) ∧ Aside0 (Kd.R k44 44 wc w.heap.size (fun k_ => some k_ ≠ (v261 : Value).ownBlock ∧ some k_ ≠ (v265 : Value).ownBlock) v278 t276) ∧ Aside0 (Below w.heap.size w wc))
        case first =>
         have H := HC24.out
         clear HC24
         by_cases c25 : t260 = 0
         ·rw [if_pos c25] at H
          have c25b0 : (t260 == 0) = true := beq_iff_eq.mpr c25
          have c25b1 : (t260 != 0) = false := bne_eq_false_iff_eq.mpr c25
          clear c25
          (first | rw [c25b0] | (simp only [i64_w, i32_w]; rw [c25b0]) | skip)
          have H' := Aside0.mk H
          clear H
          go_wp2
          go_meet
          case rel => exact ⟨_, ((t264 != 0)), (by first | rfl | (simp; done) | (simp [*]; done)), H', ⟨by have := HJ9.out; first | omega | exact Nat.le_refl _⟩, ⟨by (with_reducible repeat (first | apply Kd.R_alloc | apply Kd.R_drewN | apply Kd.R_drew)); exact HO_5.out⟩, ⟨by (with_reducible repeat (first | apply Kd.R_alloc | apply Kd.R_drewN | apply Kd.R_drew)); exact HO_7.out⟩, ⟨by (with_reducible repeat (first | apply Kd.R_alloc | apply Kd.R_drewN | apply Kd.R_drew)); exact HO_10.out⟩, ⟨by repeat (first | (with_reducible first | exact HB.out | apply below_alloc | apply pw_below_drewN | apply below_drew1) | exact HB.out)⟩⟩
         ·rw [if_neg c25] at H
          have c25b0 : (t260 == 0) = false := beq_eq_false_iff_ne.mpr c25
          have c25b1 : (t260 != 0) = true := bne_iff_ne.mpr c25
          (first | rw [c25b0] | (simp only [i64_w, i32_w]; rw [c25b0]) | skip)
          have H' := Aside0.mk H
          clear H
          go_wp2
          go_meet
          case rel => exact ⟨_, (true), (by first | rfl | (simp; done) | (simp [*]; done)), H', ⟨by have := HJ9.out; first | omega | exact Nat.le_refl _⟩, ⟨by (with_reducible repeat (first | apply Kd.R_alloc | apply Kd.R_drewN | apply Kd.R_drew)); exact HO_5.out⟩, ⟨by (with_reducible repeat (first | apply Kd.R_alloc | apply Kd.R_drewN | apply Kd.R_drew)); exact HO_7.out⟩, ⟨by (with_reducible repeat (first | apply Kd.R_alloc | apply Kd.R_drewN | apply Kd.R_drew)); exact HO_10.out⟩, ⟨by repeat (first | (with_reducible first | exact HB.out | apply below_alloc | apply pw_below_drewN | apply below_drew1) | exact HB.out)⟩⟩
        case rest =>
         clear HC24
         try clear c1
         try clear c2
         try clear p2
         try clear c3
         try clear c3b0
         try clear c6
         try clear p6
         try clear c7
         try clear c8
         try clear c18
         try clear c18b0
         try clear c18b1
         try clear c18b2
         try clear c19
         try clear c21
         try clear c25
         try clear c25b0
         try clear c25b1
         try clear p2
         try clear p6
         obtain ⟨kq, x62_23, rfl, HA, HJ23, HO_5, HO_7, HO_10, HB⟩ := hcut
         cases kq with
         | zero => exact absurd HA.out (by simp [cleatlaw11_OperandJoins.j1])
         | succ kj23 =>
          have H := HA.out
          clear HA
          simp only [cleatlaw11_OperandJoins.j1] at H
          by_cases c26 : x62_23 = true
          ·subst c26
           rw [if_pos rfl] at H
           replace H := Option.bind_eq_some_iff.mp H
           obtain ⟨t281, A270, H⟩ := H
           replace H : (some t281) = some r := H
           have A27 := Aside0.mk A270
           clear A270
           obtain rfl := Option.some.inj H
           go_wp2_with (first | ((with_reducible refine gate_callee (f := 7) rfl ?_); refine goesL_ (some 63) rfl rfl Tryd.func7 (by kernel_rfl) rfl #[] rfl (by (try simp only [List.map_toArray, List.map_cons, List.map_nil]); first | done | rfl | (simp only [List.length_drop, List.length_take]; rfl)) ?_; (with_reducible refine (cleatlaw11_given.calls kj23  t281 _ A27.out ?tabs).mono ?_); (case tabs => (first | exact HT | (refine tabs_of HT ?_; repeat (first | (with_reducible first | exact Below.refl _ _ | exact (Aside0.out (by assumption)) | exact (Drawn0.below (by assumption)) | apply below_alloc | apply pw_below_drewN | apply below_drew1 | assumption) | exact HB.out)))); rintro e w28 ⟨rfl, hb⟩; refine ⟨_, rfl, ?_⟩; have n0_ := Aside0.mk (Kd.R_below (by (with_reducible repeat (first | apply Kd.R_alloc | apply Kd.R_drewN | apply Kd.R_drew)); exact HO_5.out) hb); have n1_ := Aside0.mk (Kd.R_below (by (with_reducible repeat (first | apply Kd.R_alloc | apply Kd.R_drewN | apply Kd.R_drew)); exact HO_7.out) hb); have n2_ := Aside0.mk (Kd.R_below (by (with_reducible repeat (first | apply Kd.R_alloc | apply Kd.R_drewN | apply Kd.R_drew)); exact HO_10.out) hb); have n3_ := Aside0.mk (below_step (by repeat (first | (with_reducible first | exact HB.out | apply below_alloc | apply pw_below_drewN | apply below_drew1) | exact HB.out)) hb); clear HO_5; clear HO_7; clear HO_10; clear HB; have HO_5 := n0_; have HO_7 := n1_; have HO_10 := n2_; have HB := n3_; clear n0_ n1_ n2_ n3_; (try clear hb); (try clear hb2); (try clear hk); (try clear hi)))
           go_ret
           exact ⟨by first | rfl | (simp [errW_none, errW_some] <;> rfl) | (simp [*, errW_none, errW_some] <;> rfl), by repeat (first | (with_reducible first | exact HB.out | apply below_alloc | apply pw_below_drewN | apply below_drew1) | exact HB.out)⟩
          ·replace c26 := Bool.eq_false_iff.mpr c26
           subst c26
           rw [if_neg (show ¬ (false = true) by decide)] at H
           by_cases c29 : ([] : List (S44)).length + t259.length < 2513169434916
           ·rw [if_pos c29] at H
            have LMc29 := Aside0.mk c29
            clear c29
            obtain ⟨y282, hy282⟩ : ∃ y_ : List (S44), y_ = (([] : List (S44)) ++ t259) := ⟨_, rfl⟩
            replace H : (if y282.length + t263.length < 2513169434916 then ((cleatlaw11_given.f kj23).bind fun t288 => (if t288 = true then (if t277 = 0 then ((cleatref11_Same.f kj23 t276 (y282 ++ t263)).bind fun t289 => (some t289)) else (some false)) else (some false))) else (none)) = some r := by first | (rw [hy282]; with_reducible exact H) | (have H2_ := (Option.bind_some _ _).symm.trans H; rw [hy282]; with_reducible exact H2_) | (have H2_ := (Option.bind_some _ _).symm.trans H; with_reducible exact H2_) | with_reducible exact H | (rw [hy282]; exact H) | exact H
            have Ny282 := Aside0.mk hy282
            clear hy282
            by_cases c30 : y282.length + t263.length < 2513169434916
            ·rw [if_pos c30] at H
             have LMc30 := Aside0.mk c30
             clear c30
             obtain ⟨y285, hy285⟩ : ∃ y_ : List (S44), y_ = (y282 ++ t263) := ⟨_, rfl⟩
             replace H : ((cleatlaw11_given.f kj23).bind fun t288 => (if t288 = true then (if t277 = 0 then ((cleatref11_Same.f kj23 t276 y285).bind fun t289 => (some t289)) else (some false)) else (some false))) = some r := by first | (rw [hy285]; with_reducible exact H) | (have H2_ := (Option.bind_some _ _).symm.trans H; rw [hy285]; with_reducible exact H2_) | (have H2_ := (Option.bind_some _ _).symm.trans H; with_reducible exact H2_) | with_reducible exact H | (rw [hy285]; exact H) | exact H
             have Ny285 := Aside0.mk hy285
             clear hy285
             replace H := Option.bind_eq_some_iff.mp H
             obtain ⟨t288, A310, H⟩ := H
             replace H : (if t288 = true then (if t277 = 0 then ((cleatref11_Same.f kj23 t276 y285).bind fun t289 => (some t289)) else (some false)) else (some false)) = some r := H
             have A31 := Aside0.mk A310
             clear A310
             by_cases c32 : t288 = true
             ·subst c32
              rw [if_pos rfl] at H
              by_cases c33 : t277 = 0
              ·rw [if_pos c33] at H
               have c33b0 : (t277 == 0) = true := beq_iff_eq.mpr c33
               have c33b1 : (t277 != 0) = false := bne_eq_false_iff_eq.mpr c33
               clear c33
               replace H := Option.bind_eq_some_iff.mp H
               obtain ⟨t289, A340, H⟩ := H
               replace H : (some t289) = some r := H
               have A34 := Aside0.mk A340
               clear A340
               obtain rfl := Option.some.inj H
               obtain ⟨Ao36, co36, eo36⟩ := Kd.R_slice HO_5.out
               subst eo36
               go_wp2_with (first | ((with_reducible refine gate_builtin (b := .append) (xs := #[.tmp 64, .tmp 65]) rfl ?_); (try (refine gate_guard (by rfl) ?_; dsimp only)); at_builtin; refine Kd.R_append_rows k44 (w0 := w) w.heap.size rfl (.tmp 64) (.tmp 65) 23 44 (.agg #[(.int .i64 0), (.int .i64 0), (.bool false), (.bool false), (.int .u64 0), (.string ⟨#[]⟩), (.int .i64 0)]) 56 rfl Tryd.underlying23 info44 rfl (by decide) (by omega) (.slice none 0 0) ([] : List (S44)) t259 _ _ _ (fun k_ => some k_ ≠ (.slice Ao36 t259.length co36 : Value).ownBlock ∧ some k_ ≠ (v265 : Value).ownBlock ∧ some k_ ≠ (v278 : Value).ownBlock) (fun _ => False) rfl rfl ?aO ?aR (fun _ _ h => h) (fun _ h => h.elim) ?aF ?aB ?aS ?aL ?_; (case aR => repeat (first | exact (Kd.R_reads' HO_5.out).2.2 | (with_reducible refine Kd.C_alloc ?_ _) | (with_reducible refine Kd.C_drewN ?_ _) | (with_reducible refine Kd.C_drew ?_))); (case aB => exact (by repeat (first | (with_reducible first | exact HB.out | apply below_alloc | apply pw_below_drewN | apply below_drew1) | exact HB.out))); (case aF => exact (fun k_ hk => ⟨Kd.fresh' (Kd.R_lt (by (with_reducible repeat (first | apply Kd.R_alloc | apply Kd.R_drewN | apply Kd.R_drew)); exact HO_5.out)) k_ hk, Kd.fresh' (Kd.R_lt (by (with_reducible repeat (first | apply Kd.R_alloc | apply Kd.R_drewN | apply Kd.R_drew)); exact HO_7.out)) k_ hk, Kd.fresh' (Kd.R_lt (by (with_reducible repeat (first | apply Kd.R_alloc | apply Kd.R_drewN | apply Kd.R_drew)); exact HO_10.out)) k_ hk⟩)); (case aO => exact ((Kd.R_nil _ _ _ _ (fun k_ => some k_ ≠ (.slice Ao36 t259.length co36 : Value).ownBlock ∧ some k_ ≠ (v265 : Value).ownBlock ∧ some k_ ≠ (v278 : Value).ownBlock)))); (case aS => exact (below_size (by repeat (first | (with_reducible first | exact HB.out | apply below_alloc | apply pw_below_drewN | apply below_drew1) | exact HB.out)))); (case aL => have := LMc29.out; omega); intro v283 w35 ho hb hg hat; rw [← Ny282.out] at ho; have n0_ := Aside0.mk (Kd.R_after (Kd.R_apart_nil (by (with_reducible repeat (first | apply Kd.R_alloc | apply Kd.R_drewN | apply Kd.R_drew)); exact HO_5.out)) hg hat); have n1_ := Aside0.mk (Kd.R_after (Kd.R_apart_nil (by (with_reducible repeat (first | apply Kd.R_alloc | apply Kd.R_drewN | apply Kd.R_drew)); exact HO_7.out)) hg hat); have n2_ := Aside0.mk (Kd.R_after (Kd.R_apart_nil (by (with_reducible repeat (first | apply Kd.R_alloc | apply Kd.R_drewN | apply Kd.R_drew)); exact HO_10.out)) hg hat); have n3_ := Aside0.mk (hb); have n4_ := Aside0.mk (ho); clear HO_5; clear HO_7; clear HO_10; clear HB; have HO_5 := n0_; have HO_7 := n1_; have HO_10 := n2_; have HB := n3_; have HO284 := n4_; clear n0_ n1_ n2_ n3_ n4_; clear ho hb hg hat; obtain ⟨Ao38, co38, eo38⟩ := Kd.R_slice HO_7.out; subst eo38) | ((with_reducible refine gate_builtin (b := .append) (xs := #[.tmp 67, .tmp 68]) rfl ?_); (try (refine gate_guard (by rfl) ?_; dsimp only)); at_builtin; refine Kd.R_append_rows k44 (w0 := w) w.heap.size rfl (.tmp 67) (.tmp 68) 23 44 (.agg #[(.int .i64 0), (.int .i64 0), (.bool false), (.bool false), (.int .u64 0), (.string ⟨#[]⟩), (.int .i64 0)]) 56 rfl Tryd.underlying23 info44 rfl (by decide) (by omega) v283 y282 t263 _ _ _ (fun k_ => some k_ ≠ (.slice Ao36 t259.length co36 : Value).ownBlock ∧ some k_ ≠ (.slice Ao38 t263.length co38 : Value).ownBlock ∧ some k_ ≠ (v278 : Value).ownBlock) (fun _ => False) rfl rfl ?aO ?aR (fun _ _ h => h) (fun _ h => h.elim) ?aF ?aB ?aS ?aL ?_; (case aR => repeat (first | exact (Kd.R_reads' HO_7.out).2.2 | (with_reducible refine Kd.C_alloc ?_ _) | (with_reducible refine Kd.C_drewN ?_ _) | (with_reducible refine Kd.C_drew ?_))); (case aB => exact (by repeat (first | (with_reducible first | exact HB.out | apply below_alloc | apply pw_below_drewN | apply below_drew1) | exact HB.out))); (case aF => exact (fun k_ hk => ⟨Kd.fresh' (Kd.R_lt (by (with_reducible repeat (first | apply Kd.R_alloc | apply Kd.R_drewN | apply Kd.R_drew)); exact HO_5.out)) k_ hk, Kd.fresh' (Kd.R_lt (by (with_reducible repeat (first | apply Kd.R_alloc | apply Kd.R_drewN | apply Kd.R_drew)); exact HO_7.out)) k_ hk, Kd.fresh' (Kd.R_lt (by (with_reducible repeat (first | apply Kd.R_alloc | apply Kd.R_drewN | apply Kd.R_drew)); exact HO_10.out)) k_ hk⟩)); (case aO => exact (by (with_reducible repeat (first | apply Kd.R_alloc | apply Kd.R_drewN | apply Kd.R_drew)); exact HO284.out)); (case aS => exact (below_size (by repeat (first | (with_reducible first | exact HB.out | apply below_alloc | apply pw_below_drewN | apply below_drew1) | exact HB.out)))); (case aL => have := LMc30.out; omega); intro v286 w37 ho hb hg hat; rw [← Ny285.out] at ho; have n0_ := Aside0.mk (Kd.R_after (ok := (fun k_ => some k_ ≠ (.slice Ao38 t263.length co38 : Value).ownBlock ∧ some k_ ≠ (v278 : Value).ownBlock)) (by (with_reducible repeat (first | apply Kd.R_alloc | apply Kd.R_drewN | apply Kd.R_drew)); exact HO_5.out) hg hat); have n1_ := Aside0.mk (Kd.R_after (ok := (fun k_ => some k_ ≠ (.slice Ao36 t259.length co36 : Value).ownBlock ∧ some k_ ≠ (v278 : Value).ownBlock)) (by (with_reducible repeat (first | apply Kd.R_alloc | apply Kd.R_drewN | apply Kd.R_drew)); exact HO_7.out) hg hat); have n2_ := Aside0.mk (Kd.R_after (ok := (fun k_ => some k_ ≠ (.slice Ao36 t259.length co36 : Value).ownBlock ∧ some k_ ≠ (.slice Ao38 t263.length co38 : Value).ownBlock)) (by (with_reducible repeat (first | apply Kd.R_alloc | apply Kd.R_drewN | apply Kd.R_drew)); exact HO_10.out) hg hat); have n3_ := Aside0.mk (hb); have n4_ := Aside0.mk (ho); clear HO_5; clear HO_7; clear HO_10; clear HB; clear HO284; have HO_5 := n0_; have HO_7 := n1_; have HO_10 := n2_; have HB := n3_; have HO287 := n4_; clear n0_ n1_ n2_ n3_ n4_; clear ho hb hg hat) | ((with_reducible refine gate_callee (f := 7) rfl ?_); refine goesL_ (some 70) rfl rfl Tryd.func7 (by kernel_rfl) rfl #[] rfl (by (try simp only [List.map_toArray, List.map_cons, List.map_nil]); first | done | rfl | (simp only [List.length_drop, List.length_take]; rfl)) ?_; (with_reducible refine (cleatlaw11_given.calls kj23  true _ A31.out ?tabs).mono ?_); (case tabs => (first | exact HT | (refine tabs_of HT ?_; repeat (first | (with_reducible first | exact Below.refl _ _ | exact (Aside0.out (by assumption)) | exact (Drawn0.below (by assumption)) | apply below_alloc | apply pw_below_drewN | apply below_drew1 | assumption) | exact HB.out)))); rintro e w39 ⟨rfl, hb⟩; refine ⟨_, rfl, ?_⟩; have n0_ := Aside0.mk (Kd.R_below (by (with_reducible repeat (first | apply Kd.R_alloc | apply Kd.R_drewN | apply Kd.R_drew)); exact HO_5.out) hb); have n1_ := Aside0.mk (Kd.R_below (by (with_reducible repeat (first | apply Kd.R_alloc | apply Kd.R_drewN | apply Kd.R_drew)); exact HO_7.out) hb); have n2_ := Aside0.mk (Kd.R_below (by (with_reducible repeat (first | apply Kd.R_alloc | apply Kd.R_drewN | apply Kd.R_drew)); exact HO_10.out) hb); have n3_ := Aside0.mk (Kd.R_below (by (with_reducible repeat (first | apply Kd.R_alloc | apply Kd.R_drewN | apply Kd.R_drew)); exact HO287.out) hb); have n4_ := Aside0.mk (below_step (by repeat (first | (with_reducible first | exact HB.out | apply below_alloc | apply pw_below_drewN | apply below_drew1) | exact HB.out)) hb); clear HO_5; clear HO_7; clear HO_10; clear HO287; clear HB; have HO_5 := n0_; have HO_7 := n1_; have HO_10 := n2_; have HO287 := n3_; have HB := n4_; clear n0_ n1_ n2_ n3_ n4_; (try clear hb); (try clear hb2); (try clear hk); (try clear hi); obtain ⟨Ao40, co40, eo40⟩ := Kd.R_slice HO_10.out; subst eo40; obtain ⟨Ao41, co41, eo41⟩ := Kd.R_slice HO287.out; subst eo41) | (go_at_call 8; (with_reducible refine (cleatref11_Same.calls kj23 _ _ t276 _ _ y285 t289 _ ?side1 ?side2 ?side3 ?side4 A34.out).mono ?_); (case side1 => repeat (first | exact (Kd.R_reads' HO_10.out).2.2 | (with_reducible refine Kd.C_alloc ?_ _) | (with_reducible refine Kd.C_drewN ?_ _) | (with_reducible refine Kd.C_drew ?_))); (case side2 => exact (Kd.R_reads' HO_10.out).2.1); (case side3 => repeat (first | exact (Kd.R_reads' HO287.out).2.2 | (with_reducible refine Kd.C_alloc ?_ _) | (with_reducible refine Kd.C_drewN ?_ _) | (with_reducible refine Kd.C_drew ?_))); (case side4 => exact (Kd.R_reads' HO287.out).2.1); rintro e w' ⟨rfl, ⟨nd, rfl⟩⟩))
               go_ret
               exact ⟨by first | rfl | (simp [errW_none, errW_some] <;> rfl) | (simp [*, errW_none, errW_some] <;> rfl), by repeat (first | (with_reducible first | exact HB.out | apply below_alloc | apply pw_below_drewN | apply below_drew1) | exact HB.out)⟩
              ·rw [if_neg c33] at H
               have c33b0 : (t277 == 0) = false := beq_eq_false_iff_ne.mpr c33
               have c33b1 : (t277 != 0) = true := bne_iff_ne.mpr c33
               obtain rfl := Option.some.inj H
               obtain ⟨Ao43, co43, eo43⟩ := Kd.R_slice HO_5.out
               subst eo43
               go_wp2_with (first | ((with_reducible refine gate_builtin (b := .append) (xs := #[.tmp 64, .tmp 65]) rfl ?_); (try (refine gate_guard (by rfl) ?_; dsimp only)); at_builtin; refine Kd.R_append_rows k44 (w0 := w) w.heap.size rfl (.tmp 64) (.tmp 65) 23 44 (.agg #[(.int .i64 0), (.int .i64 0), (.bool false), (.bool false), (.int .u64 0), (.string ⟨#[]⟩), (.int .i64 0)]) 56 rfl Tryd.underlying23 info44 rfl (by decide) (by omega) (.slice none 0 0) ([] : List (S44)) t259 _ _ _ (fun k_ => some k_ ≠ (.slice Ao43 t259.length co43 : Value).ownBlock ∧ some k_ ≠ (v265 : Value).ownBlock ∧ some k_ ≠ (v278 : Value).ownBlock) (fun _ => False) rfl rfl ?aO ?aR (fun _ _ h => h) (fun _ h => h.elim) ?aF ?aB ?aS ?aL ?_; (case aR => repeat (first | exact (Kd.R_reads' HO_5.out).2.2 | (with_reducible refine Kd.C_alloc ?_ _) | (with_reducible refine Kd.C_drewN ?_ _) | (with_reducible refine Kd.C_drew ?_))); (case aB => exact (by repeat (first | (with_reducible first | exact HB.out | apply below_alloc | apply pw_below_drewN | apply below_drew1) | exact HB.out))); (case aF => exact (fun k_ hk => ⟨Kd.fresh' (Kd.R_lt (by (with_reducible repeat (first | apply Kd.R_alloc | apply Kd.R_drewN | apply Kd.R_drew)); exact HO_5.out)) k_ hk, Kd.fresh' (Kd.R_lt (by (with_reducible repeat (first | apply Kd.R_alloc | apply Kd.R_drewN | apply Kd.R_drew)); exact HO_7.out)) k_ hk, Kd.fresh' (Kd.R_lt (by (with_reducible repeat (first | apply Kd.R_alloc | apply Kd.R_drewN | apply Kd.R_drew)); exact HO_10.out)) k_ hk⟩)); (case aO => exact ((Kd.R_nil _ _ _ _ (fun k_ => some k_ ≠ (.slice Ao43 t259.length co43 : Value).ownBlock ∧ some k_ ≠ (v265 : Value).ownBlock ∧ some k_ ≠ (v278 : Value).ownBlock)))); (case aS => exact (below_size (by repeat (first | (with_reducible first | exact HB.out | apply below_alloc | apply pw_below_drewN | apply below_drew1) | exact HB.out)))); (case aL => have := LMc29.out; omega); intro v283 w42 ho hb hg hat; rw [← Ny282.out] at ho; have n0_ := Aside0.mk (Kd.R_after (Kd.R_apart_nil (by (with_reducible repeat (first | apply Kd.R_alloc | apply Kd.R_drewN | apply Kd.R_drew)); exact HO_5.out)) hg hat); have n1_ := Aside0.mk (Kd.R_after (Kd.R_apart_nil (by (with_reducible repeat (first | apply Kd.R_alloc | apply Kd.R_drewN | apply Kd.R_drew)); exact HO_7.out)) hg hat); have n2_ := Aside0.mk (Kd.R_after (Kd.R_apart_nil (by (with_reducible repeat (first | apply Kd.R_alloc | apply Kd.R_drewN | apply Kd.R_drew)); exact HO_10.out)) hg hat); have n3_ := Aside0.mk (hb); have n4_ := Aside0.mk (ho); clear HO_5; clear HO_7; clear HO_10; clear HB; have HO_5 := n0_; have HO_7 := n1_; have HO_10 := n2_; have HB := n3_; have HO284 := n4_; clear n0_ n1_ n2_ n3_ n4_; clear ho hb hg hat; obtain ⟨Ao45, co45, eo45⟩ := Kd.R_slice HO_7.out; subst eo45) | ((with_reducible refine gate_builtin (b := .append) (xs := #[.tmp 67, .tmp 68]) rfl ?_); (try (refine gate_guard (by rfl) ?_; dsimp only)); at_builtin; refine Kd.R_append_rows k44 (w0 := w) w.heap.size rfl (.tmp 67) (.tmp 68) 23 44 (.agg #[(.int .i64 0), (.int .i64 0), (.bool false), (.bool false), (.int .u64 0), (.string ⟨#[]⟩), (.int .i64 0)]) 56 rfl Tryd.underlying23 info44 rfl (by decide) (by omega) v283 y282 t263 _ _ _ (fun k_ => some k_ ≠ (.slice Ao43 t259.length co43 : Value).ownBlock ∧ some k_ ≠ (.slice Ao45 t263.length co45 : Value).ownBlock ∧ some k_ ≠ (v278 : Value).ownBlock) (fun _ => False) rfl rfl ?aO ?aR (fun _ _ h => h) (fun _ h => h.elim) ?aF ?aB ?aS ?aL ?_; (case aR => repeat (first | exact (Kd.R_reads' HO_7.out).2.2 | (with_reducible refine Kd.C_alloc ?_ _) | (with_reducible refine Kd.C_drewN ?_ _) | (with_reducible refine Kd.C_drew ?_))); (case aB => exact (by repeat (first | (with_reducible first | exact HB.out | apply below_alloc | apply pw_below_drewN | apply below_drew1) | exact HB.out))); (case aF => exact (fun k_ hk => ⟨Kd.fresh' (Kd.R_lt (by (with_reducible repeat (first | apply Kd.R_alloc | apply Kd.R_drewN | apply Kd.R_drew)); exact HO_5.out)) k_ hk, Kd.fresh' (Kd.R_lt (by (with_reducible repeat (first | apply Kd.R_alloc | apply Kd.R_drewN | apply Kd.R_drew)); exact HO_7.out)) k_ hk, Kd.fresh' (Kd.R_lt (by (with_reducible repeat (first | apply Kd.R_alloc | apply Kd.R_drewN | apply Kd.R_drew)); exact HO_10.out)) k_ hk⟩)); (case aO => exact (by (with_reducible repeat (first | apply Kd.R_alloc | apply Kd.R_drewN | apply Kd.R_drew)); exact HO284.out)); (case aS => exact (below_size (by repeat (first | (with_reducible first | exact HB.out | apply below_alloc | apply pw_below_drewN | apply below_drew1) | exact HB.out)))); (case aL => have := LMc30.out; omega); intro v286 w44 ho hb hg hat; rw [← Ny285.out] at ho; have n0_ := Aside0.mk (Kd.R_after (ok := (fun k_ => some k_ ≠ (.slice Ao45 t263.length co45 : Value).ownBlock ∧ some k_ ≠ (v278 : Value).ownBlock)) (by (with_reducible repeat (first | apply Kd.R_alloc | apply Kd.R_drewN | apply Kd.R_drew)); exact HO_5.out) hg hat); have n1_ := Aside0.mk (Kd.R_after (ok := (fun k_ => some k_ ≠ (.slice Ao43 t259.length co43 : Value).ownBlock ∧ some k_ ≠ (v278 : Value).ownBlock)) (by (with_reducible repeat (first | apply Kd.R_alloc | apply Kd.R_drewN | apply Kd.R_drew)); exact HO_7.out) hg hat); have n2_ := Aside0.mk (Kd.R_after (ok := (fun k_ => some k_ ≠ (.slice Ao43 t259.length co43 : Value).ownBlock ∧ some k_ ≠ (.slice Ao45 t263.length co45 : Value).ownBlock)) (by (with_reducible repeat (first | apply Kd.R_alloc | apply Kd.R_drewN | apply Kd.R_drew)); exact HO_10.out) hg hat); have n3_ := Aside0.mk (hb); have n4_ := Aside0.mk (ho); clear HO_5; clear HO_7; clear HO_10; clear HB; clear HO284; have HO_5 := n0_; have HO_7 := n1_; have HO_10 := n2_; have HB := n3_; have HO287 := n4_; clear n0_ n1_ n2_ n3_ n4_; clear ho hb hg hat) | ((with_reducible refine gate_callee (f := 7) rfl ?_); refine goesL_ (some 70) rfl rfl Tryd.func7 (by kernel_rfl) rfl #[] rfl (by (try simp only [List.map_toArray, List.map_cons, List.map_nil]); first | done | rfl | (simp only [List.length_drop, List.length_take]; rfl)) ?_; (with_reducible refine (cleatlaw11_given.calls kj23  true _ A31.out ?tabs).mono ?_); (case tabs => (first | exact HT | (refine tabs_of HT ?_; repeat (first | (with_reducible first | exact Below.refl _ _ | exact (Aside0.out (by assumption)) | exact (Drawn0.below (by assumption)) | apply below_alloc | apply pw_below_drewN | apply below_drew1 | assumption) | exact HB.out)))); rintro e w46 ⟨rfl, hb⟩; refine ⟨_, rfl, ?_⟩; have n0_ := Aside0.mk (Kd.R_below (by (with_reducible repeat (first | apply Kd.R_alloc | apply Kd.R_drewN | apply Kd.R_drew)); exact HO_5.out) hb); have n1_ := Aside0.mk (Kd.R_below (by (with_reducible repeat (first | apply Kd.R_alloc | apply Kd.R_drewN | apply Kd.R_drew)); exact HO_7.out) hb); have n2_ := Aside0.mk (Kd.R_below (by (with_reducible repeat (first | apply Kd.R_alloc | apply Kd.R_drewN | apply Kd.R_drew)); exact HO_10.out) hb); have n3_ := Aside0.mk (Kd.R_below (by (with_reducible repeat (first | apply Kd.R_alloc | apply Kd.R_drewN | apply Kd.R_drew)); exact HO287.out) hb); have n4_ := Aside0.mk (below_step (by repeat (first | (with_reducible first | exact HB.out | apply below_alloc | apply pw_below_drewN | apply below_drew1) | exact HB.out)) hb); clear HO_5; clear HO_7; clear HO_10; clear HO287; clear HB; have HO_5 := n0_; have HO_7 := n1_; have HO_10 := n2_; have HO287 := n3_; have HB := n4_; clear n0_ n1_ n2_ n3_ n4_; (try clear hb); (try clear hb2); (try clear hk); (try clear hi)))
               go_ret
               exact ⟨by first | rfl | (simp [errW_none, errW_some] <;> rfl) | (simp [*, errW_none, errW_some] <;> rfl), by repeat (first | (with_reducible first | exact HB.out | apply below_alloc | apply pw_below_drewN | apply below_drew1) | exact HB.out)⟩
             ·replace c32 := Bool.eq_false_iff.mpr c32
              subst c32
              rw [if_neg (show ¬ (false = true) by decide)] at H
              obtain rfl := Option.some.inj H
              obtain ⟨Ao48, co48, eo48⟩ := Kd.R_slice HO_5.out
              subst eo48
              go_wp2_with (first | ((with_reducible refine gate_builtin (b := .append) (xs := #[.tmp 64, .tmp 65]) rfl ?_); (try (refine gate_guard (by rfl) ?_; dsimp only)); at_builtin; refine Kd.R_append_rows k44 (w0 := w) w.heap.size rfl (.tmp 64) (.tmp 65) 23 44 (.agg #[(.int .i64 0), (.int .i64 0), (.bool false), (.bool false), (.int .u64 0), (.string ⟨#[]⟩), (.int .i64 0)]) 56 rfl Tryd.underlying23 info44 rfl (by decide) (by omega) (.slice none 0 0) ([] : List (S44)) t259 _ _ _ (fun k_ => some k_ ≠ (.slice Ao48 t259.length co48 : Value).ownBlock ∧ some k_ ≠ (v265 : Value).ownBlock ∧ some k_ ≠ (v278 : Value).ownBlock) (fun _ => False) rfl rfl ?aO ?aR (fun _ _ h => h) (fun _ h => h.elim) ?aF ?aB ?aS ?aL ?_; (case aR => repeat (first | exact (Kd.R_reads' HO_5.out).2.2 | (with_reducible refine Kd.C_alloc ?_ _) | (with_reducible refine Kd.C_drewN ?_ _) | (with_reducible refine Kd.C_drew ?_))); (case aB => exact (by repeat (first | (with_reducible first | exact HB.out | apply below_alloc | apply pw_below_drewN | apply below_drew1) | exact HB.out))); (case aF => exact (fun k_ hk => ⟨Kd.fresh' (Kd.R_lt (by (with_reducible repeat (first | apply Kd.R_alloc | apply Kd.R_drewN | apply Kd.R_drew)); exact HO_5.out)) k_ hk, Kd.fresh' (Kd.R_lt (by (with_reducible repeat (first | apply Kd.R_alloc | apply Kd.R_drewN | apply Kd.R_drew)); exact HO_7.out)) k_ hk, Kd.fresh' (Kd.R_lt (by (with_reducible repeat (first | apply Kd.R_alloc | apply Kd.R_drewN | apply Kd.R_drew)); exact HO_10.out)) k_ hk⟩)); (case aO => exact ((Kd.R_nil _ _ _ _ (fun k_ => some k_ ≠ (.slice Ao48 t259.length co48 : Value).ownBlock ∧ some k_ ≠ (v265 : Value).ownBlock ∧ some k_ ≠ (v278 : Value).ownBlock)))); (case aS => exact (below_size (by repeat (first | (with_reducible first | exact HB.out | apply below_alloc | apply pw_below_drewN | apply below_drew1) | exact HB.out)))); (case aL => have := LMc29.out; omega); intro v283 w47 ho hb hg hat; rw [← Ny282.out] at ho; have n0_ := Aside0.mk (Kd.R_after (Kd.R_apart_nil (by (with_reducible repeat (first | apply Kd.R_alloc | apply Kd.R_drewN | apply Kd.R_drew)); exact HO_5.out)) hg hat); have n1_ := Aside0.mk (Kd.R_after (Kd.R_apart_nil (by (with_reducible repeat (first | apply Kd.R_alloc | apply Kd.R_drewN | apply Kd.R_drew)); exact HO_7.out)) hg hat); have n2_ := Aside0.mk (Kd.R_after (Kd.R_apart_nil (by (with_reducible repeat (first | apply Kd.R_alloc | apply Kd.R_drewN | apply Kd.R_drew)); exact HO_10.out)) hg hat); have n3_ := Aside0.mk (hb); have n4_ := Aside0.mk (ho); clear HO_5; clear HO_7; clear HO_10; clear HB; have HO_5 := n0_; have HO_7 := n1_; have HO_10 := n2_; have HB := n3_; have HO284 := n4_; clear n0_ n1_ n2_ n3_ n4_; clear ho hb hg hat; obtain ⟨Ao50, co50, eo50⟩ := Kd.R_slice HO_7.out; subst eo50) | ((with_reducible refine gate_builtin (b := .append) (xs := #[.tmp 67, .tmp 68]) rfl ?_); (try (refine gate_guard (by rfl) ?_; dsimp only)); at_builtin; refine Kd.R_append_rows k44 (w0 := w) w.heap.size rfl (.tmp 67) (.tmp 68) 23 44 (.agg #[(.int .i64 0), (.int .i64 0), (.bool false), (.bool false), (.int .u64 0), (.string ⟨#[]⟩), (.int .i64 0)]) 56 rfl Tryd.underlying23 info44 rfl (by decide) (by omega) v283 y282 t263 _ _ _ (fun k_ => some k_ ≠ (.slice Ao48 t259.length co48 : Value).ownBlock ∧ some k_ ≠ (.slice Ao50 t263.length co50 : Value).ownBlock ∧ some k_ ≠ (v278 : Value).ownBlock) (fun _ => False) rfl rfl ?aO ?aR (fun _ _ h => h) (fun _ h => h.elim) ?aF ?aB ?aS ?aL ?_; (case aR => repeat (first | exact (Kd.R_reads' HO_7.out).2.2 | (with_reducible refine Kd.C_alloc ?_ _) | (with_reducible refine Kd.C_drewN ?_ _) | (with_reducible refine Kd.C_drew ?_))); (case aB => exact (by repeat (first | (with_reducible first | exact HB.out | apply below_alloc | apply pw_below_drewN | apply below_drew1) | exact HB.out))); (case aF => exact (fun k_ hk => ⟨Kd.fresh' (Kd.R_lt (by (with_reducible repeat (first | apply Kd.R_alloc | apply Kd.R_drewN | apply Kd.R_drew)); exact HO_5.out)) k_ hk, Kd.fresh' (Kd.R_lt (by (with_reducible repeat (first | apply Kd.R_alloc | apply Kd.R_drewN | apply Kd.R_drew)); exact HO_7.out)) k_ hk, Kd.fresh' (Kd.R_lt (by (with_reducible repeat (first | apply Kd.R_alloc | apply Kd.R_drewN | apply Kd.R_drew)); exact HO_10.out)) k_ hk⟩)); (case aO => exact (by (with_reducible repeat (first | apply Kd.R_alloc | apply Kd.R_drewN | apply Kd.R_drew)); exact HO284.out)); (case aS => exact (below_size (by repeat (first | (with_reducible first | exact HB.out | apply below_alloc | apply pw_below_drewN | apply below_drew1) | exact HB.out)))); (case aL => have := LMc30.out; omega); intro v286 w49 ho hb hg hat; rw [← Ny285.out] at ho; have n0_ := Aside0.mk (Kd.R_after (ok := (fun k_ => some k_ ≠ (.slice Ao50 t263.length co50 : Value).ownBlock ∧ some k_ ≠ (v278 : Value).ownBlock)) (by (with_reducible repeat (first | apply Kd.R_alloc | apply Kd.R_drewN | apply Kd.R_drew)); exact HO_5.out) hg hat); have n1_ := Aside0.mk (Kd.R_after (ok := (fun k_ => some k_ ≠ (.slice Ao48 t259.length co48 : Value).ownBlock ∧ some k_ ≠ (v278 : Value).ownBlock)) (by (with_reducible repeat (first | apply Kd.R_alloc | apply Kd.R_drewN | apply Kd.R_drew)); exact HO_7.out) hg hat); have n2_ := Aside0.mk (Kd.R_after (ok := (fun k_ => some k_ ≠ (.slice Ao48 t259.length co48 : Value).ownBlock ∧ some k_ ≠ (.slice Ao50 t263.length co50 : Value).ownBlock)) (by (with_reducible repeat (first | apply Kd.R_alloc | apply Kd.R_drewN | apply Kd.R_drew)); exact HO_10.out) hg hat); have n3_ := Aside0.mk (hb); have n4_ := Aside0.mk (ho); clear HO_5; clear HO_7; clear HO_10; clear HB; clear HO284; have HO_5 := n0_; have HO_7 := n1_; have HO_10 := n2_; have HB := n3_; have HO287 := n4_; clear n0_ n1_ n2_ n3_ n4_; clear ho hb hg hat) | ((with_reducible refine gate_callee (f := 7) rfl ?_); refine goesL_ (some 70) rfl rfl Tryd.func7 (by kernel_rfl) rfl #[] rfl (by (try simp only [List.map_toArray, List.map_cons, List.map_nil]); first | done | rfl | (simp only [List.length_drop, List.length_take]; rfl)) ?_; (with_reducible refine (cleatlaw11_given.calls kj23  false _ A31.out ?tabs).mono ?_); (case tabs => (first | exact HT | (refine tabs_of HT ?_; repeat (first | (with_reducible first | exact Below.refl _ _ | exact (Aside0.out (by assumption)) | exact (Drawn0.below (by assumption)) | apply below_alloc | apply pw_below_drewN | apply below_drew1 | assumption) | exact HB.out)))); rintro e w51 ⟨rfl, hb⟩; refine ⟨_, rfl, ?_⟩; have n0_ := Aside0.mk (Kd.R_below (by (with_reducible repeat (first | apply Kd.R_alloc | apply Kd.R_drewN | apply Kd.R_drew)); exact HO_5.out) hb); have n1_ := Aside0.mk (Kd.R_below (by (with_reducible repeat (first | apply Kd.R_alloc | apply Kd.R_drewN | apply Kd.R_drew)); exact HO_7.out) hb); have n2_ := Aside0.mk (Kd.R_below (by (with_reducible repeat (first | apply Kd.R_alloc | apply Kd.R_drewN | apply Kd.R_drew)); exact HO_10.out) hb); have n3_ := Aside0.mk (Kd.R_below (by (with_reducible repeat (first | apply Kd.R_alloc | apply Kd.R_drewN | apply Kd.R_drew)); exact HO287.out) hb); have n4_ := Aside0.mk (below_step (by repeat (first | (with_reducible first | exact HB.out | apply below_alloc | apply pw_below_drewN | apply below_drew1) | exact HB.out)) hb); clear HO_5; clear HO_7; clear HO_10; clear HO287; clear HB; have HO_5 := n0_; have HO_7 := n1_; have HO_10 := n2_; have HO287 := n3_; have HB := n4_; clear n0_ n1_ n2_ n3_ n4_; (try clear hb); (try clear hb2); (try clear hk); (try clear hi)))
              go_ret
              exact ⟨by first | rfl | (simp [errW_none, errW_some] <;> rfl) | (simp [*, errW_none, errW_some] <;> rfl), by repeat (first | (with_reducible first | exact HB.out | apply below_alloc | apply pw_below_drewN | apply below_drew1) | exact HB.out)⟩
            ·rw [if_neg c30] at H
             exact absurd H (by simp)
           ·rw [if_neg c29] at H
            exact absurd H (by simp)
    ·rw [if_neg c8] at H
     exact absurd H (by simp)
   ·rw [if_neg c7] at H
    exact absurd H (by simp)
  ·rw [if_neg c6] at H
   exact absurd H (by simp)

end Go.Proofs.YtpndeninbokjoaaDoor.P
