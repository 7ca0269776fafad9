-- printed by wip/tools/myprint.py out of the translation. Not trusted: Lean checks it.
import Derived.Test.YtgonbeifaioheaaDoorPx0
import Derived.Test.YtgonbeifaioheaaDoorPx5
import Derived.Test.YtgonbeifaioheaaDoorPx6
import Derived.Test.YtgonbeifaioheaaDoorPx7
import Derived.Test.YtgonbeifaioheaaDoorPx8
namespace Go.Proofs.YtgonbeifaioheaaDoor.P
open Go.RowKit Go.Proofs.YtgonbeifaioheaaDoorW.PrintWords Go.Proofs.YtgonbeifaioheaaDoorW.PrintLast Go.Proofs.YtgonbeifaioheaaDoorW.PrintMore
attribute [local go_sem] max2_int min2_int max_two min_two max_three min_three max_four min_four   -- for this text's walks alone
set_option linter.unusedVariables false
set_option linter.unusedSimpArgs false

/-! ### cleatref04_Is: function 13 -/
mutual
def cleatref04_Is.j0 : Nat → Int → Bool → Int → Int → Int → Int → Int → Int → Int → Int → Int → Int → Option (Bool)
 | 0, _, _, _, _, _, _, _, _, _, _, _, _ => none
 | k + 1, x3, x39, x199000, x199001, x199002, x199003, x199004, x199005, x199006, x199007, x199008, x199009 => if x39 = true then (some false) else (if x199007 = 0 then (cleatref04_Is.j1 k x3 true x199000 x199001 x199002 x199003 x199004 x199005 x199006 x199007 x199008 x199009) else (if x3 = 4 then (if x199007 ≥ 0 then (if x199007 ≤ 2 then (cleatref04_Is.j1 k x3 true x199000 x199001 x199002 x199003 x199004 x199005 x199006 x199007 x199008 x199009) else (if x3 = 5 then (cleatref04_Is.j1 k x3 (decide (x199007 ≤ 3)) x199000 x199001 x199002 x199003 x199004 x199005 x199006 x199007 x199008 x199009) else (cleatref04_Is.j1 k x3 false x199000 x199001 x199002 x199003 x199004 x199005 x199006 x199007 x199008 x199009))) else (if x3 = 5 then (cleatref04_Is.j1 k x3 false x199000 x199001 x199002 x199003 x199004 x199005 x199006 x199007 x199008 x199009) else (cleatref04_Is.j1 k x3 false x199000 x199001 x199002 x199003 x199004 x199005 x199006 x199007 x199008 x199009))) else (if x3 = 5 then (if x199007 ≥ 0 then (cleatref04_Is.j1 k x3 (decide (x199007 ≤ 3)) x199000 x199001 x199002 x199003 x199004 x199005 x199006 x199007 x199008 x199009) else (cleatref04_Is.j1 k x3 false x199000 x199001 x199002 x199003 x199004 x199005 x199006 x199007 x199008 x199009)) else (cleatref04_Is.j1 k x3 false x199000 x199001 x199002 x199003 x199004 x199005 x199006 x199007 x199008 x199009))))
def cleatref04_Is.j1 : Nat → Int → Bool → Int → Int → Int → Int → Int → Int → Int → Int → Int → Int → Option (Bool)
 | 0, _, _, _, _, _, _, _, _, _, _, _, _ => none
 | k + 1, x3, x4, x199000, x199001, x199002, x199003, x199004, x199005, x199006, x199007, x199008, x199009 => if x199009 = 0 then (if x3 = 3 then ((cleatref02_Is.f k x199006).bind fun t204 => (if t204 = true then ((cleatref04_imm.f k x3 x199005).bind fun t205 => (if t205 = true then ((cleatref04_amount.f x3 x199008).bind fun t206 => (if t206 = true then (if x4 = true then (some true) else (some false)) else (some false))) else (some false))) else ((cleatref04_imm.f k x3 x199005).bind fun t207 => (if t207 = true then ((cleatref04_amount.f x3 x199008).bind fun t208 => (if t208 = true then (if x4 = true then (some false) else (some false)) else (some false))) else (some false))))) else ((cleatref04_imm.f k x3 x199005).bind fun t209 => (if t209 = true then ((cleatref04_amount.f x3 x199008).bind fun t210 => (if t210 = true then (if x4 = true then (some (x199006 == 0)) else (some false)) else (some false))) else (some false)))) else ((cleatref04_Has.f k x3 (⟨#[99]⟩ : ByteArray)).bind fun t211 => (if t211 = true then (if x199009 ≥ 0 then (if x3 = 3 then ((cleatref02_Is.f k x199006).bind fun t212 => (if t212 = true then ((cleatref04_imm.f k x3 x199005).bind fun t213 => (if t213 = true then ((cleatref04_amount.f x3 x199008).bind fun t214 => (if t214 = true then (if x4 = true then (if x199009 ≤ 13 then (some true) else (some false)) else (some false)) else (some false))) else (some false))) else ((cleatref04_imm.f k x3 x199005).bind fun t215 => (if t215 = true then ((cleatref04_amount.f x3 x199008).bind fun t216 => (if t216 = true then (if x4 = true then (if x199009 ≤ 13 then (some false) else (some false)) else (some false)) else (some false))) else (some false))))) else ((cleatref04_imm.f k x3 x199005).bind fun t217 => (if t217 = true then ((cleatref04_amount.f x3 x199008).bind fun t218 => (if t218 = true then (if x4 = true then (if x199009 ≤ 13 then (some (x199006 == 0)) else (some false)) else (some false)) else (some false))) else (some false)))) else (if x3 = 3 then ((cleatref02_Is.f k x199006).bind fun t219 => (if t219 = true then ((cleatref04_imm.f k x3 x199005).bind fun t220 => (if t220 = true then ((cleatref04_amount.f x3 x199008).bind fun t221 => (if t221 = true then (if x4 = true then (some false) else (some false)) else (some false))) else (some false))) else ((cleatref04_imm.f k x3 x199005).bind fun t222 => (if t222 = true then ((cleatref04_amount.f x3 x199008).bind fun t223 => (if t223 = true then (if x4 = true then (some false) else (some false)) else (some false))) else (some false))))) else ((cleatref04_imm.f k x3 x199005).bind fun t224 => (if t224 = true then ((cleatref04_amount.f x3 x199008).bind fun t225 => (if t225 = true then (if x4 = true then (some false) else (some false)) else (some false))) else (some false))))) else (if x3 = 3 then ((cleatref02_Is.f k x199006).bind fun t226 => (if t226 = true then ((cleatref04_imm.f k x3 x199005).bind fun t227 => (if t227 = true then ((cleatref04_amount.f x3 x199008).bind fun t228 => (if t228 = true then (if x4 = true then (some false) else (some false)) else (some false))) else (some false))) else ((cleatref04_imm.f k x3 x199005).bind fun t229 => (if t229 = true then ((cleatref04_amount.f x3 x199008).bind fun t230 => (if t230 = true then (if x4 = true then (some false) else (some false)) else (some false))) else (some false))))) else ((cleatref04_imm.f k x3 x199005).bind fun t231 => (if t231 = true then ((cleatref04_amount.f x3 x199008).bind fun t232 => (if t232 = true then (if x4 = true then (some false) else (some false)) else (some false))) else (some false))))))
end
def cleatref04_Is.f (k : Nat) (a0_0 : Int) (a0_1 : Int) (a0_2 : Int) (a0_3 : Int) (a0_4 : Int) (a0_5 : Int) (a0_6 : Int) (a0_7 : Int) (a0_8 : Int) (a0_9 : Int) : Option (Bool) := (cleatref04_Shape.f a0_0).bind fun t199 => (if t199 = 0 then (cleatref04_Is.j0 k t199 true a0_0 a0_1 a0_2 a0_3 a0_4 a0_5 a0_6 a0_7 a0_8 a0_9) else ((cleatref04_reg.f k t199 (⟨#[100]⟩ : ByteArray) a0_1).bind fun t200 => (if t200 = true then ((cleatref04_reg.f k t199 (⟨#[110]⟩ : ByteArray) a0_2).bind fun t201 => (if t201 = true then ((cleatref04_reg.f k t199 (⟨#[109]⟩ : ByteArray) a0_3).bind fun t202 => (if t202 = true then ((cleatref04_reg.f k t199 (⟨#[97]⟩ : ByteArray) a0_4).bind fun t203 => (cleatref04_Is.j0 k t199 (!t203) a0_0 a0_1 a0_2 a0_3 a0_4 a0_5 a0_6 a0_7 a0_8 a0_9)) else (cleatref04_Is.j0 k t199 true a0_0 a0_1 a0_2 a0_3 a0_4 a0_5 a0_6 a0_7 a0_8 a0_9))) else (cleatref04_Is.j0 k t199 true a0_0 a0_1 a0_2 a0_3 a0_4 a0_5 a0_6 a0_7 a0_8 a0_9))) else (cleatref04_Is.j0 k t199 true a0_0 a0_1 a0_2 a0_3 a0_4 a0_5 a0_6 a0_7 a0_8 a0_9))))
theorem cleatref04_Is.mono_l : ∀ k, (∀ y0 y1 y2 y3 y4 y5 y6 y7 y8 y9 y10 y11, LeO (cleatref04_Is.j0 k y0 y1 y2 y3 y4 y5 y6 y7 y8 y9 y10 y11) (cleatref04_Is.j0 (k + 1) y0 y1 y2 y3 y4 y5 y6 y7 y8 y9 y10 y11)) ∧ (∀ y0 y1 y2 y3 y4 y5 y6 y7 y8 y9 y10 y11, LeO (cleatref04_Is.j1 k y0 y1 y2 y3 y4 y5 y6 y7 y8 y9 y10 y11) (cleatref04_Is.j1 (k + 1) y0 y1 y2 y3 y4 y5 y6 y7 y8 y9 y10 y11))
 | 0 => ⟨fun _ _ _ _ _ _ _ _ _ _ _ _ r h => by simp [cleatref04_Is.j0] at h, fun _ _ _ _ _ _ _ _ _ _ _ _ r h => by simp [cleatref04_Is.j1] at h⟩
 | k + 1 => by
  obtain ⟨ih0, ih1⟩ := cleatref04_Is.mono_l k
  refine ⟨?_, ?_⟩
  ·intro y0 y1 y2 y3 y4 y5 y6 y7 y8 y9 y10 y11
   unfold cleatref04_Is.j0
   repeat' first
   | (with_reducible exact ih0 _ _ _ _ _ _ _ _ _ _ _ _)
   | (with_reducible exact ih1 _ _ _ _ _ _ _ _ _ _ _ _)
   | (with_reducible exact cleatref02_Is.mono _ _)
   | (with_reducible exact cleatref04_Has.mono _ _ _)
   | (with_reducible exact cleatref04_imm.mono _ _ _)
   | (with_reducible exact cleatref04_reg.mono _ _ _ _)
   | (with_reducible exact LeO.refl _)
   | (with_reducible exact LeO.none _)
   | (with_reducible refine LeO.ite ?_ ?_)
   | (with_reducible refine LeO.bind ?_ (fun _ => ?_))
   | exact ih0 _ _ _ _ _ _ _ _ _ _ _ _
   | exact ih1 _ _ _ _ _ _ _ _ _ _ _ _
   | exact cleatref02_Is.mono _ _
   | exact cleatref04_Has.mono _ _ _
   | exact cleatref04_imm.mono _ _ _
   | exact cleatref04_reg.mono _ _ _ _
   | exact LeO.none _
   | refine LeO.ite ?_ ?_
   | refine LeO.bind ?_ (fun _ => ?_)
  ·intro y0 y1 y2 y3 y4 y5 y6 y7 y8 y9 y10 y11
   unfold cleatref04_Is.j1
   repeat' first
   | (with_reducible exact ih0 _ _ _ _ _ _ _ _ _ _ _ _)
   | (with_reducible exact ih1 _ _ _ _ _ _ _ _ _ _ _ _)
   | (with_reducible exact cleatref02_Is.mono _ _)
   | (with_reducible exact cleatref04_Has.mono _ _ _)
   | (with_reducible exact cleatref04_imm.mono _ _ _)
   | (with_reducible exact cleatref04_reg.mono _ _ _ _)
   | (with_reducible exact LeO.refl _)
   | (with_reducible exact LeO.none _)
   | (with_reducible refine LeO.ite ?_ ?_)
   | (with_reducible refine LeO.bind ?_ (fun _ => ?_))
   | exact ih0 _ _ _ _ _ _ _ _ _ _ _ _
   | exact ih1 _ _ _ _ _ _ _ _ _ _ _ _
   | exact cleatref02_Is.mono _ _
   | exact cleatref04_Has.mono _ _ _
   | exact cleatref04_imm.mono _ _ _
   | exact cleatref04_reg.mono _ _ _ _
   | exact LeO.none _
   | refine LeO.ite ?_ ?_
   | refine LeO.bind ?_ (fun _ => ?_)
theorem cleatref04_Is.mono : ∀ a0 a1 a2 a3 a4 a5 a6 a7 a8 a9 k, LeO (cleatref04_Is.f k a0 a1 a2 a3 a4 a5 a6 a7 a8 a9) (cleatref04_Is.f (k + 1) a0 a1 a2 a3 a4 a5 a6 a7 a8 a9) := by
 intro a0 a1 a2 a3 a4 a5 a6 a7 a8 a9 k
 obtain ⟨ih0, ih1⟩ := cleatref04_Is.mono_l k
 unfold cleatref04_Is.f
 repeat' first
   | (with_reducible exact ih0 _ _ _ _ _ _ _ _ _ _ _ _)
   | (with_reducible exact ih1 _ _ _ _ _ _ _ _ _ _ _ _)
   | (with_reducible exact cleatref02_Is.mono _ _)
   | (with_reducible exact cleatref04_Has.mono _ _ _)
   | (with_reducible exact cleatref04_imm.mono _ _ _)
   | (with_reducible exact cleatref04_reg.mono _ _ _ _)
   | (with_reducible exact LeO.refl _)
   | (with_reducible exact LeO.none _)
   | (with_reducible refine LeO.ite ?_ ?_)
   | (with_reducible refine LeO.bind ?_ (fun _ => ?_))
   | exact ih0 _ _ _ _ _ _ _ _ _ _ _ _
   | exact ih1 _ _ _ _ _ _ _ _ _ _ _ _
   | exact cleatref02_Is.mono _ _
   | exact cleatref04_Has.mono _ _ _
   | exact cleatref04_imm.mono _ _ _
   | exact cleatref04_reg.mono _ _ _ _
   | exact LeO.none _
   | refine LeO.ite ?_ ?_
   | refine LeO.bind ?_ (fun _ => ?_)
set_option maxHeartbeats 8000000 in
set_option maxRecDepth 100000 in
theorem cleatref04_Is.calls (k : Nat) (a0_0 : Int) (a0_1 : Int) (a0_2 : Int) (a0_3 : Int) (a0_4 : Int) (a0_5 : Int) (a0_6 : Int) (a0_7 : Int) (a0_8 : Int) (a0_9 : Int) (r : Bool) (w : World) (h : cleatref04_Is.f k a0_0 a0_1 a0_2 a0_3 a0_4 a0_5 a0_6 a0_7 a0_8 a0_9 = some r) :
  Calls Tryd.prog 13 #[.agg #[.int .i64 a0_0, .int .i64 a0_1, .int .i64 a0_2, .int .i64 a0_3, .int .i64 a0_4, .int .i64 a0_5, .int .u64 a0_6, .int .i64 a0_7, .int .i64 a0_8, .int .i64 a0_9]] w fun e w' => e = .returned (.bool r) ∧ Below w.heap.size w w' := by
 have hu24 := Tryd.underlying24
 have HB := Aside0.mk (Below.refl w.heap.size w)
 have H : ((cleatref04_Shape.f a0_0).bind fun t199 => (if t199 = 0 then (cleatref04_Is.j0 k t199 true a0_0 a0_1 a0_2 a0_3 a0_4 a0_5 a0_6 a0_7 a0_8 a0_9) else ((cleatref04_reg.f k t199 (⟨#[100]⟩ : ByteArray) a0_1).bind fun t200 => (if t200 = true then ((cleatref04_reg.f k t199 (⟨#[110]⟩ : ByteArray) a0_2).bind fun t201 => (if t201 = true then ((cleatref04_reg.f k t199 (⟨#[109]⟩ : ByteArray) a0_3).bind fun t202 => (if t202 = true then ((cleatref04_reg.f k t199 (⟨#[97]⟩ : ByteArray) a0_4).bind fun t203 => (cleatref04_Is.j0 k t199 (!t203) a0_0 a0_1 a0_2 a0_3 a0_4 a0_5 a0_6 a0_7 a0_8 a0_9)) else (cleatref04_Is.j0 k t199 true a0_0 a0_1 a0_2 a0_3 a0_4 a0_5 a0_6 a0_7 a0_8 a0_9))) else (cleatref04_Is.j0 k t199 true a0_0 a0_1 a0_2 a0_3 a0_4 a0_5 a0_6 a0_7 a0_8 a0_9))) else (cleatref04_Is.j0 k t199 true a0_0 a0_1 a0_2 a0_3 a0_4 a0_5 a0_6 a0_7 a0_8 a0_9))))) = some r := h
 clear h
 replace H := Option.bind_eq_some_iff.mp H
 obtain ⟨t199, A20, H⟩ := H
 replace H : (if t199 = 0 then (cleatref04_Is.j0 k t199 true a0_0 a0_1 a0_2 a0_3 a0_4 a0_5 a0_6 a0_7 a0_8 a0_9) else ((cleatref04_reg.f k t199 (⟨#[100]⟩ : ByteArray) a0_1).bind fun t200 => (if t200 = true then ((cleatref04_reg.f k t199 (⟨#[110]⟩ : ByteArray) a0_2).bind fun t201 => (if t201 = true then ((cleatref04_reg.f k t199 (⟨#[109]⟩ : ByteArray) a0_3).bind fun t202 => (if t202 = true then ((cleatref04_reg.f k t199 (⟨#[97]⟩ : ByteArray) a0_4).bind fun t203 => (cleatref04_Is.j0 k t199 (!t203) a0_0 a0_1 a0_2 a0_3 a0_4 a0_5 a0_6 a0_7 a0_8 a0_9)) else (cleatref04_Is.j0 k t199 true a0_0 a0_1 a0_2 a0_3 a0_4 a0_5 a0_6 a0_7 a0_8 a0_9))) else (cleatref04_Is.j0 k t199 true a0_0 a0_1 a0_2 a0_3 a0_4 a0_5 a0_6 a0_7 a0_8 a0_9))) else (cleatref04_Is.j0 k t199 true a0_0 a0_1 a0_2 a0_3 a0_4 a0_5 a0_6 a0_7 a0_8 a0_9)))) = some r := H
 have A2 := Aside0.mk A20
 clear A20
 have HC3 := Aside0.mk H
 clear H
 go_enter Tryd.func13, Tryd.ntmps13
 go_upto_region 2 with (first | ((with_reducible refine gate_dst (N := 1) rfl ?_); refine box_event ?hg (N := 1) ?hd (cs := #[.int .i64 a0_0, .int .i64 a0_1, .int .i64 a0_2, .int .i64 a0_3, .int .i64 a0_4, .int .i64 a0_5, .int .u64 a0_6, .int .i64 a0_7, .int .i64 a0_8, .int .i64 a0_9]) (t := 24) ?hr ?_; (case hd => rfl); (case hg => rfl); (case hr => first | (go_simp; done) | (go_simp; rfl)); intro gb198 hg w4 hbox hb; have n0_ := Aside0.mk (below_step (by repeat (first | (with_reducible first | exact HB.out | apply below_alloc | apply pw_below_drewN | apply below_drew1) | exact HB.out)) hb); have n1_ := Aside0.mk (hbox); have n2_ := Aside0.mk ((by rw [hg]; exact (below_size (by repeat (first | (with_reducible first | exact HB.out | apply below_alloc | apply pw_below_drewN | apply below_drew1) | exact HB.out))) : w.heap.size ≤ gb198)); have n3_ := Aside0.mk ((by rw [hg]; exact (below_size (by repeat (first | (with_reducible first | exact HB.out | apply below_alloc | apply pw_below_drewN | apply below_drew1) | exact HB.out))) : w.heap.size ≤ gb198)); clear HB; have HB := n0_; have BK198 := n1_; have GW198 := n2_; have GE198 := n3_; clear n0_ n1_ n2_ n3_; clear hb hbox hg; obtain ⟨hcz5_0, hcz5_1, hcz5_2, hcz5_3, hcz5_4, hcz5_5, hcz5_6, hcz5_7, hcz5_8, hcz5_9⟩ := cells10 BK198.out) | ((with_reducible refine gate_callee (f := 23) rfl ?_); refine goesL_ (some 9) rfl rfl Tryd.func23 (by kernel_rfl) rfl #[.int .i64 a0_0] rfl (by (try simp only [List.map_toArray, List.map_cons, List.map_nil]); first | done | rfl | (simp only [List.length_drop, List.length_take]; rfl)) ?_; (with_reducible refine (cleatref04_Shape.calls a0_0 t199 _ A2.out).mono ?_); rintro e w6 ⟨rfl, hb⟩; refine ⟨_, rfl, ?_⟩; have n0_ := Aside0.mk (blk_below (g := gb198) (o := .cells #[.int .i64 a0_0, .int .i64 a0_1, .int .i64 a0_2, .int .i64 a0_3, .int .i64 a0_4, .int .i64 a0_5, .int .u64 a0_6, .int .i64 a0_7, .int .i64 a0_8, .int .i64 a0_9] 24 (0, 0)) (by (with_reducible repeat (first | refine blk_drewN ?_ _ | refine blk_drew ?_ | refine blk_alloc ?_ _)); exact BK198.out) hb); have n1_ := Aside0.mk (below_step (by repeat (first | (with_reducible first | exact HB.out | apply below_alloc | apply pw_below_drewN | apply below_drew1 | refine below_set ?_ GE198.out) | exact HB.out)) hb); clear BK198; clear HB; have BK198 := n0_; have HB := n1_; clear n0_ n1_; (try clear hb); (try clear hb2); (try clear hk); (try clear hi)))
 (try simp only [Act.put, List.setIfInBounds_toArray, List.set_cons_zero, List.set_cons_succ])
 go_cut [39] (fun v39 wc => ∃ (kq : Nat) (x39_2 : Bool), v39 = .bool x39_2 ∧ Aside0 (cleatref04_Is.j0 kq t199 x39_2 a0_0 a0_1 a0_2 a0_3 a0_4 a0_5 a0_6 a0_7 a0_8 a0_9 = some r) ∧ Aside0 (kq ≤ k) ∧ Aside0 (wc.heap[gb198]? = some (.cells #[.int .i64 a0_0, .int .i64 a0_1, .int .i64 a0_2, .int .i64 a0_3, .int .i64 a0_4, .int .i64 a0_5, .int .u64 a0_6, .int .i64 a0_7, .int .i64 a0_8, .int .i64 a0_9] 24 (0, 0))) ∧ Aside0 (Below w.heap.size w wc))
 case first =>
  have H := HC3.out
  clear HC3
  by_cases c7 : t199 = 0
  ·rw [if_pos c7] at H
   have c7b0 : (t199 == 0) = true := beq_iff_eq.mpr c7
   have c7b1 : (t199 != 0) = false := bne_eq_false_iff_eq.mpr c7
   clear c7
   (first | rw [c7b0] | (simp only [i64_w, i32_w]; rw [c7b0]) | skip)
   have H' := Aside0.mk H
   clear H
   go_wp2
   go_meet
   case rel => exact ⟨_, (true), (by first | rfl | (simp; done) | (simp [*]; done)), H', ⟨by first | omega | exact Nat.le_refl _⟩, ⟨by (with_reducible repeat (first | refine blk_drewN ?_ _ | refine blk_drew ?_ | refine blk_alloc ?_ _)); exact BK198.out⟩, ⟨by repeat (first | (with_reducible first | exact HB.out | apply below_alloc | apply pw_below_drewN | apply below_drew1 | refine below_set ?_ GE198.out) | exact HB.out)⟩⟩
  ·rw [if_neg c7] at H
   have c7b0 : (t199 == 0) = false := beq_eq_false_iff_ne.mpr c7
   have c7b1 : (t199 != 0) = true := bne_iff_ne.mpr c7
   (first | rw [c7b0] | (simp only [i64_w, i32_w]; rw [c7b0]) | skip)
   replace H := Option.bind_eq_some_iff.mp H
   obtain ⟨t200, A80, H⟩ := H
   replace H : (if t200 = true then ((cleatref04_reg.f k t199 (⟨#[110]⟩ : ByteArray) a0_2).bind fun t201 => (if t201 = true then ((cleatref04_reg.f k t199 (⟨#[109]⟩ : ByteArray) a0_3).bind fun t202 => (if t202 = true then ((cleatref04_reg.f k t199 (⟨#[97]⟩ : ByteArray) a0_4).bind fun t203 => (cleatref04_Is.j0 k t199 (!t203) a0_0 a0_1 a0_2 a0_3 a0_4 a0_5 a0_6 a0_7 a0_8 a0_9)) else (cleatref04_Is.j0 k t199 true a0_0 a0_1 a0_2 a0_3 a0_4 a0_5 a0_6 a0_7 a0_8 a0_9))) else (cleatref04_Is.j0 k t199 true a0_0 a0_1 a0_2 a0_3 a0_4 a0_5 a0_6 a0_7 a0_8 a0_9))) else (cleatref04_Is.j0 k t199 true a0_0 a0_1 a0_2 a0_3 a0_4 a0_5 a0_6 a0_7 a0_8 a0_9)) = some r := H
   have A8 := Aside0.mk A80
   clear A80
   by_cases c9 : t200 = true
   ·subst c9
    rw [if_pos rfl] at H
    replace H := Option.bind_eq_some_iff.mp H
    obtain ⟨t201, A100, H⟩ := H
    replace H : (if t201 = true then ((cleatref04_reg.f k t199 (⟨#[109]⟩ : ByteArray) a0_3).bind fun t202 => (if t202 = true then ((cleatref04_reg.f k t199 (⟨#[97]⟩ : ByteArray) a0_4).bind fun t203 => (cleatref04_Is.j0 k t199 (!t203) a0_0 a0_1 a0_2 a0_3 a0_4 a0_5 a0_6 a0_7 a0_8 a0_9)) else (cleatref04_Is.j0 k t199 true a0_0 a0_1 a0_2 a0_3 a0_4 a0_5 a0_6 a0_7 a0_8 a0_9))) else (cleatref04_Is.j0 k t199 true a0_0 a0_1 a0_2 a0_3 a0_4 a0_5 a0_6 a0_7 a0_8 a0_9)) = some r := H
    have A10 := Aside0.mk A100
    clear A100
    by_cases c11 : t201 = true
    ·subst c11
     rw [if_pos rfl] at H
     replace H := Option.bind_eq_some_iff.mp H
     obtain ⟨t202, A120, H⟩ := H
     replace H : (if t202 = true then ((cleatref04_reg.f k t199 (⟨#[97]⟩ : ByteArray) a0_4).bind fun t203 => (cleatref04_Is.j0 k t199 (!t203) a0_0 a0_1 a0_2 a0_3 a0_4 a0_5 a0_6 a0_7 a0_8 a0_9)) else (cleatref04_Is.j0 k t199 true a0_0 a0_1 a0_2 a0_3 a0_4 a0_5 a0_6 a0_7 a0_8 a0_9)) = some r := H
     have A12 := Aside0.mk A120
     clear A120
     by_cases c13 : t202 = true
     ·subst c13
      rw [if_pos rfl] at H
      replace H := Option.bind_eq_some_iff.mp H
      obtain ⟨t203, A140, H⟩ := H
      replace H : (cleatref04_Is.j0 k t199 (!t203) a0_0 a0_1 a0_2 a0_3 a0_4 a0_5 a0_6 a0_7 a0_8 a0_9) = some r := H
      have A14 := Aside0.mk A140
      clear A140
      have H' := Aside0.mk H
      clear H
      obtain ⟨hcz15_0, hcz15_1, hcz15_2, hcz15_3, hcz15_4, hcz15_5, hcz15_6, hcz15_7, hcz15_8, hcz15_9⟩ := cells10 BK198.out
      go_wp2_with (first | (go_at_call 34; (with_reducible refine (cleatref04_reg.calls k t199 (⟨#[100]⟩ : ByteArray) a0_1 true _ A8.out).mono ?_); rintro e w16 ⟨rfl, hb⟩; have n0_ := Aside0.mk (blk_below (g := gb198) (o := .cells #[.int .i64 a0_0, .int .i64 a0_1, .int .i64 a0_2, .int .i64 a0_3, .int .i64 a0_4, .int .i64 a0_5, .int .u64 a0_6, .int .i64 a0_7, .int .i64 a0_8, .int .i64 a0_9] 24 (0, 0)) (by (with_reducible repeat (first | refine blk_drewN ?_ _ | refine blk_drew ?_ | refine blk_alloc ?_ _)); exact BK198.out) hb); have n1_ := Aside0.mk (below_step (by repeat (first | (with_reducible first | exact HB.out | apply below_alloc | apply pw_below_drewN | apply below_drew1 | refine below_set ?_ GE198.out) | exact HB.out)) hb); clear BK198; clear HB; have BK198 := n0_; have HB := n1_; clear n0_ n1_; (try clear hb); (try clear hb2); (try clear hk); (try clear hi); obtain ⟨hcz17_0, hcz17_1, hcz17_2, hcz17_3, hcz17_4, hcz17_5, hcz17_6, hcz17_7, hcz17_8, hcz17_9⟩ := cells10 BK198.out) | (go_at_call 34; (with_reducible refine (cleatref04_reg.calls k t199 (⟨#[110]⟩ : ByteArray) a0_2 true _ A10.out).mono ?_); rintro e w18 ⟨rfl, hb⟩; have n0_ := Aside0.mk (blk_below (g := gb198) (o := .cells #[.int .i64 a0_0, .int .i64 a0_1, .int .i64 a0_2, .int .i64 a0_3, .int .i64 a0_4, .int .i64 a0_5, .int .u64 a0_6, .int .i64 a0_7, .int .i64 a0_8, .int .i64 a0_9] 24 (0, 0)) (by (with_reducible repeat (first | refine blk_drewN ?_ _ | refine blk_drew ?_ | refine blk_alloc ?_ _)); exact BK198.out) hb); have n1_ := Aside0.mk (below_step (by repeat (first | (with_reducible first | exact HB.out | apply below_alloc | apply pw_below_drewN | apply below_drew1 | refine below_set ?_ GE198.out) | exact HB.out)) hb); clear BK198; clear HB; have BK198 := n0_; have HB := n1_; clear n0_ n1_; (try clear hb); (try clear hb2); (try clear hk); (try clear hi); obtain ⟨hcz19_0, hcz19_1, hcz19_2, hcz19_3, hcz19_4, hcz19_5, hcz19_6, hcz19_7, hcz19_8, hcz19_9⟩ := cells10 BK198.out) | (go_at_call 34; (with_reducible refine (cleatref04_reg.calls k t199 (⟨#[109]⟩ : ByteArray) a0_3 true _ A12.out).mono ?_); rintro e w20 ⟨rfl, hb⟩; have n0_ := Aside0.mk (blk_below (g := gb198) (o := .cells #[.int .i64 a0_0, .int .i64 a0_1, .int .i64 a0_2, .int .i64 a0_3, .int .i64 a0_4, .int .i64 a0_5, .int .u64 a0_6, .int .i64 a0_7, .int .i64 a0_8, .int .i64 a0_9] 24 (0, 0)) (by (with_reducible repeat (first | refine blk_drewN ?_ _ | refine blk_drew ?_ | refine blk_alloc ?_ _)); exact BK198.out) hb); have n1_ := Aside0.mk (below_step (by repeat (first | (with_reducible first | exact HB.out | apply below_alloc | apply pw_below_drewN | apply below_drew1 | refine below_set ?_ GE198.out) | exact HB.out)) hb); clear BK198; clear HB; have BK198 := n0_; have HB := n1_; clear n0_ n1_; (try clear hb); (try clear hb2); (try clear hk); (try clear hi); obtain ⟨hcz21_0, hcz21_1, hcz21_2, hcz21_3, hcz21_4, hcz21_5, hcz21_6, hcz21_7, hcz21_8, hcz21_9⟩ := cells10 BK198.out) | (go_at_call 34; (with_reducible refine (cleatref04_reg.calls k t199 (⟨#[97]⟩ : ByteArray) a0_4 t203 _ A14.out).mono ?_); rintro e w22 ⟨rfl, hb⟩; have n0_ := Aside0.mk (blk_below (g := gb198) (o := .cells #[.int .i64 a0_0, .int .i64 a0_1, .int .i64 a0_2, .int .i64 a0_3, .int .i64 a0_4, .int .i64 a0_5, .int .u64 a0_6, .int .i64 a0_7, .int .i64 a0_8, .int .i64 a0_9] 24 (0, 0)) (by (with_reducible repeat (first | refine blk_drewN ?_ _ | refine blk_drew ?_ | refine blk_alloc ?_ _)); exact BK198.out) hb); have n1_ := Aside0.mk (below_step (by repeat (first | (with_reducible first | exact HB.out | apply below_alloc | apply pw_below_drewN | apply below_drew1 | refine below_set ?_ GE198.out) | exact HB.out)) hb); clear BK198; clear HB; have BK198 := n0_; have HB := n1_; clear n0_ n1_; (try clear hb); (try clear hb2); (try clear hk); (try clear hi)))
      go_meet
      case rel => exact ⟨_, (!t203), (by first | rfl | (simp; done) | (simp [*]; done)), H', ⟨by first | omega | exact Nat.le_refl _⟩, ⟨by (with_reducible repeat (first | refine blk_drewN ?_ _ | refine blk_drew ?_ | refine blk_alloc ?_ _)); exact BK198.out⟩, ⟨by repeat (first | (with_reducible first | exact HB.out | apply below_alloc | apply pw_below_drewN | apply below_drew1 | refine below_set ?_ GE198.out) | exact HB.out)⟩⟩
     ·replace c13 := Bool.eq_false_iff.mpr c13
      subst c13
      rw [if_neg (show ¬ (false = true) by decide)] at H
      have H' := Aside0.mk H
      clear H
      obtain ⟨hcz23_0, hcz23_1, hcz23_2, hcz23_3, hcz23_4, hcz23_5, hcz23_6, hcz23_7, hcz23_8, hcz23_9⟩ := cells10 BK198.out
      go_wp2_with (first | (go_at_call 34; (with_reducible refine (cleatref04_reg.calls k t199 (⟨#[100]⟩ : ByteArray) a0_1 true _ A8.out).mono ?_); rintro e w24 ⟨rfl, hb⟩; have n0_ := Aside0.mk (blk_below (g := gb198) (o := .cells #[.int .i64 a0_0, .int .i64 a0_1, .int .i64 a0_2, .int .i64 a0_3, .int .i64 a0_4, .int .i64 a0_5, .int .u64 a0_6, .int .i64 a0_7, .int .i64 a0_8, .int .i64 a0_9] 24 (0, 0)) (by (with_reducible repeat (first | refine blk_drewN ?_ _ | refine blk_drew ?_ | refine blk_alloc ?_ _)); exact BK198.out) hb); have n1_ := Aside0.mk (below_step (by repeat (first | (with_reducible first | exact HB.out | apply below_alloc | apply pw_below_drewN | apply below_drew1 | refine below_set ?_ GE198.out) | exact HB.out)) hb); clear BK198; clear HB; have BK198 := n0_; have HB := n1_; clear n0_ n1_; (try clear hb); (try clear hb2); (try clear hk); (try clear hi); obtain ⟨hcz25_0, hcz25_1, hcz25_2, hcz25_3, hcz25_4, hcz25_5, hcz25_6, hcz25_7, hcz25_8, hcz25_9⟩ := cells10 BK198.out) | (go_at_call 34; (with_reducible refine (cleatref04_reg.calls k t199 (⟨#[110]⟩ : ByteArray) a0_2 true _ A10.out).mono ?_); rintro e w26 ⟨rfl, hb⟩; have n0_ := Aside0.mk (blk_below (g := gb198) (o := .cells #[.int .i64 a0_0, .int .i64 a0_1, .int .i64 a0_2, .int .i64 a0_3, .int .i64 a0_4, .int .i64 a0_5, .int .u64 a0_6, .int .i64 a0_7, .int .i64 a0_8, .int .i64 a0_9] 24 (0, 0)) (by (with_reducible repeat (first | refine blk_drewN ?_ _ | refine blk_drew ?_ | refine blk_alloc ?_ _)); exact BK198.out) hb); have n1_ := Aside0.mk (below_step (by repeat (first | (with_reducible first | exact HB.out | apply below_alloc | apply pw_below_drewN | apply below_drew1 | refine below_set ?_ GE198.out) | exact HB.out)) hb); clear BK198; clear HB; have BK198 := n0_; have HB := n1_; clear n0_ n1_; (try clear hb); (try clear hb2); (try clear hk); (try clear hi); obtain ⟨hcz27_0, hcz27_1, hcz27_2, hcz27_3, hcz27_4, hcz27_5, hcz27_6, hcz27_7, hcz27_8, hcz27_9⟩ := cells10 BK198.out) | (go_at_call 34; (with_reducible refine (cleatref04_reg.calls k t199 (⟨#[109]⟩ : ByteArray) a0_3 false _ A12.out).mono ?_); rintro e w28 ⟨rfl, hb⟩; have n0_ := Aside0.mk (blk_below (g := gb198) (o := .cells #[.int .i64 a0_0, .int .i64 a0_1, .int .i64 a0_2, .int .i64 a0_3, .int .i64 a0_4, .int .i64 a0_5, .int .u64 a0_6, .int .i64 a0_7, .int .i64 a0_8, .int .i64 a0_9] 24 (0, 0)) (by (with_reducible repeat (first | refine blk_drewN ?_ _ | refine blk_drew ?_ | refine blk_alloc ?_ _)); exact BK198.out) hb); have n1_ := Aside0.mk (below_step (by repeat (first | (with_reducible first | exact HB.out | apply below_alloc | apply pw_below_drewN | apply below_drew1 | refine below_set ?_ GE198.out) | exact HB.out)) hb); clear BK198; clear HB; have BK198 := n0_; have HB := n1_; clear n0_ n1_; (try clear hb); (try clear hb2); (try clear hk); (try clear hi)))
      go_meet
      case rel => exact ⟨_, (true), (by first | rfl | (simp; done) | (simp [*]; done)), H', ⟨by first | omega | exact Nat.le_refl _⟩, ⟨by (with_reducible repeat (first | refine blk_drewN ?_ _ | refine blk_drew ?_ | refine blk_alloc ?_ _)); exact BK198.out⟩, ⟨by repeat (first | (with_reducible first | exact HB.out | apply below_alloc | apply pw_below_drewN | apply below_drew1 | refine below_set ?_ GE198.out) | exact HB.out)⟩⟩
    ·replace c11 := Bool.eq_false_iff.mpr c11
     subst c11
     rw [if_neg (show ¬ (false = true) by decide)] at H
     have H' := Aside0.mk H
     clear H
     obtain ⟨hcz29_0, hcz29_1, hcz29_2, hcz29_3, hcz29_4, hcz29_5, hcz29_6, hcz29_7, hcz29_8, hcz29_9⟩ := cells10 BK198.out
     go_wp2_with (first | (go_at_call 34; (with_reducible refine (cleatref04_reg.calls k t199 (⟨#[100]⟩ : ByteArray) a0_1 true _ A8.out).mono ?_); rintro e w30 ⟨rfl, hb⟩; have n0_ := Aside0.mk (blk_below (g := gb198) (o := .cells #[.int .i64 a0_0, .int .i64 a0_1, .int .i64 a0_2, .int .i64 a0_3, .int .i64 a0_4, .int .i64 a0_5, .int .u64 a0_6, .int .i64 a0_7, .int .i64 a0_8, .int .i64 a0_9] 24 (0, 0)) (by (with_reducible repeat (first | refine blk_drewN ?_ _ | refine blk_drew ?_ | refine blk_alloc ?_ _)); exact BK198.out) hb); have n1_ := Aside0.mk (below_step (by repeat (first | (with_reducible first | exact HB.out | apply below_alloc | apply pw_below_drewN | apply below_drew1 | refine below_set ?_ GE198.out) | exact HB.out)) hb); clear BK198; clear HB; have BK198 := n0_; have HB := n1_; clear n0_ n1_; (try clear hb); (try clear hb2); (try clear hk); (try clear hi); obtain ⟨hcz31_0, hcz31_1, hcz31_2, hcz31_3, hcz31_4, hcz31_5, hcz31_6, hcz31_7, hcz31_8, hcz31_9⟩ := cells10 BK198.out) | (go_at_call 34; (with_reducible refine (cleatref04_reg.calls k t199 (⟨#[110]⟩ : ByteArray) a0_2 false _ A10.out).mono ?_); rintro e w32 ⟨rfl, hb⟩; have n0_ := Aside0.mk (blk_below (g := gb198) (o := .cells #[.int .i64 a0_0, .int .i64 a0_1, .int .i64 a0_2, .int .i64 a0_3, .int .i64 a0_4, .int .i64 a0_5, .int .u64 a0_6, .int .i64 a0_7, .int .i64 a0_8, .int .i64 a0_9] 24 (0, 0)) (by (with_reducible repeat (first | refine blk_drewN ?_ _ | refine blk_drew ?_ | refine blk_alloc ?_ _)); exact BK198.out) hb); have n1_ := Aside0.mk (below_step (by repeat (first | (with_reducible first | exact HB.out | apply below_alloc | apply pw_below_drewN | apply below_drew1 | refine below_set ?_ GE198.out) | exact HB.out)) hb); clear BK198; clear HB; have BK198 := n0_; have HB := n1_; clear n0_ n1_; (try clear hb); (try clear hb2); (try clear hk); (try clear hi)))
     go_meet
     case rel => exact ⟨_, (true), (by first | rfl | (simp; done) | (simp [*]; done)), H', ⟨by first | omega | exact Nat.le_refl _⟩, ⟨by (with_reducible repeat (first | refine blk_drewN ?_ _ | refine blk_drew ?_ | refine blk_alloc ?_ _)); exact BK198.out⟩, ⟨by repeat (first | (with_reducible first | exact HB.out | apply below_alloc | apply pw_below_drewN | apply below_drew1 | refine below_set ?_ GE198.out) | exact HB.out)⟩⟩
   ·replace c9 := Bool.eq_false_iff.mpr c9
    subst c9
    rw [if_neg (show ¬ (false = true) by decide)] at H
    have H' := Aside0.mk H
    clear H
    obtain ⟨hcz33_0, hcz33_1, hcz33_2, hcz33_3, hcz33_4, hcz33_5, hcz33_6, hcz33_7, hcz33_8, hcz33_9⟩ := cells10 BK198.out
    go_wp2_with (first | (go_at_call 34; (with_reducible refine (cleatref04_reg.calls k t199 (⟨#[100]⟩ : ByteArray) a0_1 false _ A8.out).mono ?_); rintro e w34 ⟨rfl, hb⟩; have n0_ := Aside0.mk (blk_below (g := gb198) (o := .cells #[.int .i64 a0_0, .int .i64 a0_1, .int .i64 a0_2, .int .i64 a0_3, .int .i64 a0_4, .int .i64 a0_5, .int .u64 a0_6, .int .i64 a0_7, .int .i64 a0_8, .int .i64 a0_9] 24 (0, 0)) (by (with_reducible repeat (first | refine blk_drewN ?_ _ | refine blk_drew ?_ | refine blk_alloc ?_ _)); exact BK198.out) hb); have n1_ := Aside0.mk (below_step (by repeat (first | (with_reducible first | exact HB.out | apply below_alloc | apply pw_below_drewN | apply below_drew1 | refine below_set ?_ GE198.out) | exact HB.out)) hb); clear BK198; clear HB; have BK198 := n0_; have HB := n1_; clear n0_ n1_; (try clear hb); (try clear hb2); (try clear hk); (try clear hi)))
    go_meet
    case rel => exact ⟨_, (true), (by first | rfl | (simp; done) | (simp [*]; done)), H', ⟨by first | omega | exact Nat.le_refl _⟩, ⟨by (with_reducible repeat (first | refine blk_drewN ?_ _ | refine blk_drew ?_ | refine blk_alloc ?_ _)); exact BK198.out⟩, ⟨by repeat (first | (with_reducible first | exact HB.out | apply below_alloc | apply pw_below_drewN | apply below_drew1 | refine below_set ?_ GE198.out) | exact HB.out)⟩⟩
 case rest =>
  clear HC3
  try clear c1
  try clear c2
  try clear p2
  try clear c7
  try clear c7b0
  try clear c7b1
  try clear c9
  try clear c11
  try clear c13
  try clear c23
  try clear hcz15_0 hcz15_1 hcz15_2 hcz15_3 hcz15_4 hcz15_5 hcz15_6 hcz15_7 hcz15_8 hcz15_9
  try clear hcz17_0 hcz17_1 hcz17_2 hcz17_3 hcz17_4 hcz17_5 hcz17_6 hcz17_7 hcz17_8 hcz17_9
  try clear hcz19_0 hcz19_1 hcz19_2 hcz19_3 hcz19_4 hcz19_5 hcz19_6 hcz19_7 hcz19_8 hcz19_9
  try clear hcz21_0 hcz21_1 hcz21_2 hcz21_3 hcz21_4 hcz21_5 hcz21_6 hcz21_7 hcz21_8 hcz21_9
  try clear hcz23_0 hcz23_1 hcz23_2 hcz23_3 hcz23_4 hcz23_5 hcz23_6 hcz23_7 hcz23_8 hcz23_9
  try clear hcz25_0 hcz25_1 hcz25_2 hcz25_3 hcz25_4 hcz25_5 hcz25_6 hcz25_7 hcz25_8 hcz25_9
  try clear hcz27_0 hcz27_1 hcz27_2 hcz27_3 hcz27_4 hcz27_5 hcz27_6 hcz27_7 hcz27_8 hcz27_9
  try clear hcz29_0 hcz29_1 hcz29_2 hcz29_3 hcz29_4 hcz29_5 hcz29_6 hcz29_7 hcz29_8 hcz29_9
  try clear hcz31_0 hcz31_1 hcz31_2 hcz31_3 hcz31_4 hcz31_5 hcz31_6 hcz31_7 hcz31_8 hcz31_9
  try clear hcz33_0 hcz33_1 hcz33_2 hcz33_3 hcz33_4 hcz33_5 hcz33_6 hcz33_7 hcz33_8 hcz33_9
  try clear hcz5_0 hcz5_1 hcz5_2 hcz5_3 hcz5_4 hcz5_5 hcz5_6 hcz5_7 hcz5_8 hcz5_9
  obtain ⟨kq, x39_2, rfl, HA, HJ2, BK198, HB⟩ := hcut
  cases kq with
  | zero => exact absurd HA.out (by simp [cleatref04_Is.j0])
  | succ kj2 =>
   have H := HA.out
   clear HA
   simp only [cleatref04_Is.j0] at H
   by_cases c35 : x39_2 = true
   ·subst c35
    rw [if_pos rfl] at H
    obtain rfl := Option.some.inj H
    go_wp2
    go_ret
    exact ⟨by first | rfl | (simp [errW_none, errW_some] <;> rfl) | (simp [*, errW_none, errW_some] <;> rfl), by repeat (first | (with_reducible first | exact HB.out | apply below_alloc | apply pw_below_drewN | apply below_drew1 | refine below_set ?_ GE198.out) | exact HB.out)⟩
   ·replace c35 := Bool.eq_false_iff.mpr c35
    subst c35
    rw [if_neg (show ¬ (false = true) by decide)] at H
    have HC36 := Aside0.mk H
    clear H
    go_upto_region 4 with (fail)
    go_cut [4] (fun v4 wc => ∃ (kq : Nat) (x4_35 : Bool), v4 = .bool x4_35 ∧ Aside0 (cleatref04_Is.j1 kq t199 x4_35 a0_0 a0_1 a0_2 a0_3 a0_4 a0_5 a0_6 a0_7 a0_8 a0_9 = some r) ∧ Aside0 (kq ≤ kj2) ∧ Aside0 (wc.heap[gb198]? = some (.cells #[.int .i64 a0_0, .int .i64 a0_1, .int .i64 a0_2, .int .i64 a0_3, .int .i64 a0_4, .int .i64 a0_5, .int .u64 a0_6, .int .i64 a0_7, .int .i64 a0_8, .int .i64 a0_9] 24 (0, 0))) ∧ Aside0 (Below w.heap.size w wc))
    case first =>
     have H := HC36.out
     clear HC36
     by_cases c37 : a0_7 = 0
     ·rw [if_pos c37] at H
      have c37b0 : (a0_7 == 0) = true := beq_iff_eq.mpr c37
      have c37b1 : (a0_7 != 0) = false := bne_eq_false_iff_eq.mpr c37
      clear c37
      (first | rw [c37b0] | (simp only [i64_w, i32_w]; rw [c37b0]) | skip)
      have H' := Aside0.mk H
      clear H
      obtain ⟨hcz38_0, hcz38_1, hcz38_2, hcz38_3, hcz38_4, hcz38_5, hcz38_6, hcz38_7, hcz38_8, hcz38_9⟩ := cells10 BK198.out
      go_wp2
      go_meet
      case rel => exact ⟨_, (true), (by first | rfl | (simp; done) | (simp [*]; done)), H', ⟨by have := HJ2.out; first | omega | exact Nat.le_refl _⟩, ⟨by (with_reducible repeat (first | refine blk_drewN ?_ _ | refine blk_drew ?_ | refine blk_alloc ?_ _)); exact BK198.out⟩, ⟨by repeat (first | (with_reducible first | exact HB.out | apply below_alloc | apply pw_below_drewN | apply below_drew1 | refine below_set ?_ GE198.out) | exact HB.out)⟩⟩
     ·rw [if_neg c37] at H
      have c37b0 : (a0_7 == 0) = false := beq_eq_false_iff_ne.mpr c37
      have c37b1 : (a0_7 != 0) = true := bne_iff_ne.mpr c37
      (first | rw [c37b0] | (simp only [i64_w, i32_w]; rw [c37b0]) | skip)
      by_cases c39 : t199 = 4
      ·rw [if_pos c39] at H
       have c39b0 : (t199 == 4) = true := beq_iff_eq.mpr c39
       have c39b1 : (t199 != 4) = false := bne_eq_false_iff_eq.mpr c39
       clear c39
       by_cases c40 : a0_7 ≥ 0
       ·rw [if_pos c40] at H
        have c40b0 : decide (0 ≤ a0_7) = true := decide_eq_true c40
        clear c40
        by_cases c41 : a0_7 ≤ 2
        ·rw [if_pos c41] at H
         have c41b0 : decide (a0_7 ≤ 2) = true := decide_eq_true c41
         clear c41
         have H' := Aside0.mk H
         clear H
         obtain ⟨hcz42_0, hcz42_1, hcz42_2, hcz42_3, hcz42_4, hcz42_5, hcz42_6, hcz42_7, hcz42_8, hcz42_9⟩ := cells10 BK198.out
         go_wp2
         go_meet
         case rel => exact ⟨_, (true), (by first | rfl | (simp; done) | (simp [*]; done)), H', ⟨by have := HJ2.out; first | omega | exact Nat.le_refl _⟩, ⟨by (with_reducible repeat (first | refine blk_drewN ?_ _ | refine blk_drew ?_ | refine blk_alloc ?_ _)); exact BK198.out⟩, ⟨by repeat (first | (with_reducible first | exact HB.out | apply below_alloc | apply pw_below_drewN | apply below_drew1 | refine below_set ?_ GE198.out) | exact HB.out)⟩⟩
        ·rw [if_neg c41] at H
         have c41b0 : decide (a0_7 ≤ 2) = false := decide_eq_false c41
         clear c41
         by_cases c43 : t199 = 5
         ·rw [if_pos c43] at H
          have c43b0 : (t199 == 5) = true := beq_iff_eq.mpr c43
          have c43b1 : (t199 != 5) = false := bne_eq_false_iff_eq.mpr c43
          clear c43
          have H' := Aside0.mk H
          clear H
          obtain ⟨hcz44_0, hcz44_1, hcz44_2, hcz44_3, hcz44_4, hcz44_5, hcz44_6, hcz44_7, hcz44_8, hcz44_9⟩ := cells10 BK198.out
          go_wp2
          go_meet
          case rel => exact ⟨_, (decide (a0_7 ≤ 3)), (by first | rfl | (simp; done) | (simp [*]; done)), H', ⟨by have := HJ2.out; first | omega | exact Nat.le_refl _⟩, ⟨by (with_reducible repeat (first | refine blk_drewN ?_ _ | refine blk_drew ?_ | refine blk_alloc ?_ _)); exact BK198.out⟩, ⟨by repeat (first | (with_reducible first | exact HB.out | apply below_alloc | apply pw_below_drewN | apply below_drew1 | refine below_set ?_ GE198.out) | exact HB.out)⟩⟩
         ·rw [if_neg c43] at H
          have c43b0 : (t199 == 5) = false := beq_eq_false_iff_ne.mpr c43
          have c43b1 : (t199 != 5) = true := bne_iff_ne.mpr c43
          have H' := Aside0.mk H
          clear H
          obtain ⟨hcz45_0, hcz45_1, hcz45_2, hcz45_3, hcz45_4, hcz45_5, hcz45_6, hcz45_7, hcz45_8, hcz45_9⟩ := cells10 BK198.out
          go_wp2
          go_meet
          case rel => exact ⟨_, (false), (by first | rfl | (simp; done) | (simp [*]; done)), H', ⟨by have := HJ2.out; first | omega | exact Nat.le_refl _⟩, ⟨by (with_reducible repeat (first | refine blk_drewN ?_ _ | refine blk_drew ?_ | refine blk_alloc ?_ _)); exact BK198.out⟩, ⟨by repeat (first | (with_reducible first | exact HB.out | apply below_alloc | apply pw_below_drewN | apply below_drew1 | refine below_set ?_ GE198.out) | exact HB.out)⟩⟩
       ·rw [if_neg c40] at H
        have c40b0 : decide (0 ≤ a0_7) = false := decide_eq_false c40
        clear c40
        by_cases c46 : t199 = 5
        ·rw [if_pos c46] at H
         have c46b0 : (t199 == 5) = true := beq_iff_eq.mpr c46
         have c46b1 : (t199 != 5) = false := bne_eq_false_iff_eq.mpr c46
         clear c46
         have H' := Aside0.mk H
         clear H
         obtain ⟨hcz47_0, hcz47_1, hcz47_2, hcz47_3, hcz47_4, hcz47_5, hcz47_6, hcz47_7, hcz47_8, hcz47_9⟩ := cells10 BK198.out
         go_wp2
         go_meet
         case rel => exact ⟨_, (false), (by first | rfl | (simp; done) | (simp [*]; done)), H', ⟨by have := HJ2.out; first | omega | exact Nat.le_refl _⟩, ⟨by (with_reducible repeat (first | refine blk_drewN ?_ _ | refine blk_drew ?_ | refine blk_alloc ?_ _)); exact BK198.out⟩, ⟨by repeat (first | (with_reducible first | exact HB.out | apply below_alloc | apply pw_below_drewN | apply below_drew1 | refine below_set ?_ GE198.out) | exact HB.out)⟩⟩
        ·rw [if_neg c46] at H
         have c46b0 : (t199 == 5) = false := beq_eq_false_iff_ne.mpr c46
         have c46b1 : (t199 != 5) = true := bne_iff_ne.mpr c46
         have H' := Aside0.mk H
         clear H
         obtain ⟨hcz48_0, hcz48_1, hcz48_2, hcz48_3, hcz48_4, hcz48_5, hcz48_6, hcz48_7, hcz48_8, hcz48_9⟩ := cells10 BK198.out
         go_wp2
         go_meet
         case rel => exact ⟨_, (false), (by first | rfl | (simp; done) | (simp [*]; done)), H', ⟨by have := HJ2.out; first | omega | exact Nat.le_refl _⟩, ⟨by (with_reducible repeat (first | refine blk_drewN ?_ _ | refine blk_drew ?_ | refine blk_alloc ?_ _)); exact BK198.out⟩, ⟨by repeat (first | (with_reducible first | exact HB.out | apply below_alloc | apply pw_below_drewN | apply below_drew1 | refine below_set ?_ GE198.out) | exact HB.out)⟩⟩
      ·rw [if_neg c39] at H
       have c39b0 : (t199 == 4) = false := beq_eq_false_iff_ne.mpr c39
       have c39b1 : (t199 != 4) = true := bne_iff_ne.mpr c39
       by_cases c49 : t199 = 5
       ·rw [if_pos c49] at H
        have c49b0 : (t199 == 5) = true := beq_iff_eq.mpr c49
        have c49b1 : (t199 != 5) = false := bne_eq_false_iff_eq.mpr c49
        clear c49
        by_cases c50 : a0_7 ≥ 0
        ·rw [if_pos c50] at H
         have c50b0 : decide (0 ≤ a0_7) = true := decide_eq_true c50
         clear c50
         have H' := Aside0.mk H
         clear H
         obtain ⟨hcz51_0, hcz51_1, hcz51_2, hcz51_3, hcz51_4, hcz51_5, hcz51_6, hcz51_7, hcz51_8, hcz51_9⟩ := cells10 BK198.out
         go_wp2
         go_meet
         case rel => exact ⟨_, (decide (a0_7 ≤ 3)), (by first | rfl | (simp; done) | (simp [*]; done)), H', ⟨by have := HJ2.out; first | omega | exact Nat.le_refl _⟩, ⟨by (with_reducible repeat (first | refine blk_drewN ?_ _ | refine blk_drew ?_ | refine blk_alloc ?_ _)); exact BK198.out⟩, ⟨by repeat (first | (with_reducible first | exact HB.out | apply below_alloc | apply pw_below_drewN | apply below_drew1 | refine below_set ?_ GE198.out) | exact HB.out)⟩⟩
        ·rw [if_neg c50] at H
         have c50b0 : decide (0 ≤ a0_7) = false := decide_eq_false c50
         clear c50
         have H' := Aside0.mk H
         clear H
         obtain ⟨hcz52_0, hcz52_1, hcz52_2, hcz52_3, hcz52_4, hcz52_5, hcz52_6, hcz52_7, hcz52_8, hcz52_9⟩ := cells10 BK198.out
         go_wp2
         go_meet
         case rel => exact ⟨_, (false), (by first | rfl | (simp; done) | (simp [*]; done)), H', ⟨by have := HJ2.out; first | omega | exact Nat.le_refl _⟩, ⟨by (with_reducible repeat (first | refine blk_drewN ?_ _ | refine blk_drew ?_ | refine blk_alloc ?_ _)); exact BK198.out⟩, ⟨by repeat (first | (with_reducible first | exact HB.out | apply below_alloc | apply pw_below_drewN | apply below_drew1 | refine below_set ?_ GE198.out) | exact HB.out)⟩⟩
       ·rw [if_neg c49] at H
        have c49b0 : (t199 == 5) = false := beq_eq_false_iff_ne.mpr c49
        have c49b1 : (t199 != 5) = true := bne_iff_ne.mpr c49
        have H' := Aside0.mk H
        clear H
        obtain ⟨hcz53_0, hcz53_1, hcz53_2, hcz53_3, hcz53_4, hcz53_5, hcz53_6, hcz53_7, hcz53_8, hcz53_9⟩ := cells10 BK198.out
        go_wp2
        go_meet
        case rel => exact ⟨_, (false), (by first | rfl | (simp; done) | (simp [*]; done)), H', ⟨by have := HJ2.out; first | omega | exact Nat.le_refl _⟩, ⟨by (with_reducible repeat (first | refine blk_drewN ?_ _ | refine blk_drew ?_ | refine blk_alloc ?_ _)); exact BK198.out⟩, ⟨by repeat (first | (with_reducible first | exact HB.out | apply below_alloc | apply pw_below_drewN | apply below_drew1 | refine below_set ?_ GE198.out) | exact HB.out)⟩⟩
    case rest =>
     clear HC36
     try clear c1
     try clear c2
     try clear p2
     try clear c3
     try clear c4
     try clear c5
     try clear c7
     try clear c7b0
     try clear c7b1
     try clear c9
     try clear c11
     try clear c13
     try clear c23
     try clear c35
     try clear c37
     try clear c37b0
     try clear c37b1
     try clear c39
     try clear c39b0
     try clear c39b1
     try clear c40
     try clear c40b0
     try clear c41
     try clear c41b0
     try clear c43
     try clear c43b0
     try clear c43b1
     try clear c46
     try clear c46b0
     try clear c46b1
     try clear c49
     try clear c49b0
     try clear c49b1
     try clear c50
     try clear c50b0
     try clear hcz15_0 hcz15_1 hcz15_2 hcz15_3 hcz15_4 hcz15_5 hcz15_6 hcz15_7 hcz15_8 hcz15_9
     try clear hcz17_0 hcz17_1 hcz17_2 hcz17_3 hcz17_4 hcz17_5 hcz17_6 hcz17_7 hcz17_8 hcz17_9
     try clear hcz19_0 hcz19_1 hcz19_2 hcz19_3 hcz19_4 hcz19_5 hcz19_6 hcz19_7 hcz19_8 hcz19_9
     try clear hcz21_0 hcz21_1 hcz21_2 hcz21_3 hcz21_4 hcz21_5 hcz21_6 hcz21_7 hcz21_8 hcz21_9
     try clear hcz23_0 hcz23_1 hcz23_2 hcz23_3 hcz23_4 hcz23_5 hcz23_6 hcz23_7 hcz23_8 hcz23_9
     try clear hcz25_0 hcz25_1 hcz25_2 hcz25_3 hcz25_4 hcz25_5 hcz25_6 hcz25_7 hcz25_8 hcz25_9
     try clear hcz27_0 hcz27_1 hcz27_2 hcz27_3 hcz27_4 hcz27_5 hcz27_6 hcz27_7 hcz27_8 hcz27_9
     try clear hcz29_0 hcz29_1 hcz29_2 hcz29_3 hcz29_4 hcz29_5 hcz29_6 hcz29_7 hcz29_8 hcz29_9
     try clear hcz31_0 hcz31_1 hcz31_2 hcz31_3 hcz31_4 hcz31_5 hcz31_6 hcz31_7 hcz31_8 hcz31_9
     try clear hcz33_0 hcz33_1 hcz33_2 hcz33_3 hcz33_4 hcz33_5 hcz33_6 hcz33_7 hcz33_8 hcz33_9
     try clear hcz38_0 hcz38_1 hcz38_2 hcz38_3 hcz38_4 hcz38_5 hcz38_6 hcz38_7 hcz38_8 hcz38_9
     try clear hcz42_0 hcz42_1 hcz42_2 hcz42_3 hcz42_4 hcz42_5 hcz42_6 hcz42_7 hcz42_8 hcz42_9
     try clear hcz44_0 hcz44_1 hcz44_2 hcz44_3 hcz44_4 hcz44_5 hcz44_6 hcz44_7 hcz44_8 hcz44_9
     try clear hcz45_0 hcz45_1 hcz45_2 hcz45_3 hcz45_4 hcz45_5 hcz45_6 hcz45_7 hcz45_8 hcz45_9
     try clear hcz47_0 hcz47_1 hcz47_2 hcz47_3 hcz47_4 hcz47_5 hcz47_6 hcz47_7 hcz47_8 hcz47_9
     try clear hcz48_0 hcz48_1 hcz48_2 hcz48_3 hcz48_4 hcz48_5 hcz48_6 hcz48_7 hcz48_8 hcz48_9
     try clear hcz51_0 hcz51_1 hcz51_2 hcz51_3 hcz51_4 hcz51_5 hcz51_6 hcz51_7 hcz51_8 hcz51_9
     try clear hcz52_0 hcz52_1 hcz52_2 hcz52_3 hcz52_4 hcz52_5 hcz52_6 hcz52_7 hcz52_8 hcz52_9
     try clear hcz53_0 hcz53_1 hcz53_2 hcz53_3 hcz53_4 hcz53_5 hcz53_6 hcz53_7 hcz53_8 hcz53_9
     try clear hcz5_0 hcz5_1 hcz5_2 hcz5_3 hcz5_4 hcz5_5 hcz5_6 hcz5_7 hcz5_8 hcz5_9
     try clear p2
     obtain ⟨kq, x4_35, rfl, HA, HJ35, BK198, HB⟩ := hcut
     cases kq with
     | zero => exact absurd HA.out (by simp [cleatref04_Is.j1])
     | succ kj35 =>
      have H := HA.out
      clear HA
      simp only [cleatref04_Is.j1] at H
      by_cases c54 : a0_9 = 0
      ·rw [if_pos c54] at H
       have c54b0 : (a0_9 == 0) = true := beq_iff_eq.mpr c54
       have c54b1 : (a0_9 != 0) = false := bne_eq_false_iff_eq.mpr c54
       clear c54
       by_cases c55 : t199 = 3
       ·rw [if_pos c55] at H
        have c55b0 : (t199 == 3) = true := beq_iff_eq.mpr c55
        have c55b1 : (t199 != 3) = false := bne_eq_false_iff_eq.mpr c55
        clear c55
        replace H := Option.bind_eq_some_iff.mp H
        obtain ⟨t204, A560, H⟩ := H
        replace H : (if t204 = true then ((cleatref04_imm.f kj35 t199 a0_5).bind fun t205 => (if t205 = true then ((cleatref04_amount.f t199 a0_8).bind fun t206 => (if t206 = true then (if x4_35 = true then (some true) else (some false)) else (some false))) else (some false))) else ((cleatref04_imm.f kj35 t199 a0_5).bind fun t207 => (if t207 = true then ((cleatref04_amount.f t199 a0_8).bind fun t208 => (if t208 = true then (if x4_35 = true then (some false) else (some false)) else (some false))) else (some false)))) = some r := H
        have A56 := Aside0.mk A560
        clear A560
        by_cases c57 : t204 = true
        ·subst c57
         rw [if_pos rfl] at H
         replace H := Option.bind_eq_some_iff.mp H
         obtain ⟨t205, A580, H⟩ := H
         replace H : (if t205 = true then ((cleatref04_amount.f t199 a0_8).bind fun t206 => (if t206 = true then (if x4_35 = true then (some true) else (some false)) else (some false))) else (some false)) = some r := H
         have A58 := Aside0.mk A580
         clear A580
         by_cases c59 : t205 = true
         ·subst c59
          rw [if_pos rfl] at H
          replace H := Option.bind_eq_some_iff.mp H
          obtain ⟨t206, A600, H⟩ := H
          replace H : (if t206 = true then (if x4_35 = true then (some true) else (some false)) else (some false)) = some r := H
          have A60 := Aside0.mk A600
          clear A600
          by_cases c61 : t206 = true
          ·subst c61
           rw [if_pos rfl] at H
           by_cases c62 : x4_35 = true
           ·subst c62
            rw [if_pos rfl] at H
            obtain rfl := Option.some.inj H
            obtain ⟨hcz63_0, hcz63_1, hcz63_2, hcz63_3, hcz63_4, hcz63_5, hcz63_6, hcz63_7, hcz63_8, hcz63_9⟩ := cells10 BK198.out
            go_wp2_with (first | (go_at_call 35; (with_reducible refine (cleatref02_Is.calls kj35 a0_6 true _ A56.out).mono ?_); rintro e w' ⟨rfl, ⟨nd, rfl⟩⟩) | ((with_reducible refine gate_callee (f := 36) rfl ?_); refine goesL_ (some 107) rfl rfl Tryd.func36 (by kernel_rfl) rfl #[.int .i64 t199, .int .i64 a0_5] rfl (by (try simp only [List.map_toArray, List.map_cons, List.map_nil]); first | done | rfl | (simp only [List.length_drop, List.length_take]; rfl)) ?_; (with_reducible refine (cleatref04_imm.calls kj35 t199 a0_5 true _ A58.out).mono ?_); rintro e w' ⟨rfl, ⟨nd, rfl⟩⟩; refine ⟨_, rfl, ?_⟩) | (go_at_call 37; (with_reducible refine (cleatref04_amount.calls t199 a0_8 true _ A60.out).mono ?_); rintro e w' ⟨rfl, ⟨nd, rfl⟩⟩))
            go_ret
            exact ⟨by first | rfl | (simp [errW_none, errW_some] <;> rfl) | (simp [*, errW_none, errW_some] <;> rfl), by repeat (first | (with_reducible first | exact HB.out | apply below_alloc | apply pw_below_drewN | apply below_drew1 | refine below_set ?_ GE198.out) | exact HB.out)⟩
           ·replace c62 := Bool.eq_false_iff.mpr c62
            subst c62
            rw [if_neg (show ¬ (false = true) by decide)] at H
            obtain rfl := Option.some.inj H
            obtain ⟨hcz64_0, hcz64_1, hcz64_2, hcz64_3, hcz64_4, hcz64_5, hcz64_6, hcz64_7, hcz64_8, hcz64_9⟩ := cells10 BK198.out
            go_wp2_with (first | (go_at_call 35; (with_reducible refine (cleatref02_Is.calls kj35 a0_6 true _ A56.out).mono ?_); rintro e w' ⟨rfl, ⟨nd, rfl⟩⟩) | ((with_reducible refine gate_callee (f := 36) rfl ?_); refine goesL_ (some 107) rfl rfl Tryd.func36 (by kernel_rfl) rfl #[.int .i64 t199, .int .i64 a0_5] rfl (by (try simp only [List.map_toArray, List.map_cons, List.map_nil]); first | done | rfl | (simp only [List.length_drop, List.length_take]; rfl)) ?_; (with_reducible refine (cleatref04_imm.calls kj35 t199 a0_5 true _ A58.out).mono ?_); rintro e w' ⟨rfl, ⟨nd, rfl⟩⟩; refine ⟨_, rfl, ?_⟩) | (go_at_call 37; (with_reducible refine (cleatref04_amount.calls t199 a0_8 true _ A60.out).mono ?_); rintro e w' ⟨rfl, ⟨nd, rfl⟩⟩))
            go_ret
            exact ⟨by first | rfl | (simp [errW_none, errW_some] <;> rfl) | (simp [*, errW_none, errW_some] <;> rfl), by repeat (first | (with_reducible first | exact HB.out | apply below_alloc | apply pw_below_drewN | apply below_drew1 | refine below_set ?_ GE198.out) | exact HB.out)⟩
          ·replace c61 := Bool.eq_false_iff.mpr c61
           subst c61
           rw [if_neg (show ¬ (false = true) by decide)] at H
           obtain rfl := Option.some.inj H
           obtain ⟨hcz65_0, hcz65_1, hcz65_2, hcz65_3, hcz65_4, hcz65_5, hcz65_6, hcz65_7, hcz65_8, hcz65_9⟩ := cells10 BK198.out
           go_wp2_with (first | (go_at_call 35; (with_reducible refine (cleatref02_Is.calls kj35 a0_6 true _ A56.out).mono ?_); rintro e w' ⟨rfl, ⟨nd, rfl⟩⟩) | ((with_reducible refine gate_callee (f := 36) rfl ?_); refine goesL_ (some 107) rfl rfl Tryd.func36 (by kernel_rfl) rfl #[.int .i64 t199, .int .i64 a0_5] rfl (by (try simp only [List.map_toArray, List.map_cons, List.map_nil]); first | done | rfl | (simp only [List.length_drop, List.length_take]; rfl)) ?_; (with_reducible refine (cleatref04_imm.calls kj35 t199 a0_5 true _ A58.out).mono ?_); rintro e w' ⟨rfl, ⟨nd, rfl⟩⟩; refine ⟨_, rfl, ?_⟩) | (go_at_call 37; (with_reducible refine (cleatref04_amount.calls t199 a0_8 false _ A60.out).mono ?_); rintro e w' ⟨rfl, ⟨nd, rfl⟩⟩))
           go_ret
           exact ⟨by first | rfl | (simp [errW_none, errW_some] <;> rfl) | (simp [*, errW_none, errW_some] <;> rfl), by repeat (first | (with_reducible first | exact HB.out | apply below_alloc | apply pw_below_drewN | apply below_drew1 | refine below_set ?_ GE198.out) | exact HB.out)⟩
         ·replace c59 := Bool.eq_false_iff.mpr c59
          subst c59
          rw [if_neg (show ¬ (false = true) by decide)] at H
          obtain rfl := Option.some.inj H
          obtain ⟨hcz66_0, hcz66_1, hcz66_2, hcz66_3, hcz66_4, hcz66_5, hcz66_6, hcz66_7, hcz66_8, hcz66_9⟩ := cells10 BK198.out
          go_wp2_with (first | (go_at_call 35; (with_reducible refine (cleatref02_Is.calls kj35 a0_6 true _ A56.out).mono ?_); rintro e w' ⟨rfl, ⟨nd, rfl⟩⟩) | ((with_reducible refine gate_callee (f := 36) rfl ?_); refine goesL_ (some 107) rfl rfl Tryd.func36 (by kernel_rfl) rfl #[.int .i64 t199, .int .i64 a0_5] rfl (by (try simp only [List.map_toArray, List.map_cons, List.map_nil]); first | done | rfl | (simp only [List.length_drop, List.length_take]; rfl)) ?_; (with_reducible refine (cleatref04_imm.calls kj35 t199 a0_5 false _ A58.out).mono ?_); rintro e w' ⟨rfl, ⟨nd, rfl⟩⟩; refine ⟨_, rfl, ?_⟩))
          go_ret
          exact ⟨by first | rfl | (simp [errW_none, errW_some] <;> rfl) | (simp [*, errW_none, errW_some] <;> rfl), by repeat (first | (with_reducible first | exact HB.out | apply below_alloc | apply pw_below_drewN | apply below_drew1 | refine below_set ?_ GE198.out) | exact HB.out)⟩
        ·replace c57 := Bool.eq_false_iff.mpr c57
         subst c57
         rw [if_neg (show ¬ (false = true) by decide)] at H
         replace H := Option.bind_eq_some_iff.mp H
         obtain ⟨t207, A670, H⟩ := H
         replace H : (if t207 = true then ((cleatref04_amount.f t199 a0_8).bind fun t208 => (if t208 = true then (if x4_35 = true then (some false) else (some false)) else (some false))) else (some false)) = some r := H
         have A67 := Aside0.mk A670
         clear A670
         by_cases c68 : t207 = true
         ·subst c68
          rw [if_pos rfl] at H
          replace H := Option.bind_eq_some_iff.mp H
          obtain ⟨t208, A690, H⟩ := H
          replace H : (if t208 = true then (if x4_35 = true then (some false) else (some false)) else (some false)) = some r := H
          have A69 := Aside0.mk A690
          clear A690
          by_cases c70 : t208 = true
          ·subst c70
           rw [if_pos rfl] at H
           by_cases c71 : x4_35 = true
           ·subst c71
            rw [if_pos rfl] at H
            obtain rfl := Option.some.inj H
            obtain ⟨hcz72_0, hcz72_1, hcz72_2, hcz72_3, hcz72_4, hcz72_5, hcz72_6, hcz72_7, hcz72_8, hcz72_9⟩ := cells10 BK198.out
            go_wp2_with (first | (go_at_call 35; (with_reducible refine (cleatref02_Is.calls kj35 a0_6 false _ A56.out).mono ?_); rintro e w' ⟨rfl, ⟨nd, rfl⟩⟩) | ((with_reducible refine gate_callee (f := 36) rfl ?_); refine goesL_ (some 107) rfl rfl Tryd.func36 (by kernel_rfl) rfl #[.int .i64 t199, .int .i64 a0_5] rfl (by (try simp only [List.map_toArray, List.map_cons, List.map_nil]); first | done | rfl | (simp only [List.length_drop, List.length_take]; rfl)) ?_; (with_reducible refine (cleatref04_imm.calls kj35 t199 a0_5 true _ A67.out).mono ?_); rintro e w' ⟨rfl, ⟨nd, rfl⟩⟩; refine ⟨_, rfl, ?_⟩) | (go_at_call 37; (with_reducible refine (cleatref04_amount.calls t199 a0_8 true _ A69.out).mono ?_); rintro e w' ⟨rfl, ⟨nd, rfl⟩⟩))
            go_ret
            exact ⟨by first | rfl | (simp [errW_none, errW_some] <;> rfl) | (simp [*, errW_none, errW_some] <;> rfl), by repeat (first | (with_reducible first | exact HB.out | apply below_alloc | apply pw_below_drewN | apply below_drew1 | refine below_set ?_ GE198.out) | exact HB.out)⟩
           ·replace c71 := Bool.eq_false_iff.mpr c71
            subst c71
            rw [if_neg (show ¬ (false = true) by decide)] at H
            obtain rfl := Option.some.inj H
            obtain ⟨hcz73_0, hcz73_1, hcz73_2, hcz73_3, hcz73_4, hcz73_5, hcz73_6, hcz73_7, hcz73_8, hcz73_9⟩ := cells10 BK198.out
            go_wp2_with (first | (go_at_call 35; (with_reducible refine (cleatref02_Is.calls kj35 a0_6 false _ A56.out).mono ?_); rintro e w' ⟨rfl, ⟨nd, rfl⟩⟩) | ((with_reducible refine gate_callee (f := 36) rfl ?_); refine goesL_ (some 107) rfl rfl Tryd.func36 (by kernel_rfl) rfl #[.int .i64 t199, .int .i64 a0_5] rfl (by (try simp only [List.map_toArray, List.map_cons, List.map_nil]); first | done | rfl | (simp only [List.length_drop, List.length_take]; rfl)) ?_; (with_reducible refine (cleatref04_imm.calls kj35 t199 a0_5 true _ A67.out).mono ?_); rintro e w' ⟨rfl, ⟨nd, rfl⟩⟩; refine ⟨_, rfl, ?_⟩) | (go_at_call 37; (with_reducible refine (cleatref04_amount.calls t199 a0_8 true _ A69.out).mono ?_); rintro e w' ⟨rfl, ⟨nd, rfl⟩⟩))
            go_ret
            exact ⟨by first | rfl | (simp [errW_none, errW_some] <;> rfl) | (simp [*, errW_none, errW_some] <;> rfl), by repeat (first | (with_reducible first | exact HB.out | apply below_alloc | apply pw_below_drewN | apply below_drew1 | refine below_set ?_ GE198.out) | exact HB.out)⟩
          ·replace c70 := Bool.eq_false_iff.mpr c70
           subst c70
           rw [if_neg (show ¬ (false = true) by decide)] at H
           obtain rfl := Option.some.inj H
           obtain ⟨hcz74_0, hcz74_1, hcz74_2, hcz74_3, hcz74_4, hcz74_5, hcz74_6, hcz74_7, hcz74_8, hcz74_9⟩ := cells10 BK198.out
           go_wp2_with (first | (go_at_call 35; (with_reducible refine (cleatref02_Is.calls kj35 a0_6 false _ A56.out).mono ?_); rintro e w' ⟨rfl, ⟨nd, rfl⟩⟩) | ((with_reducible refine gate_callee (f := 36) rfl ?_); refine goesL_ (some 107) rfl rfl Tryd.func36 (by kernel_rfl) rfl #[.int .i64 t199, .int .i64 a0_5] rfl (by (try simp only [List.map_toArray, List.map_cons, List.map_nil]); first | done | rfl | (simp only [List.length_drop, List.length_take]; rfl)) ?_; (with_reducible refine (cleatref04_imm.calls kj35 t199 a0_5 true _ A67.out).mono ?_); rintro e w' ⟨rfl, ⟨nd, rfl⟩⟩; refine ⟨_, rfl, ?_⟩) | (go_at_call 37; (with_reducible refine (cleatref04_amount.calls t199 a0_8 false _ A69.out).mono ?_); rintro e w' ⟨rfl, ⟨nd, rfl⟩⟩))
           go_ret
           exact ⟨by first | rfl | (simp [errW_none, errW_some] <;> rfl) | (simp [*, errW_none, errW_some] <;> rfl), by repeat (first | (with_reducible first | exact HB.out | apply below_alloc | apply pw_below_drewN | apply below_drew1 | refine below_set ?_ GE198.out) | exact HB.out)⟩
         ·replace c68 := Bool.eq_false_iff.mpr c68
          subst c68
          rw [if_neg (show ¬ (false = true) by decide)] at H
          obtain rfl := Option.some.inj H
          obtain ⟨hcz75_0, hcz75_1, hcz75_2, hcz75_3, hcz75_4, hcz75_5, hcz75_6, hcz75_7, hcz75_8, hcz75_9⟩ := cells10 BK198.out
          go_wp2_with (first | (go_at_call 35; (with_reducible refine (cleatref02_Is.calls kj35 a0_6 false _ A56.out).mono ?_); rintro e w' ⟨rfl, ⟨nd, rfl⟩⟩) | ((with_reducible refine gate_callee (f := 36) rfl ?_); refine goesL_ (some 107) rfl rfl Tryd.func36 (by kernel_rfl) rfl #[.int .i64 t199, .int .i64 a0_5] rfl (by (try simp only [List.map_toArray, List.map_cons, List.map_nil]); first | done | rfl | (simp only [List.length_drop, List.length_take]; rfl)) ?_; (with_reducible refine (cleatref04_imm.calls kj35 t199 a0_5 false _ A67.out).mono ?_); rintro e w' ⟨rfl, ⟨nd, rfl⟩⟩; refine ⟨_, rfl, ?_⟩))
          go_ret
          exact ⟨by first | rfl | (simp [errW_none, errW_some] <;> rfl) | (simp [*, errW_none, errW_some] <;> rfl), by repeat (first | (with_reducible first | exact HB.out | apply below_alloc | apply pw_below_drewN | apply below_drew1 | refine below_set ?_ GE198.out) | exact HB.out)⟩
       ·rw [if_neg c55] at H
        have c55b0 : (t199 == 3) = false := beq_eq_false_iff_ne.mpr c55
        have c55b1 : (t199 != 3) = true := bne_iff_ne.mpr c55
        replace H := Option.bind_eq_some_iff.mp H
        obtain ⟨t209, A760, H⟩ := H
        replace H : (if t209 = true then ((cleatref04_amount.f t199 a0_8).bind fun t210 => (if t210 = true then (if x4_35 = true then (some (a0_6 == 0)) else (some false)) else (some false))) else (some false)) = some r := H
        have A76 := Aside0.mk A760
        clear A760
        by_cases c77 : t209 = true
        ·subst c77
         rw [if_pos rfl] at H
         replace H := Option.bind_eq_some_iff.mp H
         obtain ⟨t210, A780, H⟩ := H
         replace H : (if t210 = true then (if x4_35 = true then (some (a0_6 == 0)) else (some false)) else (some false)) = some r := H
         have A78 := Aside0.mk A780
         clear A780
         by_cases c79 : t210 = true
         ·subst c79
          rw [if_pos rfl] at H
          by_cases c80 : x4_35 = true
          ·subst c80
           rw [if_pos rfl] at H
           obtain rfl := Option.some.inj H
           obtain ⟨hcz81_0, hcz81_1, hcz81_2, hcz81_3, hcz81_4, hcz81_5, hcz81_6, hcz81_7, hcz81_8, hcz81_9⟩ := cells10 BK198.out
           go_wp2_with (first | ((with_reducible refine gate_callee (f := 36) rfl ?_); refine goesL_ (some 107) rfl rfl Tryd.func36 (by kernel_rfl) rfl #[.int .i64 t199, .int .i64 a0_5] rfl (by (try simp only [List.map_toArray, List.map_cons, List.map_nil]); first | done | rfl | (simp only [List.length_drop, List.length_take]; rfl)) ?_; (with_reducible refine (cleatref04_imm.calls kj35 t199 a0_5 true _ A76.out).mono ?_); rintro e w' ⟨rfl, ⟨nd, rfl⟩⟩; refine ⟨_, rfl, ?_⟩) | (go_at_call 37; (with_reducible refine (cleatref04_amount.calls t199 a0_8 true _ A78.out).mono ?_); rintro e w' ⟨rfl, ⟨nd, rfl⟩⟩))
           go_ret
           exact ⟨by first | rfl | (simp [errW_none, errW_some] <;> rfl) | (simp [*, errW_none, errW_some] <;> rfl), by repeat (first | (with_reducible first | exact HB.out | apply below_alloc | apply pw_below_drewN | apply below_drew1 | refine below_set ?_ GE198.out) | exact HB.out)⟩
          ·replace c80 := Bool.eq_false_iff.mpr c80
           subst c80
           rw [if_neg (show ¬ (false = true) by decide)] at H
           obtain rfl := Option.some.inj H
           obtain ⟨hcz82_0, hcz82_1, hcz82_2, hcz82_3, hcz82_4, hcz82_5, hcz82_6, hcz82_7, hcz82_8, hcz82_9⟩ := cells10 BK198.out
           go_wp2_with (first | ((with_reducible refine gate_callee (f := 36) rfl ?_); refine goesL_ (some 107) rfl rfl Tryd.func36 (by kernel_rfl) rfl #[.int .i64 t199, .int .i64 a0_5] rfl (by (try simp only [List.map_toArray, List.map_cons, List.map_nil]); first | done | rfl | (simp only [List.length_drop, List.length_take]; rfl)) ?_; (with_reducible refine (cleatref04_imm.calls kj35 t199 a0_5 true _ A76.out).mono ?_); rintro e w' ⟨rfl, ⟨nd, rfl⟩⟩; refine ⟨_, rfl, ?_⟩) | (go_at_call 37; (with_reducible refine (cleatref04_amount.calls t199 a0_8 true _ A78.out).mono ?_); rintro e w' ⟨rfl, ⟨nd, rfl⟩⟩))
           go_ret
           exact ⟨by first | rfl | (simp [errW_none, errW_some] <;> rfl) | (simp [*, errW_none, errW_some] <;> rfl), by repeat (first | (with_reducible first | exact HB.out | apply below_alloc | apply pw_below_drewN | apply below_drew1 | refine below_set ?_ GE198.out) | exact HB.out)⟩
         ·replace c79 := Bool.eq_false_iff.mpr c79
          subst c79
          rw [if_neg (show ¬ (false = true) by decide)] at H
          obtain rfl := Option.some.inj H
          obtain ⟨hcz83_0, hcz83_1, hcz83_2, hcz83_3, hcz83_4, hcz83_5, hcz83_6, hcz83_7, hcz83_8, hcz83_9⟩ := cells10 BK198.out
          go_wp2_with (first | ((with_reducible refine gate_callee (f := 36) rfl ?_); refine goesL_ (some 107) rfl rfl Tryd.func36 (by kernel_rfl) rfl #[.int .i64 t199, .int .i64 a0_5] rfl (by (try simp only [List.map_toArray, List.map_cons, List.map_nil]); first | done | rfl | (simp only [List.length_drop, List.length_take]; rfl)) ?_; (with_reducible refine (cleatref04_imm.calls kj35 t199 a0_5 true _ A76.out).mono ?_); rintro e w' ⟨rfl, ⟨nd, rfl⟩⟩; refine ⟨_, rfl, ?_⟩) | (go_at_call 37; (with_reducible refine (cleatref04_amount.calls t199 a0_8 false _ A78.out).mono ?_); rintro e w' ⟨rfl, ⟨nd, rfl⟩⟩))
          go_ret
          exact ⟨by first | rfl | (simp [errW_none, errW_some] <;> rfl) | (simp [*, errW_none, errW_some] <;> rfl), by repeat (first | (with_reducible first | exact HB.out | apply below_alloc | apply pw_below_drewN | apply below_drew1 | refine below_set ?_ GE198.out) | exact HB.out)⟩
        ·replace c77 := Bool.eq_false_iff.mpr c77
         subst c77
         rw [if_neg (show ¬ (false = true) by decide)] at H
         obtain rfl := Option.some.inj H
         obtain ⟨hcz84_0, hcz84_1, hcz84_2, hcz84_3, hcz84_4, hcz84_5, hcz84_6, hcz84_7, hcz84_8, hcz84_9⟩ := cells10 BK198.out
         go_wp2_with (first | ((with_reducible refine gate_callee (f := 36) rfl ?_); refine goesL_ (some 107) rfl rfl Tryd.func36 (by kernel_rfl) rfl #[.int .i64 t199, .int .i64 a0_5] rfl (by (try simp only [List.map_toArray, List.map_cons, List.map_nil]); first | done | rfl | (simp only [List.length_drop, List.length_take]; rfl)) ?_; (with_reducible refine (cleatref04_imm.calls kj35 t199 a0_5 false _ A76.out).mono ?_); rintro e w' ⟨rfl, ⟨nd, rfl⟩⟩; refine ⟨_, rfl, ?_⟩))
         go_ret
         exact ⟨by first | rfl | (simp [errW_none, errW_some] <;> rfl) | (simp [*, errW_none, errW_some] <;> rfl), by repeat (first | (with_reducible first | exact HB.out | apply below_alloc | apply pw_below_drewN | apply below_drew1 | refine below_set ?_ GE198.out) | exact HB.out)⟩
      ·rw [if_neg c54] at H
       have c54b0 : (a0_9 == 0) = false := beq_eq_false_iff_ne.mpr c54
       have c54b1 : (a0_9 != 0) = true := bne_iff_ne.mpr c54
       replace H := Option.bind_eq_some_iff.mp H
       obtain ⟨t211, A850, H⟩ := H
       replace H : (if t211 = true then (if a0_9 ≥ 0 then (if t199 = 3 then ((cleatref02_Is.f kj35 a0_6).bind fun t212 => (if t212 = true then ((cleatref04_imm.f kj35 t199 a0_5).bind fun t213 => (if t213 = true then ((cleatref04_amount.f t199 a0_8).bind fun t214 => (if t214 = true then (if x4_35 = true then (if a0_9 ≤ 13 then (some true) else (some false)) else (some false)) else (some false))) else (some false))) else ((cleatref04_imm.f kj35 t199 a0_5).bind fun t215 => (if t215 = true then ((cleatref04_amount.f t199 a0_8).bind fun t216 => (if t216 = true then (if x4_35 = true then (if a0_9 ≤ 13 then (some false) else (some false)) else (some false)) else (some false))) else (some false))))) else ((cleatref04_imm.f kj35 t199 a0_5).bind fun t217 => (if t217 = true then ((cleatref04_amount.f t199 a0_8).bind fun t218 => (if t218 = true then (if x4_35 = true then (if a0_9 ≤ 13 then (some (a0_6 == 0)) else (some false)) else (some false)) else (some false))) else (some false)))) else (if t199 = 3 then ((cleatref02_Is.f kj35 a0_6).bind fun t219 => (if t219 = true then ((cleatref04_imm.f kj35 t199 a0_5).bind fun t220 => (if t220 = true then ((cleatref04_amount.f t199 a0_8).bind fun t221 => (if t221 = true then (if x4_35 = true then (some false) else (some false)) else (some false))) else (some false))) else ((cleatref04_imm.f kj35 t199 a0_5).bind fun t222 => (if t222 = true then ((cleatref04_amount.f t199 a0_8).bind fun t223 => (if t223 = true then (if x4_35 = true then (some false) else (some false)) else (some false))) else (some false))))) else ((cleatref04_imm.f kj35 t199 a0_5).bind fun t224 => (if t224 = true then ((cleatref04_amount.f t199 a0_8).bind fun t225 => (if t225 = true then (if x4_35 = true then (some false) else (some false)) else (some false))) else (some false))))) else (if t199 = 3 then ((cleatref02_Is.f kj35 a0_6).bind fun t226 => (if t226 = true then ((cleatref04_imm.f kj35 t199 a0_5).bind fun t227 => (if t227 = true then ((cleatref04_amount.f t199 a0_8).bind fun t228 => (if t228 = true then (if x4_35 = true then (some false) else (some false)) else (some false))) else (some false))) else ((cleatref04_imm.f kj35 t199 a0_5).bind fun t229 => (if t229 = true then ((cleatref04_amount.f t199 a0_8).bind fun t230 => (if t230 = true then (if x4_35 = true then (some false) else (some false)) else (some false))) else (some false))))) else ((cleatref04_imm.f kj35 t199 a0_5).bind fun t231 => (if t231 = true then ((cleatref04_amount.f t199 a0_8).bind fun t232 => (if t232 = true then (if x4_35 = true then (some false) else (some false)) else (some false))) else (some false))))) = some r := H
       have A85 := Aside0.mk A850
       clear A850
       by_cases c86 : t211 = true
       ·subst c86
        rw [if_pos rfl] at H
        by_cases c87 : a0_9 ≥ 0
        ·rw [if_pos c87] at H
         have c87b0 : decide (0 ≤ a0_9) = true := decide_eq_true c87
         clear c87
         by_cases c88 : t199 = 3
         ·rw [if_pos c88] at H
          have c88b0 : (t199 == 3) = true := beq_iff_eq.mpr c88
          have c88b1 : (t199 != 3) = false := bne_eq_false_iff_eq.mpr c88
          clear c88
          replace H := Option.bind_eq_some_iff.mp H
          obtain ⟨t212, A890, H⟩ := H
          replace H : (if t212 = true then ((cleatref04_imm.f kj35 t199 a0_5).bind fun t213 => (if t213 = true then ((cleatref04_amount.f t199 a0_8).bind fun t214 => (if t214 = true then (if x4_35 = true then (if a0_9 ≤ 13 then (some true) else (some false)) else (some false)) else (some false))) else (some false))) else ((cleatref04_imm.f kj35 t199 a0_5).bind fun t215 => (if t215 = true then ((cleatref04_amount.f t199 a0_8).bind fun t216 => (if t216 = true then (if x4_35 = true then (if a0_9 ≤ 13 then (some false) else (some false)) else (some false)) else (some false))) else (some false)))) = some r := H
          have A89 := Aside0.mk A890
          clear A890
          by_cases c90 : t212 = true
          ·subst c90
           rw [if_pos rfl] at H
           replace H := Option.bind_eq_some_iff.mp H
           obtain ⟨t213, A910, H⟩ := H
           replace H : (if t213 = true then ((cleatref04_amount.f t199 a0_8).bind fun t214 => (if t214 = true then (if x4_35 = true then (if a0_9 ≤ 13 then (some true) else (some false)) else (some false)) else (some false))) else (some false)) = some r := H
           have A91 := Aside0.mk A910
           clear A910
           by_cases c92 : t213 = true
           ·subst c92
            rw [if_pos rfl] at H
            replace H := Option.bind_eq_some_iff.mp H
            obtain ⟨t214, A930, H⟩ := H
            replace H : (if t214 = true then (if x4_35 = true then (if a0_9 ≤ 13 then (some true) else (some false)) else (some false)) else (some false)) = some r := H
            have A93 := Aside0.mk A930
            clear A930
            by_cases c94 : t214 = true
            ·subst c94
             rw [if_pos rfl] at H
             by_cases c95 : x4_35 = true
             ·subst c95
              rw [if_pos rfl] at H
              by_cases c96 : a0_9 ≤ 13
              ·rw [if_pos c96] at H
               have c96b0 : decide (a0_9 ≤ 13) = true := decide_eq_true c96
               clear c96
               obtain rfl := Option.some.inj H
               obtain ⟨hcz97_0, hcz97_1, hcz97_2, hcz97_3, hcz97_4, hcz97_5, hcz97_6, hcz97_7, hcz97_8, hcz97_9⟩ := cells10 BK198.out
               go_wp2_with (first | (go_at_call 29; (with_reducible refine (cleatref04_Has.calls kj35 t199 (⟨#[99]⟩ : ByteArray) true _ A85.out).mono ?_); rintro e w98 ⟨rfl, hb⟩; have n0_ := Aside0.mk (blk_below (g := gb198) (o := .cells #[.int .i64 a0_0, .int .i64 a0_1, .int .i64 a0_2, .int .i64 a0_3, .int .i64 a0_4, .int .i64 a0_5, .int .u64 a0_6, .int .i64 a0_7, .int .i64 a0_8, .int .i64 a0_9] 24 (0, 0)) (by (with_reducible repeat (first | refine blk_drewN ?_ _ | refine blk_drew ?_ | refine blk_alloc ?_ _)); exact BK198.out) hb); have n1_ := Aside0.mk (below_step (by repeat (first | (with_reducible first | exact HB.out | apply below_alloc | apply pw_below_drewN | apply below_drew1 | refine below_set ?_ GE198.out) | exact HB.out)) hb); clear BK198; clear HB; have BK198 := n0_; have HB := n1_; clear n0_ n1_; (try clear hb); (try clear hb2); (try clear hk); (try clear hi); obtain ⟨hcz99_0, hcz99_1, hcz99_2, hcz99_3, hcz99_4, hcz99_5, hcz99_6, hcz99_7, hcz99_8, hcz99_9⟩ := cells10 BK198.out) | (go_at_call 35; (with_reducible refine (cleatref02_Is.calls kj35 a0_6 true _ A89.out).mono ?_); rintro e w' ⟨rfl, ⟨nd, rfl⟩⟩) | ((with_reducible refine gate_callee (f := 36) rfl ?_); refine goesL_ (some 107) rfl rfl Tryd.func36 (by kernel_rfl) rfl #[.int .i64 t199, .int .i64 a0_5] rfl (by (try simp only [List.map_toArray, List.map_cons, List.map_nil]); first | done | rfl | (simp only [List.length_drop, List.length_take]; rfl)) ?_; (with_reducible refine (cleatref04_imm.calls kj35 t199 a0_5 true _ A91.out).mono ?_); rintro e w' ⟨rfl, ⟨nd, rfl⟩⟩; refine ⟨_, rfl, ?_⟩) | (go_at_call 37; (with_reducible refine (cleatref04_amount.calls t199 a0_8 true _ A93.out).mono ?_); rintro e w' ⟨rfl, ⟨nd, rfl⟩⟩))
               go_ret
               exact ⟨by first | rfl | (simp [errW_none, errW_some] <;> rfl) | (simp [*, errW_none, errW_some] <;> rfl), by repeat (first | (with_reducible first | exact HB.out | apply below_alloc | apply pw_below_drewN | apply below_drew1 | refine below_set ?_ GE198.out) | exact HB.out)⟩
              ·rw [if_neg c96] at H
               have c96b0 : decide (a0_9 ≤ 13) = false := decide_eq_false c96
               clear c96
               obtain rfl := Option.some.inj H
               obtain ⟨hcz100_0, hcz100_1, hcz100_2, hcz100_3, hcz100_4, hcz100_5, hcz100_6, hcz100_7, hcz100_8, hcz100_9⟩ := cells10 BK198.out
               go_wp2_with (first | (go_at_call 29; (with_reducible refine (cleatref04_Has.calls kj35 t199 (⟨#[99]⟩ : ByteArray) true _ A85.out).mono ?_); rintro e w101 ⟨rfl, hb⟩; have n0_ := Aside0.mk (blk_below (g := gb198) (o := .cells #[.int .i64 a0_0, .int .i64 a0_1, .int .i64 a0_2, .int .i64 a0_3, .int .i64 a0_4, .int .i64 a0_5, .int .u64 a0_6, .int .i64 a0_7, .int .i64 a0_8, .int .i64 a0_9] 24 (0, 0)) (by (with_reducible repeat (first | refine blk_drewN ?_ _ | refine blk_drew ?_ | refine blk_alloc ?_ _)); exact BK198.out) hb); have n1_ := Aside0.mk (below_step (by repeat (first | (with_reducible first | exact HB.out | apply below_alloc | apply pw_below_drewN | apply below_drew1 | refine below_set ?_ GE198.out) | exact HB.out)) hb); clear BK198; clear HB; have BK198 := n0_; have HB := n1_; clear n0_ n1_; (try clear hb); (try clear hb2); (try clear hk); (try clear hi); obtain ⟨hcz102_0, hcz102_1, hcz102_2, hcz102_3, hcz102_4, hcz102_5, hcz102_6, hcz102_7, hcz102_8, hcz102_9⟩ := cells10 BK198.out) | (go_at_call 35; (with_reducible refine (cleatref02_Is.calls kj35 a0_6 true _ A89.out).mono ?_); rintro e w' ⟨rfl, ⟨nd, rfl⟩⟩) | ((with_reducible refine gate_callee (f := 36) rfl ?_); refine goesL_ (some 107) rfl rfl Tryd.func36 (by kernel_rfl) rfl #[.int .i64 t199, .int .i64 a0_5] rfl (by (try simp only [List.map_toArray, List.map_cons, List.map_nil]); first | done | rfl | (simp only [List.length_drop, List.length_take]; rfl)) ?_; (with_reducible refine (cleatref04_imm.calls kj35 t199 a0_5 true _ A91.out).mono ?_); rintro e w' ⟨rfl, ⟨nd, rfl⟩⟩; refine ⟨_, rfl, ?_⟩) | (go_at_call 37; (with_reducible refine (cleatref04_amount.calls t199 a0_8 true _ A93.out).mono ?_); rintro e w' ⟨rfl, ⟨nd, rfl⟩⟩))
               go_ret
               exact ⟨by first | rfl | (simp [errW_none, errW_some] <;> rfl) | (simp [*, errW_none, errW_some] <;> rfl), by repeat (first | (with_reducible first | exact HB.out | apply below_alloc | apply pw_below_drewN | apply below_drew1 | refine below_set ?_ GE198.out) | exact HB.out)⟩
             ·replace c95 := Bool.eq_false_iff.mpr c95
              subst c95
              rw [if_neg (show ¬ (false = true) by decide)] at H
              obtain rfl := Option.some.inj H
              obtain ⟨hcz103_0, hcz103_1, hcz103_2, hcz103_3, hcz103_4, hcz103_5, hcz103_6, hcz103_7, hcz103_8, hcz103_9⟩ := cells10 BK198.out
              go_wp2_with (first | (go_at_call 29; (with_reducible refine (cleatref04_Has.calls kj35 t199 (⟨#[99]⟩ : ByteArray) true _ A85.out).mono ?_); rintro e w104 ⟨rfl, hb⟩; have n0_ := Aside0.mk (blk_below (g := gb198) (o := .cells #[.int .i64 a0_0, .int .i64 a0_1, .int .i64 a0_2, .int .i64 a0_3, .int .i64 a0_4, .int .i64 a0_5, .int .u64 a0_6, .int .i64 a0_7, .int .i64 a0_8, .int .i64 a0_9] 24 (0, 0)) (by (with_reducible repeat (first | refine blk_drewN ?_ _ | refine blk_drew ?_ | refine blk_alloc ?_ _)); exact BK198.out) hb); have n1_ := Aside0.mk (below_step (by repeat (first | (with_reducible first | exact HB.out | apply below_alloc | apply pw_below_drewN | apply below_drew1 | refine below_set ?_ GE198.out) | exact HB.out)) hb); clear BK198; clear HB; have BK198 := n0_; have HB := n1_; clear n0_ n1_; (try clear hb); (try clear hb2); (try clear hk); (try clear hi); obtain ⟨hcz105_0, hcz105_1, hcz105_2, hcz105_3, hcz105_4, hcz105_5, hcz105_6, hcz105_7, hcz105_8, hcz105_9⟩ := cells10 BK198.out) | (go_at_call 35; (with_reducible refine (cleatref02_Is.calls kj35 a0_6 true _ A89.out).mono ?_); rintro e w' ⟨rfl, ⟨nd, rfl⟩⟩) | ((with_reducible refine gate_callee (f := 36) rfl ?_); refine goesL_ (some 107) rfl rfl Tryd.func36 (by kernel_rfl) rfl #[.int .i64 t199, .int .i64 a0_5] rfl (by (try simp only [List.map_toArray, List.map_cons, List.map_nil]); first | done | rfl | (simp only [List.length_drop, List.length_take]; rfl)) ?_; (with_reducible refine (cleatref04_imm.calls kj35 t199 a0_5 true _ A91.out).mono ?_); rintro e w' ⟨rfl, ⟨nd, rfl⟩⟩; refine ⟨_, rfl, ?_⟩) | (go_at_call 37; (with_reducible refine (cleatref04_amount.calls t199 a0_8 true _ A93.out).mono ?_); rintro e w' ⟨rfl, ⟨nd, rfl⟩⟩))
              go_ret
              exact ⟨by first | rfl | (simp [errW_none, errW_some] <;> rfl) | (simp [*, errW_none, errW_some] <;> rfl), by repeat (first | (with_reducible first | exact HB.out | apply below_alloc | apply pw_below_drewN | apply below_drew1 | refine below_set ?_ GE198.out) | exact HB.out)⟩
            ·replace c94 := Bool.eq_false_iff.mpr c94
             subst c94
             rw [if_neg (show ¬ (false = true) by decide)] at H
             obtain rfl := Option.some.inj H
             obtain ⟨hcz106_0, hcz106_1, hcz106_2, hcz106_3, hcz106_4, hcz106_5, hcz106_6, hcz106_7, hcz106_8, hcz106_9⟩ := cells10 BK198.out
             go_wp2_with (first | (go_at_call 29; (with_reducible refine (cleatref04_Has.calls kj35 t199 (⟨#[99]⟩ : ByteArray) true _ A85.out).mono ?_); rintro e w107 ⟨rfl, hb⟩; have n0_ := Aside0.mk (blk_below (g := gb198) (o := .cells #[.int .i64 a0_0, .int .i64 a0_1, .int .i64 a0_2, .int .i64 a0_3, .int .i64 a0_4, .int .i64 a0_5, .int .u64 a0_6, .int .i64 a0_7, .int .i64 a0_8, .int .i64 a0_9] 24 (0, 0)) (by (with_reducible repeat (first | refine blk_drewN ?_ _ | refine blk_drew ?_ | refine blk_alloc ?_ _)); exact BK198.out) hb); have n1_ := Aside0.mk (below_step (by repeat (first | (with_reducible first | exact HB.out | apply below_alloc | apply pw_below_drewN | apply below_drew1 | refine below_set ?_ GE198.out) | exact HB.out)) hb); clear BK198; clear HB; have BK198 := n0_; have HB := n1_; clear n0_ n1_; (try clear hb); (try clear hb2); (try clear hk); (try clear hi); obtain ⟨hcz108_0, hcz108_1, hcz108_2, hcz108_3, hcz108_4, hcz108_5, hcz108_6, hcz108_7, hcz108_8, hcz108_9⟩ := cells10 BK198.out) | (go_at_call 35; (with_reducible refine (cleatref02_Is.calls kj35 a0_6 true _ A89.out).mono ?_); rintro e w' ⟨rfl, ⟨nd, rfl⟩⟩) | ((with_reducible refine gate_callee (f := 36) rfl ?_); refine goesL_ (some 107) rfl rfl Tryd.func36 (by kernel_rfl) rfl #[.int .i64 t199, .int .i64 a0_5] rfl (by (try simp only [List.map_toArray, List.map_cons, List.map_nil]); first | done | rfl | (simp only [List.length_drop, List.length_take]; rfl)) ?_; (with_reducible refine (cleatref04_imm.calls kj35 t199 a0_5 true _ A91.out).mono ?_); rintro e w' ⟨rfl, ⟨nd, rfl⟩⟩; refine ⟨_, rfl, ?_⟩) | (go_at_call 37; (with_reducible refine (cleatref04_amount.calls t199 a0_8 false _ A93.out).mono ?_); rintro e w' ⟨rfl, ⟨nd, rfl⟩⟩))
             go_ret
             exact ⟨by first | rfl | (simp [errW_none, errW_some] <;> rfl) | (simp [*, errW_none, errW_some] <;> rfl), by repeat (first | (with_reducible first | exact HB.out | apply below_alloc | apply pw_below_drewN | apply below_drew1 | refine below_set ?_ GE198.out) | exact HB.out)⟩
           ·replace c92 := Bool.eq_false_iff.mpr c92
            subst c92
            rw [if_neg (show ¬ (false = true) by decide)] at H
            obtain rfl := Option.some.inj H
            obtain ⟨hcz109_0, hcz109_1, hcz109_2, hcz109_3, hcz109_4, hcz109_5, hcz109_6, hcz109_7, hcz109_8, hcz109_9⟩ := cells10 BK198.out
            go_wp2_with (first | (go_at_call 29; (with_reducible refine (cleatref04_Has.calls kj35 t199 (⟨#[99]⟩ : ByteArray) true _ A85.out).mono ?_); rintro e w110 ⟨rfl, hb⟩; have n0_ := Aside0.mk (blk_below (g := gb198) (o := .cells #[.int .i64 a0_0, .int .i64 a0_1, .int .i64 a0_2, .int .i64 a0_3, .int .i64 a0_4, .int .i64 a0_5, .int .u64 a0_6, .int .i64 a0_7, .int .i64 a0_8, .int .i64 a0_9] 24 (0, 0)) (by (with_reducible repeat (first | refine blk_drewN ?_ _ | refine blk_drew ?_ | refine blk_alloc ?_ _)); exact BK198.out) hb); have n1_ := Aside0.mk (below_step (by repeat (first | (with_reducible first | exact HB.out | apply below_alloc | apply pw_below_drewN | apply below_drew1 | refine below_set ?_ GE198.out) | exact HB.out)) hb); clear BK198; clear HB; have BK198 := n0_; have HB := n1_; clear n0_ n1_; (try clear hb); (try clear hb2); (try clear hk); (try clear hi); obtain ⟨hcz111_0, hcz111_1, hcz111_2, hcz111_3, hcz111_4, hcz111_5, hcz111_6, hcz111_7, hcz111_8, hcz111_9⟩ := cells10 BK198.out) | (go_at_call 35; (with_reducible refine (cleatref02_Is.calls kj35 a0_6 true _ A89.out).mono ?_); rintro e w' ⟨rfl, ⟨nd, rfl⟩⟩) | ((with_reducible refine gate_callee (f := 36) rfl ?_); refine goesL_ (some 107) rfl rfl Tryd.func36 (by kernel_rfl) rfl #[.int .i64 t199, .int .i64 a0_5] rfl (by (try simp only [List.map_toArray, List.map_cons, List.map_nil]); first | done | rfl | (simp only [List.length_drop, List.length_take]; rfl)) ?_; (with_reducible refine (cleatref04_imm.calls kj35 t199 a0_5 false _ A91.out).mono ?_); rintro e w' ⟨rfl, ⟨nd, rfl⟩⟩; refine ⟨_, rfl, ?_⟩))
            go_ret
            exact ⟨by first | rfl | (simp [errW_none, errW_some] <;> rfl) | (simp [*, errW_none, errW_some] <;> rfl), by repeat (first | (with_reducible first | exact HB.out | apply below_alloc | apply pw_below_drewN | apply below_drew1 | refine below_set ?_ GE198.out) | exact HB.out)⟩
          ·replace c90 := Bool.eq_false_iff.mpr c90
           subst c90
           rw [if_neg (show ¬ (false = true) by decide)] at H
           replace H := Option.bind_eq_some_iff.mp H
           obtain ⟨t215, A1120, H⟩ := H
           replace H : (if t215 = true then ((cleatref04_amount.f t199 a0_8).bind fun t216 => (if t216 = true then (if x4_35 = true then (if a0_9 ≤ 13 then (some false) else (some false)) else (some false)) else (some false))) else (some false)) = some r := H
           have A112 := Aside0.mk A1120
           clear A1120
           by_cases c113 : t215 = true
           ·subst c113
            rw [if_pos rfl] at H
            replace H := Option.bind_eq_some_iff.mp H
            obtain ⟨t216, A1140, H⟩ := H
            replace H : (if t216 = true then (if x4_35 = true then (if a0_9 ≤ 13 then (some false) else (some false)) else (some false)) else (some false)) = some r := H
            have A114 := Aside0.mk A1140
            clear A1140
            by_cases c115 : t216 = true
            ·subst c115
             rw [if_pos rfl] at H
             by_cases c116 : x4_35 = true
             ·subst c116
              rw [if_pos rfl] at H
              by_cases c117 : a0_9 ≤ 13
              ·rw [if_pos c117] at H
               have c117b0 : decide (a0_9 ≤ 13) = true := decide_eq_true c117
               clear c117
               obtain rfl := Option.some.inj H
               obtain ⟨hcz118_0, hcz118_1, hcz118_2, hcz118_3, hcz118_4, hcz118_5, hcz118_6, hcz118_7, hcz118_8, hcz118_9⟩ := cells10 BK198.out
               go_wp2_with (first | (go_at_call 29; (with_reducible refine (cleatref04_Has.calls kj35 t199 (⟨#[99]⟩ : ByteArray) true _ A85.out).mono ?_); rintro e w119 ⟨rfl, hb⟩; have n0_ := Aside0.mk (blk_below (g := gb198) (o := .cells #[.int .i64 a0_0, .int .i64 a0_1, .int .i64 a0_2, .int .i64 a0_3, .int .i64 a0_4, .int .i64 a0_5, .int .u64 a0_6, .int .i64 a0_7, .int .i64 a0_8, .int .i64 a0_9] 24 (0, 0)) (by (with_reducible repeat (first | refine blk_drewN ?_ _ | refine blk_drew ?_ | refine blk_alloc ?_ _)); exact BK198.out) hb); have n1_ := Aside0.mk (below_step (by repeat (first | (with_reducible first | exact HB.out | apply below_alloc | apply pw_below_drewN | apply below_drew1 | refine below_set ?_ GE198.out) | exact HB.out)) hb); clear BK198; clear HB; have BK198 := n0_; have HB := n1_; clear n0_ n1_; (try clear hb); (try clear hb2); (try clear hk); (try clear hi); obtain ⟨hcz120_0, hcz120_1, hcz120_2, hcz120_3, hcz120_4, hcz120_5, hcz120_6, hcz120_7, hcz120_8, hcz120_9⟩ := cells10 BK198.out) | (go_at_call 35; (with_reducible refine (cleatref02_Is.calls kj35 a0_6 false _ A89.out).mono ?_); rintro e w' ⟨rfl, ⟨nd, rfl⟩⟩) | ((with_reducible refine gate_callee (f := 36) rfl ?_); refine goesL_ (some 107) rfl rfl Tryd.func36 (by kernel_rfl) rfl #[.int .i64 t199, .int .i64 a0_5] rfl (by (try simp only [List.map_toArray, List.map_cons, List.map_nil]); first | done | rfl | (simp only [List.length_drop, List.length_take]; rfl)) ?_; (with_reducible refine (cleatref04_imm.calls kj35 t199 a0_5 true _ A112.out).mono ?_); rintro e w' ⟨rfl, ⟨nd, rfl⟩⟩; refine ⟨_, rfl, ?_⟩) | (go_at_call 37; (with_reducible refine (cleatref04_amount.calls t199 a0_8 true _ A114.out).mono ?_); rintro e w' ⟨rfl, ⟨nd, rfl⟩⟩))
               go_ret
               exact ⟨by first | rfl | (simp [errW_none, errW_some] <;> rfl) | (simp [*, errW_none, errW_some] <;> rfl), by repeat (first | (with_reducible first | exact HB.out | apply below_alloc | apply pw_below_drewN | apply below_drew1 | refine below_set ?_ GE198.out) | exact HB.out)⟩
              ·rw [if_neg c117] at H
               have c117b0 : decide (a0_9 ≤ 13) = false := decide_eq_false c117
               clear c117
               obtain rfl := Option.some.inj H
               obtain ⟨hcz121_0, hcz121_1, hcz121_2, hcz121_3, hcz121_4, hcz121_5, hcz121_6, hcz121_7, hcz121_8, hcz121_9⟩ := cells10 BK198.out
               go_wp2_with (first | (go_at_call 29; (with_reducible refine (cleatref04_Has.calls kj35 t199 (⟨#[99]⟩ : ByteArray) true _ A85.out).mono ?_); rintro e w122 ⟨rfl, hb⟩; have n0_ := Aside0.mk (blk_below (g := gb198) (o := .cells #[.int .i64 a0_0, .int .i64 a0_1, .int .i64 a0_2, .int .i64 a0_3, .int .i64 a0_4, .int .i64 a0_5, .int .u64 a0_6, .int .i64 a0_7, .int .i64 a0_8, .int .i64 a0_9] 24 (0, 0)) (by (with_reducible repeat (first | refine blk_drewN ?_ _ | refine blk_drew ?_ | refine blk_alloc ?_ _)); exact BK198.out) hb); have n1_ := Aside0.mk (below_step (by repeat (first | (with_reducible first | exact HB.out | apply below_alloc | apply pw_below_drewN | apply below_drew1 | refine below_set ?_ GE198.out) | exact HB.out)) hb); clear BK198; clear HB; have BK198 := n0_; have HB := n1_; clear n0_ n1_; (try clear hb); (try clear hb2); (try clear hk); (try clear hi); obtain ⟨hcz123_0, hcz123_1, hcz123_2, hcz123_3, hcz123_4, hcz123_5, hcz123_6, hcz123_7, hcz123_8, hcz123_9⟩ := cells10 BK198.out) | (go_at_call 35; (with_reducible refine (cleatref02_Is.calls kj35 a0_6 false _ A89.out).mono ?_); rintro e w' ⟨rfl, ⟨nd, rfl⟩⟩) | ((with_reducible refine gate_callee (f := 36) rfl ?_); refine goesL_ (some 107) rfl rfl Tryd.func36 (by kernel_rfl) rfl #[.int .i64 t199, .int .i64 a0_5] rfl (by (try simp only [List.map_toArray, List.map_cons, List.map_nil]); first | done | rfl | (simp only [List.length_drop, List.length_take]; rfl)) ?_; (with_reducible refine (cleatref04_imm.calls kj35 t199 a0_5 true _ A112.out).mono ?_); rintro e w' ⟨rfl, ⟨nd, rfl⟩⟩; refine ⟨_, rfl, ?_⟩) | (go_at_call 37; (with_reducible refine (cleatref04_amount.calls t199 a0_8 true _ A114.out).mono ?_); rintro e w' ⟨rfl, ⟨nd, rfl⟩⟩))
               go_ret
               exact ⟨by first | rfl | (simp [errW_none, errW_some] <;> rfl) | (simp [*, errW_none, errW_some] <;> rfl), by repeat (first | (with_reducible first | exact HB.out | apply below_alloc | apply pw_below_drewN | apply below_drew1 | refine below_set ?_ GE198.out) | exact HB.out)⟩
             ·replace c116 := Bool.eq_false_iff.mpr c116
              subst c116
              rw [if_neg (show ¬ (false = true) by decide)] at H
              obtain rfl := Option.some.inj H
              obtain ⟨hcz124_0, hcz124_1, hcz124_2, hcz124_3, hcz124_4, hcz124_5, hcz124_6, hcz124_7, hcz124_8, hcz124_9⟩ := cells10 BK198.out
              go_wp2_with (first | (go_at_call 29; (with_reducible refine (cleatref04_Has.calls kj35 t199 (⟨#[99]⟩ : ByteArray) true _ A85.out).mono ?_); rintro e w125 ⟨rfl, hb⟩; have n0_ := Aside0.mk (blk_below (g := gb198) (o := .cells #[.int .i64 a0_0, .int .i64 a0_1, .int .i64 a0_2, .int .i64 a0_3, .int .i64 a0_4, .int .i64 a0_5, .int .u64 a0_6, .int .i64 a0_7, .int .i64 a0_8, .int .i64 a0_9] 24 (0, 0)) (by (with_reducible repeat (first | refine blk_drewN ?_ _ | refine blk_drew ?_ | refine blk_alloc ?_ _)); exact BK198.out) hb); have n1_ := Aside0.mk (below_step (by repeat (first | (with_reducible first | exact HB.out | apply below_alloc | apply pw_below_drewN | apply below_drew1 | refine below_set ?_ GE198.out) | exact HB.out)) hb); clear BK198; clear HB; have BK198 := n0_; have HB := n1_; clear n0_ n1_; (try clear hb); (try clear hb2); (try clear hk); (try clear hi); obtain ⟨hcz126_0, hcz126_1, hcz126_2, hcz126_3, hcz126_4, hcz126_5, hcz126_6, hcz126_7, hcz126_8, hcz126_9⟩ := cells10 BK198.out) | (go_at_call 35; (with_reducible refine (cleatref02_Is.calls kj35 a0_6 false _ A89.out).mono ?_); rintro e w' ⟨rfl, ⟨nd, rfl⟩⟩) | ((with_reducible refine gate_callee (f := 36) rfl ?_); refine goesL_ (some 107) rfl rfl Tryd.func36 (by kernel_rfl) rfl #[.int .i64 t199, .int .i64 a0_5] rfl (by (try simp only [List.map_toArray, List.map_cons, List.map_nil]); first | done | rfl | (simp only [List.length_drop, List.length_take]; rfl)) ?_; (with_reducible refine (cleatref04_imm.calls kj35 t199 a0_5 true _ A112.out).mono ?_); rintro e w' ⟨rfl, ⟨nd, rfl⟩⟩; refine ⟨_, rfl, ?_⟩) | (go_at_call 37; (with_reducible refine (cleatref04_amount.calls t199 a0_8 true _ A114.out).mono ?_); rintro e w' ⟨rfl, ⟨nd, rfl⟩⟩))
              go_ret
              exact ⟨by first | rfl | (simp [errW_none, errW_some] <;> rfl) | (simp [*, errW_none, errW_some] <;> rfl), by repeat (first | (with_reducible first | exact HB.out | apply below_alloc | apply pw_below_drewN | apply below_drew1 | refine below_set ?_ GE198.out) | exact HB.out)⟩
            ·replace c115 := Bool.eq_false_iff.mpr c115
             subst c115
             rw [if_neg (show ¬ (false = true) by decide)] at H
             obtain rfl := Option.some.inj H
             obtain ⟨hcz127_0, hcz127_1, hcz127_2, hcz127_3, hcz127_4, hcz127_5, hcz127_6, hcz127_7, hcz127_8, hcz127_9⟩ := cells10 BK198.out
             go_wp2_with (first | (go_at_call 29; (with_reducible refine (cleatref04_Has.calls kj35 t199 (⟨#[99]⟩ : ByteArray) true _ A85.out).mono ?_); rintro e w128 ⟨rfl, hb⟩; have n0_ := Aside0.mk (blk_below (g := gb198) (o := .cells #[.int .i64 a0_0, .int .i64 a0_1, .int .i64 a0_2, .int .i64 a0_3, .int .i64 a0_4, .int .i64 a0_5, .int .u64 a0_6, .int .i64 a0_7, .int .i64 a0_8, .int .i64 a0_9] 24 (0, 0)) (by (with_reducible repeat (first | refine blk_drewN ?_ _ | refine blk_drew ?_ | refine blk_alloc ?_ _)); exact BK198.out) hb); have n1_ := Aside0.mk (below_step (by repeat (first | (with_reducible first | exact HB.out | apply below_alloc | apply pw_below_drewN | apply below_drew1 | refine below_set ?_ GE198.out) | exact HB.out)) hb); clear BK198; clear HB; have BK198 := n0_; have HB := n1_; clear n0_ n1_; (try clear hb); (try clear hb2); (try clear hk); (try clear hi); obtain ⟨hcz129_0, hcz129_1, hcz129_2, hcz129_3, hcz129_4, hcz129_5, hcz129_6, hcz129_7, hcz129_8, hcz129_9⟩ := cells10 BK198.out) | (go_at_call 35; (with_reducible refine (cleatref02_Is.calls kj35 a0_6 false _ A89.out).mono ?_); rintro e w' ⟨rfl, ⟨nd, rfl⟩⟩) | ((with_reducible refine gate_callee (f := 36) rfl ?_); refine goesL_ (some 107) rfl rfl Tryd.func36 (by kernel_rfl) rfl #[.int .i64 t199, .int .i64 a0_5] rfl (by (try simp only [List.map_toArray, List.map_cons, List.map_nil]); first | done | rfl | (simp only [List.length_drop, List.length_take]; rfl)) ?_; (with_reducible refine (cleatref04_imm.calls kj35 t199 a0_5 true _ A112.out).mono ?_); rintro e w' ⟨rfl, ⟨nd, rfl⟩⟩; refine ⟨_, rfl, ?_⟩) | (go_at_call 37; (with_reducible refine (cleatref04_amount.calls t199 a0_8 false _ A114.out).mono ?_); rintro e w' ⟨rfl, ⟨nd, rfl⟩⟩))
             go_ret
             exact ⟨by first | rfl | (simp [errW_none, errW_some] <;> rfl) | (simp [*, errW_none, errW_some] <;> rfl), by repeat (first | (with_reducible first | exact HB.out | apply below_alloc | apply pw_below_drewN | apply below_drew1 | refine below_set ?_ GE198.out) | exact HB.out)⟩
           ·replace c113 := Bool.eq_false_iff.mpr c113
            subst c113
            rw [if_neg (show ¬ (false = true) by decide)] at H
            obtain rfl := Option.some.inj H
            obtain ⟨hcz130_0, hcz130_1, hcz130_2, hcz130_3, hcz130_4, hcz130_5, hcz130_6, hcz130_7, hcz130_8, hcz130_9⟩ := cells10 BK198.out
            go_wp2_with (first | (go_at_call 29; (with_reducible refine (cleatref04_Has.calls kj35 t199 (⟨#[99]⟩ : ByteArray) true _ A85.out).mono ?_); rintro e w131 ⟨rfl, hb⟩; have n0_ := Aside0.mk (blk_below (g := gb198) (o := .cells #[.int .i64 a0_0, .int .i64 a0_1, .int .i64 a0_2, .int .i64 a0_3, .int .i64 a0_4, .int .i64 a0_5, .int .u64 a0_6, .int .i64 a0_7, .int .i64 a0_8, .int .i64 a0_9] 24 (0, 0)) (by (with_reducible repeat (first | refine blk_drewN ?_ _ | refine blk_drew ?_ | refine blk_alloc ?_ _)); exact BK198.out) hb); have n1_ := Aside0.mk (below_step (by repeat (first | (with_reducible first | exact HB.out | apply below_alloc | apply pw_below_drewN | apply below_drew1 | refine below_set ?_ GE198.out) | exact HB.out)) hb); clear BK198; clear HB; have BK198 := n0_; have HB := n1_; clear n0_ n1_; (try clear hb); (try clear hb2); (try clear hk); (try clear hi); obtain ⟨hcz132_0, hcz132_1, hcz132_2, hcz132_3, hcz132_4, hcz132_5, hcz132_6, hcz132_7, hcz132_8, hcz132_9⟩ := cells10 BK198.out) | (go_at_call 35; (with_reducible refine (cleatref02_Is.calls kj35 a0_6 false _ A89.out).mono ?_); rintro e w' ⟨rfl, ⟨nd, rfl⟩⟩) | ((with_reducible refine gate_callee (f := 36) rfl ?_); refine goesL_ (some 107) rfl rfl Tryd.func36 (by kernel_rfl) rfl #[.int .i64 t199, .int .i64 a0_5] rfl (by (try simp only [List.map_toArray, List.map_cons, List.map_nil]); first | done | rfl | (simp only [List.length_drop, List.length_take]; rfl)) ?_; (with_reducible refine (cleatref04_imm.calls kj35 t199 a0_5 false _ A112.out).mono ?_); rintro e w' ⟨rfl, ⟨nd, rfl⟩⟩; refine ⟨_, rfl, ?_⟩))
            go_ret
            exact ⟨by first | rfl | (simp [errW_none, errW_some] <;> rfl) | (simp [*, errW_none, errW_some] <;> rfl), by repeat (first | (with_reducible first | exact HB.out | apply below_alloc | apply pw_below_drewN | apply below_drew1 | refine below_set ?_ GE198.out) | exact HB.out)⟩
         ·rw [if_neg c88] at H
          have c88b0 : (t199 == 3) = false := beq_eq_false_iff_ne.mpr c88
          have c88b1 : (t199 != 3) = true := bne_iff_ne.mpr c88
          replace H := Option.bind_eq_some_iff.mp H
          obtain ⟨t217, A1330, H⟩ := H
          replace H : (if t217 = true then ((cleatref04_amount.f t199 a0_8).bind fun t218 => (if t218 = true then (if x4_35 = true then (if a0_9 ≤ 13 then (some (a0_6 == 0)) else (some false)) else (some false)) else (some false))) else (some false)) = some r := H
          have A133 := Aside0.mk A1330
          clear A1330
          by_cases c134 : t217 = true
          ·subst c134
           rw [if_pos rfl] at H
           replace H := Option.bind_eq_some_iff.mp H
           obtain ⟨t218, A1350, H⟩ := H
           replace H : (if t218 = true then (if x4_35 = true then (if a0_9 ≤ 13 then (some (a0_6 == 0)) else (some false)) else (some false)) else (some false)) = some r := H
           have A135 := Aside0.mk A1350
           clear A1350
           by_cases c136 : t218 = true
           ·subst c136
            rw [if_pos rfl] at H
            by_cases c137 : x4_35 = true
            ·subst c137
             rw [if_pos rfl] at H
             by_cases c138 : a0_9 ≤ 13
             ·rw [if_pos c138] at H
              have c138b0 : decide (a0_9 ≤ 13) = true := decide_eq_true c138
              clear c138
              obtain rfl := Option.some.inj H
              obtain ⟨hcz139_0, hcz139_1, hcz139_2, hcz139_3, hcz139_4, hcz139_5, hcz139_6, hcz139_7, hcz139_8, hcz139_9⟩ := cells10 BK198.out
              go_wp2_with (first | (go_at_call 29; (with_reducible refine (cleatref04_Has.calls kj35 t199 (⟨#[99]⟩ : ByteArray) true _ A85.out).mono ?_); rintro e w140 ⟨rfl, hb⟩; have n0_ := Aside0.mk (blk_below (g := gb198) (o := .cells #[.int .i64 a0_0, .int .i64 a0_1, .int .i64 a0_2, .int .i64 a0_3, .int .i64 a0_4, .int .i64 a0_5, .int .u64 a0_6, .int .i64 a0_7, .int .i64 a0_8, .int .i64 a0_9] 24 (0, 0)) (by (with_reducible repeat (first | refine blk_drewN ?_ _ | refine blk_drew ?_ | refine blk_alloc ?_ _)); exact BK198.out) hb); have n1_ := Aside0.mk (below_step (by repeat (first | (with_reducible first | exact HB.out | apply below_alloc | apply pw_below_drewN | apply below_drew1 | refine below_set ?_ GE198.out) | exact HB.out)) hb); clear BK198; clear HB; have BK198 := n0_; have HB := n1_; clear n0_ n1_; (try clear hb); (try clear hb2); (try clear hk); (try clear hi); obtain ⟨hcz141_0, hcz141_1, hcz141_2, hcz141_3, hcz141_4, hcz141_5, hcz141_6, hcz141_7, hcz141_8, hcz141_9⟩ := cells10 BK198.out) | ((with_reducible refine gate_callee (f := 36) rfl ?_); refine goesL_ (some 107) rfl rfl Tryd.func36 (by kernel_rfl) rfl #[.int .i64 t199, .int .i64 a0_5] rfl (by (try simp only [List.map_toArray, List.map_cons, List.map_nil]); first | done | rfl | (simp only [List.length_drop, List.length_take]; rfl)) ?_; (with_reducible refine (cleatref04_imm.calls kj35 t199 a0_5 true _ A133.out).mono ?_); rintro e w' ⟨rfl, ⟨nd, rfl⟩⟩; refine ⟨_, rfl, ?_⟩) | (go_at_call 37; (with_reducible refine (cleatref04_amount.calls t199 a0_8 true _ A135.out).mono ?_); rintro e w' ⟨rfl, ⟨nd, rfl⟩⟩))
              go_ret
              exact ⟨by first | rfl | (simp [errW_none, errW_some] <;> rfl) | (simp [*, errW_none, errW_some] <;> rfl), by repeat (first | (with_reducible first | exact HB.out | apply below_alloc | apply pw_below_drewN | apply below_drew1 | refine below_set ?_ GE198.out) | exact HB.out)⟩
             ·rw [if_neg c138] at H
              have c138b0 : decide (a0_9 ≤ 13) = false := decide_eq_false c138
              clear c138
              obtain rfl := Option.some.inj H
              obtain ⟨hcz142_0, hcz142_1, hcz142_2, hcz142_3, hcz142_4, hcz142_5, hcz142_6, hcz142_7, hcz142_8, hcz142_9⟩ := cells10 BK198.out
              go_wp2_with (first | (go_at_call 29; (with_reducible refine (cleatref04_Has.calls kj35 t199 (⟨#[99]⟩ : ByteArray) true _ A85.out).mono ?_); rintro e w143 ⟨rfl, hb⟩; have n0_ := Aside0.mk (blk_below (g := gb198) (o := .cells #[.int .i64 a0_0, .int .i64 a0_1, .int .i64 a0_2, .int .i64 a0_3, .int .i64 a0_4, .int .i64 a0_5, .int .u64 a0_6, .int .i64 a0_7, .int .i64 a0_8, .int .i64 a0_9] 24 (0, 0)) (by (with_reducible repeat (first | refine blk_drewN ?_ _ | refine blk_drew ?_ | refine blk_alloc ?_ _)); exact BK198.out) hb); have n1_ := Aside0.mk (below_step (by repeat (first | (with_reducible first | exact HB.out | apply below_alloc | apply pw_below_drewN | apply below_drew1 | refine below_set ?_ GE198.out) | exact HB.out)) hb); clear BK198; clear HB; have BK198 := n0_; have HB := n1_; clear n0_ n1_; (try clear hb); (try clear hb2); (try clear hk); (try clear hi); obtain ⟨hcz144_0, hcz144_1, hcz144_2, hcz144_3, hcz144_4, hcz144_5, hcz144_6, hcz144_7, hcz144_8, hcz144_9⟩ := cells10 BK198.out) | ((with_reducible refine gate_callee (f := 36) rfl ?_); refine goesL_ (some 107) rfl rfl Tryd.func36 (by kernel_rfl) rfl #[.int .i64 t199, .int .i64 a0_5] rfl (by (try simp only [List.map_toArray, List.map_cons, List.map_nil]); first | done | rfl | (simp only [List.length_drop, List.length_take]; rfl)) ?_; (with_reducible refine (cleatref04_imm.calls kj35 t199 a0_5 true _ A133.out).mono ?_); rintro e w' ⟨rfl, ⟨nd, rfl⟩⟩; refine ⟨_, rfl, ?_⟩) | (go_at_call 37; (with_reducible refine (cleatref04_amount.calls t199 a0_8 true _ A135.out).mono ?_); rintro e w' ⟨rfl, ⟨nd, rfl⟩⟩))
              go_ret
              exact ⟨by first | rfl | (simp [errW_none, errW_some] <;> rfl) | (simp [*, errW_none, errW_some] <;> rfl), by repeat (first | (with_reducible first | exact HB.out | apply below_alloc | apply pw_below_drewN | apply below_drew1 | refine below_set ?_ GE198.out) | exact HB.out)⟩
            ·replace c137 := Bool.eq_false_iff.mpr c137
             subst c137
             rw [if_neg (show ¬ (false = true) by decide)] at H
             obtain rfl := Option.some.inj H
             obtain ⟨hcz145_0, hcz145_1, hcz145_2, hcz145_3, hcz145_4, hcz145_5, hcz145_6, hcz145_7, hcz145_8, hcz145_9⟩ := cells10 BK198.out
             go_wp2_with (first | (go_at_call 29; (with_reducible refine (cleatref04_Has.calls kj35 t199 (⟨#[99]⟩ : ByteArray) true _ A85.out).mono ?_); rintro e w146 ⟨rfl, hb⟩; have n0_ := Aside0.mk (blk_below (g := gb198) (o := .cells #[.int .i64 a0_0, .int .i64 a0_1, .int .i64 a0_2, .int .i64 a0_3, .int .i64 a0_4, .int .i64 a0_5, .int .u64 a0_6, .int .i64 a0_7, .int .i64 a0_8, .int .i64 a0_9] 24 (0, 0)) (by (with_reducible repeat (first | refine blk_drewN ?_ _ | refine blk_drew ?_ | refine blk_alloc ?_ _)); exact BK198.out) hb); have n1_ := Aside0.mk (below_step (by repeat (first | (with_reducible first | exact HB.out | apply below_alloc | apply pw_below_drewN | apply below_drew1 | refine below_set ?_ GE198.out) | exact HB.out)) hb); clear BK198; clear HB; have BK198 := n0_; have HB := n1_; clear n0_ n1_; (try clear hb); (try clear hb2); (try clear hk); (try clear hi); obtain ⟨hcz147_0, hcz147_1, hcz147_2, hcz147_3, hcz147_4, hcz147_5, hcz147_6, hcz147_7, hcz147_8, hcz147_9⟩ := cells10 BK198.out) | ((with_reducible refine gate_callee (f := 36) rfl ?_); refine goesL_ (some 107) rfl rfl Tryd.func36 (by kernel_rfl) rfl #[.int .i64 t199, .int .i64 a0_5] rfl (by (try simp only [List.map_toArray, List.map_cons, List.map_nil]); first | done | rfl | (simp only [List.length_drop, List.length_take]; rfl)) ?_; (with_reducible refine (cleatref04_imm.calls kj35 t199 a0_5 true _ A133.out).mono ?_); rintro e w' ⟨rfl, ⟨nd, rfl⟩⟩; refine ⟨_, rfl, ?_⟩) | (go_at_call 37; (with_reducible refine (cleatref04_amount.calls t199 a0_8 true _ A135.out).mono ?_); rintro e w' ⟨rfl, ⟨nd, rfl⟩⟩))
             go_ret
             exact ⟨by first | rfl | (simp [errW_none, errW_some] <;> rfl) | (simp [*, errW_none, errW_some] <;> rfl), by repeat (first | (with_reducible first | exact HB.out | apply below_alloc | apply pw_below_drewN | apply below_drew1 | refine below_set ?_ GE198.out) | exact HB.out)⟩
           ·replace c136 := Bool.eq_false_iff.mpr c136
            subst c136
            rw [if_neg (show ¬ (false = true) by decide)] at H
            obtain rfl := Option.some.inj H
            obtain ⟨hcz148_0, hcz148_1, hcz148_2, hcz148_3, hcz148_4, hcz148_5, hcz148_6, hcz148_7, hcz148_8, hcz148_9⟩ := cells10 BK198.out
            go_wp2_with (first | (go_at_call 29; (with_reducible refine (cleatref04_Has.calls kj35 t199 (⟨#[99]⟩ : ByteArray) true _ A85.out).mono ?_); rintro e w149 ⟨rfl, hb⟩; have n0_ := Aside0.mk (blk_below (g := gb198) (o := .cells #[.int .i64 a0_0, .int .i64 a0_1, .int .i64 a0_2, .int .i64 a0_3, .int .i64 a0_4, .int .i64 a0_5, .int .u64 a0_6, .int .i64 a0_7, .int .i64 a0_8, .int .i64 a0_9] 24 (0, 0)) (by (with_reducible repeat (first | refine blk_drewN ?_ _ | refine blk_drew ?_ | refine blk_alloc ?_ _)); exact BK198.out) hb); have n1_ := Aside0.mk (below_step (by repeat (first | (with_reducible first | exact HB.out | apply below_alloc | apply pw_below_drewN | apply below_drew1 | refine below_set ?_ GE198.out) | exact HB.out)) hb); clear BK198; clear HB; have BK198 := n0_; have HB := n1_; clear n0_ n1_; (try clear hb); (try clear hb2); (try clear hk); (try clear hi); obtain ⟨hcz150_0, hcz150_1, hcz150_2, hcz150_3, hcz150_4, hcz150_5, hcz150_6, hcz150_7, hcz150_8, hcz150_9⟩ := cells10 BK198.out) | ((with_reducible refine gate_callee (f := 36) rfl ?_); refine goesL_ (some 107) rfl rfl Tryd.func36 (by kernel_rfl) rfl #[.int .i64 t199, .int .i64 a0_5] rfl (by (try simp only [List.map_toArray, List.map_cons, List.map_nil]); first | done | rfl | (simp only [List.length_drop, List.length_take]; rfl)) ?_; (with_reducible refine (cleatref04_imm.calls kj35 t199 a0_5 true _ A133.out).mono ?_); rintro e w' ⟨rfl, ⟨nd, rfl⟩⟩; refine ⟨_, rfl, ?_⟩) | (go_at_call 37; (with_reducible refine (cleatref04_amount.calls t199 a0_8 false _ A135.out).mono ?_); rintro e w' ⟨rfl, ⟨nd, rfl⟩⟩))
            go_ret
            exact ⟨by first | rfl | (simp [errW_none, errW_some] <;> rfl) | (simp [*, errW_none, errW_some] <;> rfl), by repeat (first | (with_reducible first | exact HB.out | apply below_alloc | apply pw_below_drewN | apply below_drew1 | refine below_set ?_ GE198.out) | exact HB.out)⟩
          ·replace c134 := Bool.eq_false_iff.mpr c134
           subst c134
           rw [if_neg (show ¬ (false = true) by decide)] at H
           obtain rfl := Option.some.inj H
           obtain ⟨hcz151_0, hcz151_1, hcz151_2, hcz151_3, hcz151_4, hcz151_5, hcz151_6, hcz151_7, hcz151_8, hcz151_9⟩ := cells10 BK198.out
           go_wp2_with (first | (go_at_call 29; (with_reducible refine (cleatref04_Has.calls kj35 t199 (⟨#[99]⟩ : ByteArray) true _ A85.out).mono ?_); rintro e w152 ⟨rfl, hb⟩; have n0_ := Aside0.mk (blk_below (g := gb198) (o := .cells #[.int .i64 a0_0, .int .i64 a0_1, .int .i64 a0_2, .int .i64 a0_3, .int .i64 a0_4, .int .i64 a0_5, .int .u64 a0_6, .int .i64 a0_7, .int .i64 a0_8, .int .i64 a0_9] 24 (0, 0)) (by (with_reducible repeat (first | refine blk_drewN ?_ _ | refine blk_drew ?_ | refine blk_alloc ?_ _)); exact BK198.out) hb); have n1_ := Aside0.mk (below_step (by repeat (first | (with_reducible first | exact HB.out | apply below_alloc | apply pw_below_drewN | apply below_drew1 | refine below_set ?_ GE198.out) | exact HB.out)) hb); clear BK198; clear HB; have BK198 := n0_; have HB := n1_; clear n0_ n1_; (try clear hb); (try clear hb2); (try clear hk); (try clear hi); obtain ⟨hcz153_0, hcz153_1, hcz153_2, hcz153_3, hcz153_4, hcz153_5, hcz153_6, hcz153_7, hcz153_8, hcz153_9⟩ := cells10 BK198.out) | ((with_reducible refine gate_callee (f := 36) rfl ?_); refine goesL_ (some 107) rfl rfl Tryd.func36 (by kernel_rfl) rfl #[.int .i64 t199, .int .i64 a0_5] rfl (by (try simp only [List.map_toArray, List.map_cons, List.map_nil]); first | done | rfl | (simp only [List.length_drop, List.length_take]; rfl)) ?_; (with_reducible refine (cleatref04_imm.calls kj35 t199 a0_5 false _ A133.out).mono ?_); rintro e w' ⟨rfl, ⟨nd, rfl⟩⟩; refine ⟨_, rfl, ?_⟩))
           go_ret
           exact ⟨by first | rfl | (simp [errW_none, errW_some] <;> rfl) | (simp [*, errW_none, errW_some] <;> rfl), by repeat (first | (with_reducible first | exact HB.out | apply below_alloc | apply pw_below_drewN | apply below_drew1 | refine below_set ?_ GE198.out) | exact HB.out)⟩
        ·rw [if_neg c87] at H
         have c87b0 : decide (0 ≤ a0_9) = false := decide_eq_false c87
         clear c87
         by_cases c154 : t199 = 3
         ·rw [if_pos c154] at H
          have c154b0 : (t199 == 3) = true := beq_iff_eq.mpr c154
          have c154b1 : (t199 != 3) = false := bne_eq_false_iff_eq.mpr c154
          clear c154
          replace H := Option.bind_eq_some_iff.mp H
          obtain ⟨t219, A1550, H⟩ := H
          replace H : (if t219 = true then ((cleatref04_imm.f kj35 t199 a0_5).bind fun t220 => (if t220 = true then ((cleatref04_amount.f t199 a0_8).bind fun t221 => (if t221 = true then (if x4_35 = true then (some false) else (some false)) else (some false))) else (some false))) else ((cleatref04_imm.f kj35 t199 a0_5).bind fun t222 => (if t222 = true then ((cleatref04_amount.f t199 a0_8).bind fun t223 => (if t223 = true then (if x4_35 = true then (some false) else (some false)) else (some false))) else (some false)))) = some r := H
          have A155 := Aside0.mk A1550
          clear A1550
          by_cases c156 : t219 = true
          ·subst c156
           rw [if_pos rfl] at H
           replace H := Option.bind_eq_some_iff.mp H
           obtain ⟨t220, A1570, H⟩ := H
           replace H : (if t220 = true then ((cleatref04_amount.f t199 a0_8).bind fun t221 => (if t221 = true then (if x4_35 = true then (some false) else (some false)) else (some false))) else (some false)) = some r := H
           have A157 := Aside0.mk A1570
           clear A1570
           by_cases c158 : t220 = true
           ·subst c158
            rw [if_pos rfl] at H
            replace H := Option.bind_eq_some_iff.mp H
            obtain ⟨t221, A1590, H⟩ := H
            replace H : (if t221 = true then (if x4_35 = true then (some false) else (some false)) else (some false)) = some r := H
            have A159 := Aside0.mk A1590
            clear A1590
            by_cases c160 : t221 = true
            ·subst c160
             rw [if_pos rfl] at H
             by_cases c161 : x4_35 = true
             ·subst c161
              rw [if_pos rfl] at H
              obtain rfl := Option.some.inj H
              obtain ⟨hcz162_0, hcz162_1, hcz162_2, hcz162_3, hcz162_4, hcz162_5, hcz162_6, hcz162_7, hcz162_8, hcz162_9⟩ := cells10 BK198.out
              go_wp2_with (first | (go_at_call 29; (with_reducible refine (cleatref04_Has.calls kj35 t199 (⟨#[99]⟩ : ByteArray) true _ A85.out).mono ?_); rintro e w163 ⟨rfl, hb⟩; have n0_ := Aside0.mk (blk_below (g := gb198) (o := .cells #[.int .i64 a0_0, .int .i64 a0_1, .int .i64 a0_2, .int .i64 a0_3, .int .i64 a0_4, .int .i64 a0_5, .int .u64 a0_6, .int .i64 a0_7, .int .i64 a0_8, .int .i64 a0_9] 24 (0, 0)) (by (with_reducible repeat (first | refine blk_drewN ?_ _ | refine blk_drew ?_ | refine blk_alloc ?_ _)); exact BK198.out) hb); have n1_ := Aside0.mk (below_step (by repeat (first | (with_reducible first | exact HB.out | apply below_alloc | apply pw_below_drewN | apply below_drew1 | refine below_set ?_ GE198.out) | exact HB.out)) hb); clear BK198; clear HB; have BK198 := n0_; have HB := n1_; clear n0_ n1_; (try clear hb); (try clear hb2); (try clear hk); (try clear hi); obtain ⟨hcz164_0, hcz164_1, hcz164_2, hcz164_3, hcz164_4, hcz164_5, hcz164_6, hcz164_7, hcz164_8, hcz164_9⟩ := cells10 BK198.out) | (go_at_call 35; (with_reducible refine (cleatref02_Is.calls kj35 a0_6 true _ A155.out).mono ?_); rintro e w' ⟨rfl, ⟨nd, rfl⟩⟩) | ((with_reducible refine gate_callee (f := 36) rfl ?_); refine goesL_ (some 107) rfl rfl Tryd.func36 (by kernel_rfl) rfl #[.int .i64 t199, .int .i64 a0_5] rfl (by (try simp only [List.map_toArray, List.map_cons, List.map_nil]); first | done | rfl | (simp only [List.length_drop, List.length_take]; rfl)) ?_; (with_reducible refine (cleatref04_imm.calls kj35 t199 a0_5 true _ A157.out).mono ?_); rintro e w' ⟨rfl, ⟨nd, rfl⟩⟩; refine ⟨_, rfl, ?_⟩) | (go_at_call 37; (with_reducible refine (cleatref04_amount.calls t199 a0_8 true _ A159.out).mono ?_); rintro e w' ⟨rfl, ⟨nd, rfl⟩⟩))
              go_ret
              exact ⟨by first | rfl | (simp [errW_none, errW_some] <;> rfl) | (simp [*, errW_none, errW_some] <;> rfl), by repeat (first | (with_reducible first | exact HB.out | apply below_alloc | apply pw_below_drewN | apply below_drew1 | refine below_set ?_ GE198.out) | exact HB.out)⟩
             ·replace c161 := Bool.eq_false_iff.mpr c161
              subst c161
              rw [if_neg (show ¬ (false = true) by decide)] at H
              obtain rfl := Option.some.inj H
              obtain ⟨hcz165_0, hcz165_1, hcz165_2, hcz165_3, hcz165_4, hcz165_5, hcz165_6, hcz165_7, hcz165_8, hcz165_9⟩ := cells10 BK198.out
              go_wp2_with (first | (go_at_call 29; (with_reducible refine (cleatref04_Has.calls kj35 t199 (⟨#[99]⟩ : ByteArray) true _ A85.out).mono ?_); rintro e w166 ⟨rfl, hb⟩; have n0_ := Aside0.mk (blk_below (g := gb198) (o := .cells #[.int .i64 a0_0, .int .i64 a0_1, .int .i64 a0_2, .int .i64 a0_3, .int .i64 a0_4, .int .i64 a0_5, .int .u64 a0_6, .int .i64 a0_7, .int .i64 a0_8, .int .i64 a0_9] 24 (0, 0)) (by (with_reducible repeat (first | refine blk_drewN ?_ _ | refine blk_drew ?_ | refine blk_alloc ?_ _)); exact BK198.out) hb); have n1_ := Aside0.mk (below_step (by repeat (first | (with_reducible first | exact HB.out | apply below_alloc | apply pw_below_drewN | apply below_drew1 | refine below_set ?_ GE198.out) | exact HB.out)) hb); clear BK198; clear HB; have BK198 := n0_; have HB := n1_; clear n0_ n1_; (try clear hb); (try clear hb2); (try clear hk); (try clear hi); obtain ⟨hcz167_0, hcz167_1, hcz167_2, hcz167_3, hcz167_4, hcz167_5, hcz167_6, hcz167_7, hcz167_8, hcz167_9⟩ := cells10 BK198.out) | (go_at_call 35; (with_reducible refine (cleatref02_Is.calls kj35 a0_6 true _ A155.out).mono ?_); rintro e w' ⟨rfl, ⟨nd, rfl⟩⟩) | ((with_reducible refine gate_callee (f := 36) rfl ?_); refine goesL_ (some 107) rfl rfl Tryd.func36 (by kernel_rfl) rfl #[.int .i64 t199, .int .i64 a0_5] rfl (by (try simp only [List.map_toArray, List.map_cons, List.map_nil]); first | done | rfl | (simp only [List.length_drop, List.length_take]; rfl)) ?_; (with_reducible refine (cleatref04_imm.calls kj35 t199 a0_5 true _ A157.out).mono ?_); rintro e w' ⟨rfl, ⟨nd, rfl⟩⟩; refine ⟨_, rfl, ?_⟩) | (go_at_call 37; (with_reducible refine (cleatref04_amount.calls t199 a0_8 true _ A159.out).mono ?_); rintro e w' ⟨rfl, ⟨nd, rfl⟩⟩))
              go_ret
              exact ⟨by first | rfl | (simp [errW_none, errW_some] <;> rfl) | (simp [*, errW_none, errW_some] <;> rfl), by repeat (first | (with_reducible first | exact HB.out | apply below_alloc | apply pw_below_drewN | apply below_drew1 | refine below_set ?_ GE198.out) | exact HB.out)⟩
            ·replace c160 := Bool.eq_false_iff.mpr c160
             subst c160
             rw [if_neg (show ¬ (false = true) by decide)] at H
             obtain rfl := Option.some.inj H
             obtain ⟨hcz168_0, hcz168_1, hcz168_2, hcz168_3, hcz168_4, hcz168_5, hcz168_6, hcz168_7, hcz168_8, hcz168_9⟩ := cells10 BK198.out
             go_wp2_with (first | (go_at_call 29; (with_reducible refine (cleatref04_Has.calls kj35 t199 (⟨#[99]⟩ : ByteArray) true _ A85.out).mono ?_); rintro e w169 ⟨rfl, hb⟩; have n0_ := Aside0.mk (blk_below (g := gb198) (o := .cells #[.int .i64 a0_0, .int .i64 a0_1, .int .i64 a0_2, .int .i64 a0_3, .int .i64 a0_4, .int .i64 a0_5, .int .u64 a0_6, .int .i64 a0_7, .int .i64 a0_8, .int .i64 a0_9] 24 (0, 0)) (by (with_reducible repeat (first | refine blk_drewN ?_ _ | refine blk_drew ?_ | refine blk_alloc ?_ _)); exact BK198.out) hb); have n1_ := Aside0.mk (below_step (by repeat (first | (with_reducible first | exact HB.out | apply below_alloc | apply pw_below_drewN | apply below_drew1 | refine below_set ?_ GE198.out) | exact HB.out)) hb); clear BK198; clear HB; have BK198 := n0_; have HB := n1_; clear n0_ n1_; (try clear hb); (try clear hb2); (try clear hk); (try clear hi); obtain ⟨hcz170_0, hcz170_1, hcz170_2, hcz170_3, hcz170_4, hcz170_5, hcz170_6, hcz170_7, hcz170_8, hcz170_9⟩ := cells10 BK198.out) | (go_at_call 35; (with_reducible refine (cleatref02_Is.calls kj35 a0_6 true _ A155.out).mono ?_); rintro e w' ⟨rfl, ⟨nd, rfl⟩⟩) | ((with_reducible refine gate_callee (f := 36) rfl ?_); refine goesL_ (some 107) rfl rfl Tryd.func36 (by kernel_rfl) rfl #[.int .i64 t199, .int .i64 a0_5] rfl (by (try simp only [List.map_toArray, List.map_cons, List.map_nil]); first | done | rfl | (simp only [List.length_drop, List.length_take]; rfl)) ?_; (with_reducible refine (cleatref04_imm.calls kj35 t199 a0_5 true _ A157.out).mono ?_); rintro e w' ⟨rfl, ⟨nd, rfl⟩⟩; refine ⟨_, rfl, ?_⟩) | (go_at_call 37; (with_reducible refine (cleatref04_amount.calls t199 a0_8 false _ A159.out).mono ?_); rintro e w' ⟨rfl, ⟨nd, rfl⟩⟩))
             go_ret
             exact ⟨by first | rfl | (simp [errW_none, errW_some] <;> rfl) | (simp [*, errW_none, errW_some] <;> rfl), by repeat (first | (with_reducible first | exact HB.out | apply below_alloc | apply pw_below_drewN | apply below_drew1 | refine below_set ?_ GE198.out) | exact HB.out)⟩
           ·replace c158 := Bool.eq_false_iff.mpr c158
            subst c158
            rw [if_neg (show ¬ (false = true) by decide)] at H
            obtain rfl := Option.some.inj H
            obtain ⟨hcz171_0, hcz171_1, hcz171_2, hcz171_3, hcz171_4, hcz171_5, hcz171_6, hcz171_7, hcz171_8, hcz171_9⟩ := cells10 BK198.out
            go_wp2_with (first | (go_at_call 29; (with_reducible refine (cleatref04_Has.calls kj35 t199 (⟨#[99]⟩ : ByteArray) true _ A85.out).mono ?_); rintro e w172 ⟨rfl, hb⟩; have n0_ := Aside0.mk (blk_below (g := gb198) (o := .cells #[.int .i64 a0_0, .int .i64 a0_1, .int .i64 a0_2, .int .i64 a0_3, .int .i64 a0_4, .int .i64 a0_5, .int .u64 a0_6, .int .i64 a0_7, .int .i64 a0_8, .int .i64 a0_9] 24 (0, 0)) (by (with_reducible repeat (first | refine blk_drewN ?_ _ | refine blk_drew ?_ | refine blk_alloc ?_ _)); exact BK198.out) hb); have n1_ := Aside0.mk (below_step (by repeat (first | (with_reducible first | exact HB.out | apply below_alloc | apply pw_below_drewN | apply below_drew1 | refine below_set ?_ GE198.out) | exact HB.out)) hb); clear BK198; clear HB; have BK198 := n0_; have HB := n1_; clear n0_ n1_; (try clear hb); (try clear hb2); (try clear hk); (try clear hi); obtain ⟨hcz173_0, hcz173_1, hcz173_2, hcz173_3, hcz173_4, hcz173_5, hcz173_6, hcz173_7, hcz173_8, hcz173_9⟩ := cells10 BK198.out) | (go_at_call 35; (with_reducible refine (cleatref02_Is.calls kj35 a0_6 true _ A155.out).mono ?_); rintro e w' ⟨rfl, ⟨nd, rfl⟩⟩) | ((with_reducible refine gate_callee (f := 36) rfl ?_); refine goesL_ (some 107) rfl rfl Tryd.func36 (by kernel_rfl) rfl #[.int .i64 t199, .int .i64 a0_5] rfl (by (try simp only [List.map_toArray, List.map_cons, List.map_nil]); first | done | rfl | (simp only [List.length_drop, List.length_take]; rfl)) ?_; (with_reducible refine (cleatref04_imm.calls kj35 t199 a0_5 false _ A157.out).mono ?_); rintro e w' ⟨rfl, ⟨nd, rfl⟩⟩; refine ⟨_, rfl, ?_⟩))
            go_ret
            exact ⟨by first | rfl | (simp [errW_none, errW_some] <;> rfl) | (simp [*, errW_none, errW_some] <;> rfl), by repeat (first | (with_reducible first | exact HB.out | apply below_alloc | apply pw_below_drewN | apply below_drew1 | refine below_set ?_ GE198.out) | exact HB.out)⟩
          ·replace c156 := Bool.eq_false_iff.mpr c156
           subst c156
           rw [if_neg (show ¬ (false = true) by decide)] at H
           replace H := Option.bind_eq_some_iff.mp H
           obtain ⟨t222, A1740, H⟩ := H
           replace H : (if t222 = true then ((cleatref04_amount.f t199 a0_8).bind fun t223 => (if t223 = true then (if x4_35 = true then (some false) else (some false)) else (some false))) else (some false)) = some r := H
           have A174 := Aside0.mk A1740
           clear A1740
           by_cases c175 : t222 = true
           ·subst c175
            rw [if_pos rfl] at H
            replace H := Option.bind_eq_some_iff.mp H
            obtain ⟨t223, A1760, H⟩ := H
            replace H : (if t223 = true then (if x4_35 = true then (some false) else (some false)) else (some false)) = some r := H
            have A176 := Aside0.mk A1760
            clear A1760
            by_cases c177 : t223 = true
            ·subst c177
             rw [if_pos rfl] at H
             by_cases c178 : x4_35 = true
             ·subst c178
              rw [if_pos rfl] at H
              obtain rfl := Option.some.inj H
              obtain ⟨hcz179_0, hcz179_1, hcz179_2, hcz179_3, hcz179_4, hcz179_5, hcz179_6, hcz179_7, hcz179_8, hcz179_9⟩ := cells10 BK198.out
              go_wp2_with (first | (go_at_call 29; (with_reducible refine (cleatref04_Has.calls kj35 t199 (⟨#[99]⟩ : ByteArray) true _ A85.out).mono ?_); rintro e w180 ⟨rfl, hb⟩; have n0_ := Aside0.mk (blk_below (g := gb198) (o := .cells #[.int .i64 a0_0, .int .i64 a0_1, .int .i64 a0_2, .int .i64 a0_3, .int .i64 a0_4, .int .i64 a0_5, .int .u64 a0_6, .int .i64 a0_7, .int .i64 a0_8, .int .i64 a0_9] 24 (0, 0)) (by (with_reducible repeat (first | refine blk_drewN ?_ _ | refine blk_drew ?_ | refine blk_alloc ?_ _)); exact BK198.out) hb); have n1_ := Aside0.mk (below_step (by repeat (first | (with_reducible first | exact HB.out | apply below_alloc | apply pw_below_drewN | apply below_drew1 | refine below_set ?_ GE198.out) | exact HB.out)) hb); clear BK198; clear HB; have BK198 := n0_; have HB := n1_; clear n0_ n1_; (try clear hb); (try clear hb2); (try clear hk); (try clear hi); obtain ⟨hcz181_0, hcz181_1, hcz181_2, hcz181_3, hcz181_4, hcz181_5, hcz181_6, hcz181_7, hcz181_8, hcz181_9⟩ := cells10 BK198.out) | (go_at_call 35; (with_reducible refine (cleatref02_Is.calls kj35 a0_6 false _ A155.out).mono ?_); rintro e w' ⟨rfl, ⟨nd, rfl⟩⟩) | ((with_reducible refine gate_callee (f := 36) rfl ?_); refine goesL_ (some 107) rfl rfl Tryd.func36 (by kernel_rfl) rfl #[.int .i64 t199, .int .i64 a0_5] rfl (by (try simp only [List.map_toArray, List.map_cons, List.map_nil]); first | done | rfl | (simp only [List.length_drop, List.length_take]; rfl)) ?_; (with_reducible refine (cleatref04_imm.calls kj35 t199 a0_5 true _ A174.out).mono ?_); rintro e w' ⟨rfl, ⟨nd, rfl⟩⟩; refine ⟨_, rfl, ?_⟩) | (go_at_call 37; (with_reducible refine (cleatref04_amount.calls t199 a0_8 true _ A176.out).mono ?_); rintro e w' ⟨rfl, ⟨nd, rfl⟩⟩))
              go_ret
              exact ⟨by first | rfl | (simp [errW_none, errW_some] <;> rfl) | (simp [*, errW_none, errW_some] <;> rfl), by repeat (first | (with_reducible first | exact HB.out | apply below_alloc | apply pw_below_drewN | apply below_drew1 | refine below_set ?_ GE198.out) | exact HB.out)⟩
             ·replace c178 := Bool.eq_false_iff.mpr c178
              subst c178
              rw [if_neg (show ¬ (false = true) by decide)] at H
              obtain rfl := Option.some.inj H
              obtain ⟨hcz182_0, hcz182_1, hcz182_2, hcz182_3, hcz182_4, hcz182_5, hcz182_6, hcz182_7, hcz182_8, hcz182_9⟩ := cells10 BK198.out
              go_wp2_with (first | (go_at_call 29; (with_reducible refine (cleatref04_Has.calls kj35 t199 (⟨#[99]⟩ : ByteArray) true _ A85.out).mono ?_); rintro e w183 ⟨rfl, hb⟩; have n0_ := Aside0.mk (blk_below (g := gb198) (o := .cells #[.int .i64 a0_0, .int .i64 a0_1, .int .i64 a0_2, .int .i64 a0_3, .int .i64 a0_4, .int .i64 a0_5, .int .u64 a0_6, .int .i64 a0_7, .int .i64 a0_8, .int .i64 a0_9] 24 (0, 0)) (by (with_reducible repeat (first | refine blk_drewN ?_ _ | refine blk_drew ?_ | refine blk_alloc ?_ _)); exact BK198.out) hb); have n1_ := Aside0.mk (below_step (by repeat (first | (with_reducible first | exact HB.out | apply below_alloc | apply pw_below_drewN | apply below_drew1 | refine below_set ?_ GE198.out) | exact HB.out)) hb); clear BK198; clear HB; have BK198 := n0_; have HB := n1_; clear n0_ n1_; (try clear hb); (try clear hb2); (try clear hk); (try clear hi); obtain ⟨hcz184_0, hcz184_1, hcz184_2, hcz184_3, hcz184_4, hcz184_5, hcz184_6, hcz184_7, hcz184_8, hcz184_9⟩ := cells10 BK198.out) | (go_at_call 35; (with_reducible refine (cleatref02_Is.calls kj35 a0_6 false _ A155.out).mono ?_); rintro e w' ⟨rfl, ⟨nd, rfl⟩⟩) | ((with_reducible refine gate_callee (f := 36) rfl ?_); refine goesL_ (some 107) rfl rfl Tryd.func36 (by kernel_rfl) rfl #[.int .i64 t199, .int .i64 a0_5] rfl (by (try simp only [List.map_toArray, List.map_cons, List.map_nil]); first | done | rfl | (simp only [List.length_drop, List.length_take]; rfl)) ?_; (with_reducible refine (cleatref04_imm.calls kj35 t199 a0_5 true _ A174.out).mono ?_); rintro e w' ⟨rfl, ⟨nd, rfl⟩⟩; refine ⟨_, rfl, ?_⟩) | (go_at_call 37; (with_reducible refine (cleatref04_amount.calls t199 a0_8 true _ A176.out).mono ?_); rintro e w' ⟨rfl, ⟨nd, rfl⟩⟩))
              go_ret
              exact ⟨by first | rfl | (simp [errW_none, errW_some] <;> rfl) | (simp [*, errW_none, errW_some] <;> rfl), by repeat (first | (with_reducible first | exact HB.out | apply below_alloc | apply pw_below_drewN | apply below_drew1 | refine below_set ?_ GE198.out) | exact HB.out)⟩
            ·replace c177 := Bool.eq_false_iff.mpr c177
             subst c177
             rw [if_neg (show ¬ (false = true) by decide)] at H
             obtain rfl := Option.some.inj H
             obtain ⟨hcz185_0, hcz185_1, hcz185_2, hcz185_3, hcz185_4, hcz185_5, hcz185_6, hcz185_7, hcz185_8, hcz185_9⟩ := cells10 BK198.out
             go_wp2_with (first | (go_at_call 29; (with_reducible refine (cleatref04_Has.calls kj35 t199 (⟨#[99]⟩ : ByteArray) true _ A85.out).mono ?_); rintro e w186 ⟨rfl, hb⟩; have n0_ := Aside0.mk (blk_below (g := gb198) (o := .cells #[.int .i64 a0_0, .int .i64 a0_1, .int .i64 a0_2, .int .i64 a0_3, .int .i64 a0_4, .int .i64 a0_5, .int .u64 a0_6, .int .i64 a0_7, .int .i64 a0_8, .int .i64 a0_9] 24 (0, 0)) (by (with_reducible repeat (first | refine blk_drewN ?_ _ | refine blk_drew ?_ | refine blk_alloc ?_ _)); exact BK198.out) hb); have n1_ := Aside0.mk (below_step (by repeat (first | (with_reducible first | exact HB.out | apply below_alloc | apply pw_below_drewN | apply below_drew1 | refine below_set ?_ GE198.out) | exact HB.out)) hb); clear BK198; clear HB; have BK198 := n0_; have HB := n1_; clear n0_ n1_; (try clear hb); (try clear hb2); (try clear hk); (try clear hi); obtain ⟨hcz187_0, hcz187_1, hcz187_2, hcz187_3, hcz187_4, hcz187_5, hcz187_6, hcz187_7, hcz187_8, hcz187_9⟩ := cells10 BK198.out) | (go_at_call 35; (with_reducible refine (cleatref02_Is.calls kj35 a0_6 false _ A155.out).mono ?_); rintro e w' ⟨rfl, ⟨nd, rfl⟩⟩) | ((with_reducible refine gate_callee (f := 36) rfl ?_); refine goesL_ (some 107) rfl rfl Tryd.func36 (by kernel_rfl) rfl #[.int .i64 t199, .int .i64 a0_5] rfl (by (try simp only [List.map_toArray, List.map_cons, List.map_nil]); first | done | rfl | (simp only [List.length_drop, List.length_take]; rfl)) ?_; (with_reducible refine (cleatref04_imm.calls kj35 t199 a0_5 true _ A174.out).mono ?_); rintro e w' ⟨rfl, ⟨nd, rfl⟩⟩; refine ⟨_, rfl, ?_⟩) | (go_at_call 37; (with_reducible refine (cleatref04_amount.calls t199 a0_8 false _ A176.out).mono ?_); rintro e w' ⟨rfl, ⟨nd, rfl⟩⟩))
             go_ret
             exact ⟨by first | rfl | (simp [errW_none, errW_some] <;> rfl) | (simp [*, errW_none, errW_some] <;> rfl), by repeat (first | (with_reducible first | exact HB.out | apply below_alloc | apply pw_below_drewN | apply below_drew1 | refine below_set ?_ GE198.out) | exact HB.out)⟩
           ·replace c175 := Bool.eq_false_iff.mpr c175
            subst c175
            rw [if_neg (show ¬ (false = true) by decide)] at H
            obtain rfl := Option.some.inj H
            obtain ⟨hcz188_0, hcz188_1, hcz188_2, hcz188_3, hcz188_4, hcz188_5, hcz188_6, hcz188_7, hcz188_8, hcz188_9⟩ := cells10 BK198.out
            go_wp2_with (first | (go_at_call 29; (with_reducible refine (cleatref04_Has.calls kj35 t199 (⟨#[99]⟩ : ByteArray) true _ A85.out).mono ?_); rintro e w189 ⟨rfl, hb⟩; have n0_ := Aside0.mk (blk_below (g := gb198) (o := .cells #[.int .i64 a0_0, .int .i64 a0_1, .int .i64 a0_2, .int .i64 a0_3, .int .i64 a0_4, .int .i64 a0_5, .int .u64 a0_6, .int .i64 a0_7, .int .i64 a0_8, .int .i64 a0_9] 24 (0, 0)) (by (with_reducible repeat (first | refine blk_drewN ?_ _ | refine blk_drew ?_ | refine blk_alloc ?_ _)); exact BK198.out) hb); have n1_ := Aside0.mk (below_step (by repeat (first | (with_reducible first | exact HB.out | apply below_alloc | apply pw_below_drewN | apply below_drew1 | refine below_set ?_ GE198.out) | exact HB.out)) hb); clear BK198; clear HB; have BK198 := n0_; have HB := n1_; clear n0_ n1_; (try clear hb); (try clear hb2); (try clear hk); (try clear hi); obtain ⟨hcz190_0, hcz190_1, hcz190_2, hcz190_3, hcz190_4, hcz190_5, hcz190_6, hcz190_7, hcz190_8, hcz190_9⟩ := cells10 BK198.out) | (go_at_call 35; (with_reducible refine (cleatref02_Is.calls kj35 a0_6 false _ A155.out).mono ?_); rintro e w' ⟨rfl, ⟨nd, rfl⟩⟩) | ((with_reducible refine gate_callee (f := 36) rfl ?_); refine goesL_ (some 107) rfl rfl Tryd.func36 (by kernel_rfl) rfl #[.int .i64 t199, .int .i64 a0_5] rfl (by (try simp only [List.map_toArray, List.map_cons, List.map_nil]); first | done | rfl | (simp only [List.length_drop, List.length_take]; rfl)) ?_; (with_reducible refine (cleatref04_imm.calls kj35 t199 a0_5 false _ A174.out).mono ?_); rintro e w' ⟨rfl, ⟨nd, rfl⟩⟩; refine ⟨_, rfl, ?_⟩))
            go_ret
            exact ⟨by first | rfl | (simp [errW_none, errW_some] <;> rfl) | (simp [*, errW_none, errW_some] <;> rfl), by repeat (first | (with_reducible first | exact HB.out | apply below_alloc | apply pw_below_drewN | apply below_drew1 | refine below_set ?_ GE198.out) | exact HB.out)⟩
         ·rw [if_neg c154] at H
          have c154b0 : (t199 == 3) = false := beq_eq_false_iff_ne.mpr c154
          have c154b1 : (t199 != 3) = true := bne_iff_ne.mpr c154
          replace H := Option.bind_eq_some_iff.mp H
          obtain ⟨t224, A1910, H⟩ := H
          replace H : (if t224 = true then ((cleatref04_amount.f t199 a0_8).bind fun t225 => (if t225 = true then (if x4_35 = true then (some false) else (some false)) else (some false))) else (some false)) = some r := H
          have A191 := Aside0.mk A1910
          clear A1910
          by_cases c192 : t224 = true
          ·subst c192
           rw [if_pos rfl] at H
           replace H := Option.bind_eq_some_iff.mp H
           obtain ⟨t225, A1930, H⟩ := H
           replace H : (if t225 = true then (if x4_35 = true then (some false) else (some false)) else (some false)) = some r := H
           have A193 := Aside0.mk A1930
           clear A1930
           by_cases c194 : t225 = true
           ·subst c194
            rw [if_pos rfl] at H
            by_cases c195 : x4_35 = true
            ·subst c195
             rw [if_pos rfl] at H
             obtain rfl := Option.some.inj H
             obtain ⟨hcz196_0, hcz196_1, hcz196_2, hcz196_3, hcz196_4, hcz196_5, hcz196_6, hcz196_7, hcz196_8, hcz196_9⟩ := cells10 BK198.out
             go_wp2_with (first | (go_at_call 29; (with_reducible refine (cleatref04_Has.calls kj35 t199 (⟨#[99]⟩ : ByteArray) true _ A85.out).mono ?_); rintro e w197 ⟨rfl, hb⟩; have n0_ := Aside0.mk (blk_below (g := gb198) (o := .cells #[.int .i64 a0_0, .int .i64 a0_1, .int .i64 a0_2, .int .i64 a0_3, .int .i64 a0_4, .int .i64 a0_5, .int .u64 a0_6, .int .i64 a0_7, .int .i64 a0_8, .int .i64 a0_9] 24 (0, 0)) (by (with_reducible repeat (first | refine blk_drewN ?_ _ | refine blk_drew ?_ | refine blk_alloc ?_ _)); exact BK198.out) hb); have n1_ := Aside0.mk (below_step (by repeat (first | (with_reducible first | exact HB.out | apply below_alloc | apply pw_below_drewN | apply below_drew1 | refine below_set ?_ GE198.out) | exact HB.out)) hb); clear BK198; clear HB; have BK198 := n0_; have HB := n1_; clear n0_ n1_; (try clear hb); (try clear hb2); (try clear hk); (try clear hi); obtain ⟨hcz198_0, hcz198_1, hcz198_2, hcz198_3, hcz198_4, hcz198_5, hcz198_6, hcz198_7, hcz198_8, hcz198_9⟩ := cells10 BK198.out) | ((with_reducible refine gate_callee (f := 36) rfl ?_); refine goesL_ (some 107) rfl rfl Tryd.func36 (by kernel_rfl) rfl #[.int .i64 t199, .int .i64 a0_5] rfl (by (try simp only [List.map_toArray, List.map_cons, List.map_nil]); first | done | rfl | (simp only [List.length_drop, List.length_take]; rfl)) ?_; (with_reducible refine (cleatref04_imm.calls kj35 t199 a0_5 true _ A191.out).mono ?_); rintro e w' ⟨rfl, ⟨nd, rfl⟩⟩; refine ⟨_, rfl, ?_⟩) | (go_at_call 37; (with_reducible refine (cleatref04_amount.calls t199 a0_8 true _ A193.out).mono ?_); rintro e w' ⟨rfl, ⟨nd, rfl⟩⟩))
             go_ret
             exact ⟨by first | rfl | (simp [errW_none, errW_some] <;> rfl) | (simp [*, errW_none, errW_some] <;> rfl), by repeat (first | (with_reducible first | exact HB.out | apply below_alloc | apply pw_below_drewN | apply below_drew1 | refine below_set ?_ GE198.out) | exact HB.out)⟩
            ·replace c195 := Bool.eq_false_iff.mpr c195
             subst c195
             rw [if_neg (show ¬ (false = true) by decide)] at H
             obtain rfl := Option.some.inj H
             obtain ⟨hcz199_0, hcz199_1, hcz199_2, hcz199_3, hcz199_4, hcz199_5, hcz199_6, hcz199_7, hcz199_8, hcz199_9⟩ := cells10 BK198.out
             go_wp2_with (first | (go_at_call 29; (with_reducible refine (cleatref04_Has.calls kj35 t199 (⟨#[99]⟩ : ByteArray) true _ A85.out).mono ?_); rintro e w200 ⟨rfl, hb⟩; have n0_ := Aside0.mk (blk_below (g := gb198) (o := .cells #[.int .i64 a0_0, .int .i64 a0_1, .int .i64 a0_2, .int .i64 a0_3, .int .i64 a0_4, .int .i64 a0_5, .int .u64 a0_6, .int .i64 a0_7, .int .i64 a0_8, .int .i64 a0_9] 24 (0, 0)) (by (with_reducible repeat (first | refine blk_drewN ?_ _ | refine blk_drew ?_ | refine blk_alloc ?_ _)); exact BK198.out) hb); have n1_ := Aside0.mk (below_step (by repeat (first | (with_reducible first | exact HB.out | apply below_alloc | apply pw_below_drewN | apply below_drew1 | refine below_set ?_ GE198.out) | exact HB.out)) hb); clear BK198; clear HB; have BK198 := n0_; have HB := n1_; clear n0_ n1_; (try clear hb); (try clear hb2); (try clear hk); (try clear hi); obtain ⟨hcz201_0, hcz201_1, hcz201_2, hcz201_3, hcz201_4, hcz201_5, hcz201_6, hcz201_7, hcz201_8, hcz201_9⟩ := cells10 BK198.out) | ((with_reducible refine gate_callee (f := 36) rfl ?_); refine goesL_ (some 107) rfl rfl Tryd.func36 (by kernel_rfl) rfl #[.int .i64 t199, .int .i64 a0_5] rfl (by (try simp only [List.map_toArray, List.map_cons, List.map_nil]); first | done | rfl | (simp only [List.length_drop, List.length_take]; rfl)) ?_; (with_reducible refine (cleatref04_imm.calls kj35 t199 a0_5 true _ A191.out).mono ?_); rintro e w' ⟨rfl, ⟨nd, rfl⟩⟩; refine ⟨_, rfl, ?_⟩) | (go_at_call 37; (with_reducible refine (cleatref04_amount.calls t199 a0_8 true _ A193.out).mono ?_); rintro e w' ⟨rfl, ⟨nd, rfl⟩⟩))
             go_ret
             exact ⟨by first | rfl | (simp [errW_none, errW_some] <;> rfl) | (simp [*, errW_none, errW_some] <;> rfl), by repeat (first | (with_reducible first | exact HB.out | apply below_alloc | apply pw_below_drewN | apply below_drew1 | refine below_set ?_ GE198.out) | exact HB.out)⟩
           ·replace c194 := Bool.eq_false_iff.mpr c194
            subst c194
            rw [if_neg (show ¬ (false = true) by decide)] at H
            obtain rfl := Option.some.inj H
            obtain ⟨hcz202_0, hcz202_1, hcz202_2, hcz202_3, hcz202_4, hcz202_5, hcz202_6, hcz202_7, hcz202_8, hcz202_9⟩ := cells10 BK198.out
            go_wp2_with (first | (go_at_call 29; (with_reducible refine (cleatref04_Has.calls kj35 t199 (⟨#[99]⟩ : ByteArray) true _ A85.out).mono ?_); rintro e w203 ⟨rfl, hb⟩; have n0_ := Aside0.mk (blk_below (g := gb198) (o := .cells #[.int .i64 a0_0, .int .i64 a0_1, .int .i64 a0_2, .int .i64 a0_3, .int .i64 a0_4, .int .i64 a0_5, .int .u64 a0_6, .int .i64 a0_7, .int .i64 a0_8, .int .i64 a0_9] 24 (0, 0)) (by (with_reducible repeat (first | refine blk_drewN ?_ _ | refine blk_drew ?_ | refine blk_alloc ?_ _)); exact BK198.out) hb); have n1_ := Aside0.mk (below_step (by repeat (first | (with_reducible first | exact HB.out | apply below_alloc | apply pw_below_drewN | apply below_drew1 | refine below_set ?_ GE198.out) | exact HB.out)) hb); clear BK198; clear HB; have BK198 := n0_; have HB := n1_; clear n0_ n1_; (try clear hb); (try clear hb2); (try clear hk); (try clear hi); obtain ⟨hcz204_0, hcz204_1, hcz204_2, hcz204_3, hcz204_4, hcz204_5, hcz204_6, hcz204_7, hcz204_8, hcz204_9⟩ := cells10 BK198.out) | ((with_reducible refine gate_callee (f := 36) rfl ?_); refine goesL_ (some 107) rfl rfl Tryd.func36 (by kernel_rfl) rfl #[.int .i64 t199, .int .i64 a0_5] rfl (by (try simp only [List.map_toArray, List.map_cons, List.map_nil]); first | done | rfl | (simp only [List.length_drop, List.length_take]; rfl)) ?_; (with_reducible refine (cleatref04_imm.calls kj35 t199 a0_5 true _ A191.out).mono ?_); rintro e w' ⟨rfl, ⟨nd, rfl⟩⟩; refine ⟨_, rfl, ?_⟩) | (go_at_call 37; (with_reducible refine (cleatref04_amount.calls t199 a0_8 false _ A193.out).mono ?_); rintro e w' ⟨rfl, ⟨nd, rfl⟩⟩))
            go_ret
            exact ⟨by first | rfl | (simp [errW_none, errW_some] <;> rfl) | (simp [*, errW_none, errW_some] <;> rfl), by repeat (first | (with_reducible first | exact HB.out | apply below_alloc | apply pw_below_drewN | apply below_drew1 | refine below_set ?_ GE198.out) | exact HB.out)⟩
          ·replace c192 := Bool.eq_false_iff.mpr c192
           subst c192
           rw [if_neg (show ¬ (false = true) by decide)] at H
           obtain rfl := Option.some.inj H
           obtain ⟨hcz205_0, hcz205_1, hcz205_2, hcz205_3, hcz205_4, hcz205_5, hcz205_6, hcz205_7, hcz205_8, hcz205_9⟩ := cells10 BK198.out
           go_wp2_with (first | (go_at_call 29; (with_reducible refine (cleatref04_Has.calls kj35 t199 (⟨#[99]⟩ : ByteArray) true _ A85.out).mono ?_); rintro e w206 ⟨rfl, hb⟩; have n0_ := Aside0.mk (blk_below (g := gb198) (o := .cells #[.int .i64 a0_0, .int .i64 a0_1, .int .i64 a0_2, .int .i64 a0_3, .int .i64 a0_4, .int .i64 a0_5, .int .u64 a0_6, .int .i64 a0_7, .int .i64 a0_8, .int .i64 a0_9] 24 (0, 0)) (by (with_reducible repeat (first | refine blk_drewN ?_ _ | refine blk_drew ?_ | refine blk_alloc ?_ _)); exact BK198.out) hb); have n1_ := Aside0.mk (below_step (by repeat (first | (with_reducible first | exact HB.out | apply below_alloc | apply pw_below_drewN | apply below_drew1 | refine below_set ?_ GE198.out) | exact HB.out)) hb); clear BK198; clear HB; have BK198 := n0_; have HB := n1_; clear n0_ n1_; (try clear hb); (try clear hb2); (try clear hk); (try clear hi); obtain ⟨hcz207_0, hcz207_1, hcz207_2, hcz207_3, hcz207_4, hcz207_5, hcz207_6, hcz207_7, hcz207_8, hcz207_9⟩ := cells10 BK198.out) | ((with_reducible refine gate_callee (f := 36) rfl ?_); refine goesL_ (some 107) rfl rfl Tryd.func36 (by kernel_rfl) rfl #[.int .i64 t199, .int .i64 a0_5] rfl (by (try simp only [List.map_toArray, List.map_cons, List.map_nil]); first | done | rfl | (simp only [List.length_drop, List.length_take]; rfl)) ?_; (with_reducible refine (cleatref04_imm.calls kj35 t199 a0_5 false _ A191.out).mono ?_); rintro e w' ⟨rfl, ⟨nd, rfl⟩⟩; refine ⟨_, rfl, ?_⟩))
           go_ret
           exact ⟨by first | rfl | (simp [errW_none, errW_some] <;> rfl) | (simp [*, errW_none, errW_some] <;> rfl), by repeat (first | (with_reducible first | exact HB.out | apply below_alloc | apply pw_below_drewN | apply below_drew1 | refine below_set ?_ GE198.out) | exact HB.out)⟩
       ·replace c86 := Bool.eq_false_iff.mpr c86
        subst c86
        rw [if_neg (show ¬ (false = true) by decide)] at H
        by_cases c208 : t199 = 3
        ·rw [if_pos c208] at H
         have c208b0 : (t199 == 3) = true := beq_iff_eq.mpr c208
         have c208b1 : (t199 != 3) = false := bne_eq_false_iff_eq.mpr c208
         clear c208
         replace H := Option.bind_eq_some_iff.mp H
         obtain ⟨t226, A2090, H⟩ := H
         replace H : (if t226 = true then ((cleatref04_imm.f kj35 t199 a0_5).bind fun t227 => (if t227 = true then ((cleatref04_amount.f t199 a0_8).bind fun t228 => (if t228 = true then (if x4_35 = true then (some false) else (some false)) else (some false))) else (some false))) else ((cleatref04_imm.f kj35 t199 a0_5).bind fun t229 => (if t229 = true then ((cleatref04_amount.f t199 a0_8).bind fun t230 => (if t230 = true then (if x4_35 = true then (some false) else (some false)) else (some false))) else (some false)))) = some r := H
         have A209 := Aside0.mk A2090
         clear A2090
         by_cases c210 : t226 = true
         ·subst c210
          rw [if_pos rfl] at H
          replace H := Option.bind_eq_some_iff.mp H
          obtain ⟨t227, A2110, H⟩ := H
          replace H : (if t227 = true then ((cleatref04_amount.f t199 a0_8).bind fun t228 => (if t228 = true then (if x4_35 = true then (some false) else (some false)) else (some false))) else (some false)) = some r := H
          have A211 := Aside0.mk A2110
          clear A2110
          by_cases c212 : t227 = true
          ·subst c212
           rw [if_pos rfl] at H
           replace H := Option.bind_eq_some_iff.mp H
           obtain ⟨t228, A2130, H⟩ := H
           replace H : (if t228 = true then (if x4_35 = true then (some false) else (some false)) else (some false)) = some r := H
           have A213 := Aside0.mk A2130
           clear A2130
           by_cases c214 : t228 = true
           ·subst c214
            rw [if_pos rfl] at H
            by_cases c215 : x4_35 = true
            ·subst c215
             rw [if_pos rfl] at H
             obtain rfl := Option.some.inj H
             obtain ⟨hcz216_0, hcz216_1, hcz216_2, hcz216_3, hcz216_4, hcz216_5, hcz216_6, hcz216_7, hcz216_8, hcz216_9⟩ := cells10 BK198.out
             go_wp2_with (first | (go_at_call 29; (with_reducible refine (cleatref04_Has.calls kj35 t199 (⟨#[99]⟩ : ByteArray) false _ A85.out).mono ?_); rintro e w217 ⟨rfl, hb⟩; have n0_ := Aside0.mk (blk_below (g := gb198) (o := .cells #[.int .i64 a0_0, .int .i64 a0_1, .int .i64 a0_2, .int .i64 a0_3, .int .i64 a0_4, .int .i64 a0_5, .int .u64 a0_6, .int .i64 a0_7, .int .i64 a0_8, .int .i64 a0_9] 24 (0, 0)) (by (with_reducible repeat (first | refine blk_drewN ?_ _ | refine blk_drew ?_ | refine blk_alloc ?_ _)); exact BK198.out) hb); have n1_ := Aside0.mk (below_step (by repeat (first | (with_reducible first | exact HB.out | apply below_alloc | apply pw_below_drewN | apply below_drew1 | refine below_set ?_ GE198.out) | exact HB.out)) hb); clear BK198; clear HB; have BK198 := n0_; have HB := n1_; clear n0_ n1_; (try clear hb); (try clear hb2); (try clear hk); (try clear hi); obtain ⟨hcz218_0, hcz218_1, hcz218_2, hcz218_3, hcz218_4, hcz218_5, hcz218_6, hcz218_7, hcz218_8, hcz218_9⟩ := cells10 BK198.out) | (go_at_call 35; (with_reducible refine (cleatref02_Is.calls kj35 a0_6 true _ A209.out).mono ?_); rintro e w' ⟨rfl, ⟨nd, rfl⟩⟩) | ((with_reducible refine gate_callee (f := 36) rfl ?_); refine goesL_ (some 107) rfl rfl Tryd.func36 (by kernel_rfl) rfl #[.int .i64 t199, .int .i64 a0_5] rfl (by (try simp only [List.map_toArray, List.map_cons, List.map_nil]); first | done | rfl | (simp only [List.length_drop, List.length_take]; rfl)) ?_; (with_reducible refine (cleatref04_imm.calls kj35 t199 a0_5 true _ A211.out).mono ?_); rintro e w' ⟨rfl, ⟨nd, rfl⟩⟩; refine ⟨_, rfl, ?_⟩) | (go_at_call 37; (with_reducible refine (cleatref04_amount.calls t199 a0_8 true _ A213.out).mono ?_); rintro e w' ⟨rfl, ⟨nd, rfl⟩⟩))
             go_ret
             exact ⟨by first | rfl | (simp [errW_none, errW_some] <;> rfl) | (simp [*, errW_none, errW_some] <;> rfl), by repeat (first | (with_reducible first | exact HB.out | apply below_alloc | apply pw_below_drewN | apply below_drew1 | refine below_set ?_ GE198.out) | exact HB.out)⟩
            ·replace c215 := Bool.eq_false_iff.mpr c215
             subst c215
             rw [if_neg (show ¬ (false = true) by decide)] at H
             obtain rfl := Option.some.inj H
             obtain ⟨hcz219_0, hcz219_1, hcz219_2, hcz219_3, hcz219_4, hcz219_5, hcz219_6, hcz219_7, hcz219_8, hcz219_9⟩ := cells10 BK198.out
             go_wp2_with (first | (go_at_call 29; (with_reducible refine (cleatref04_Has.calls kj35 t199 (⟨#[99]⟩ : ByteArray) false _ A85.out).mono ?_); rintro e w220 ⟨rfl, hb⟩; have n0_ := Aside0.mk (blk_below (g := gb198) (o := .cells #[.int .i64 a0_0, .int .i64 a0_1, .int .i64 a0_2, .int .i64 a0_3, .int .i64 a0_4, .int .i64 a0_5, .int .u64 a0_6, .int .i64 a0_7, .int .i64 a0_8, .int .i64 a0_9] 24 (0, 0)) (by (with_reducible repeat (first | refine blk_drewN ?_ _ | refine blk_drew ?_ | refine blk_alloc ?_ _)); exact BK198.out) hb); have n1_ := Aside0.mk (below_step (by repeat (first | (with_reducible first | exact HB.out | apply below_alloc | apply pw_below_drewN | apply below_drew1 | refine below_set ?_ GE198.out) | exact HB.out)) hb); clear BK198; clear HB; have BK198 := n0_; have HB := n1_; clear n0_ n1_; (try clear hb); (try clear hb2); (try clear hk); (try clear hi); obtain ⟨hcz221_0, hcz221_1, hcz221_2, hcz221_3, hcz221_4, hcz221_5, hcz221_6, hcz221_7, hcz221_8, hcz221_9⟩ := cells10 BK198.out) | (go_at_call 35; (with_reducible refine (cleatref02_Is.calls kj35 a0_6 true _ A209.out).mono ?_); rintro e w' ⟨rfl, ⟨nd, rfl⟩⟩) | ((with_reducible refine gate_callee (f := 36) rfl ?_); refine goesL_ (some 107) rfl rfl Tryd.func36 (by kernel_rfl) rfl #[.int .i64 t199, .int .i64 a0_5] rfl (by (try simp only [List.map_toArray, List.map_cons, List.map_nil]); first | done | rfl | (simp only [List.length_drop, List.length_take]; rfl)) ?_; (with_reducible refine (cleatref04_imm.calls kj35 t199 a0_5 true _ A211.out).mono ?_); rintro e w' ⟨rfl, ⟨nd, rfl⟩⟩; refine ⟨_, rfl, ?_⟩) | (go_at_call 37; (with_reducible refine (cleatref04_amount.calls t199 a0_8 true _ A213.out).mono ?_); rintro e w' ⟨rfl, ⟨nd, rfl⟩⟩))
             go_ret
             exact ⟨by first | rfl | (simp [errW_none, errW_some] <;> rfl) | (simp [*, errW_none, errW_some] <;> rfl), by repeat (first | (with_reducible first | exact HB.out | apply below_alloc | apply pw_below_drewN | apply below_drew1 | refine below_set ?_ GE198.out) | exact HB.out)⟩
           ·replace c214 := Bool.eq_false_iff.mpr c214
            subst c214
            rw [if_neg (show ¬ (false = true) by decide)] at H
            obtain rfl := Option.some.inj H
            obtain ⟨hcz222_0, hcz222_1, hcz222_2, hcz222_3, hcz222_4, hcz222_5, hcz222_6, hcz222_7, hcz222_8, hcz222_9⟩ := cells10 BK198.out
            go_wp2_with (first | (go_at_call 29; (with_reducible refine (cleatref04_Has.calls kj35 t199 (⟨#[99]⟩ : ByteArray) false _ A85.out).mono ?_); rintro e w223 ⟨rfl, hb⟩; have n0_ := Aside0.mk (blk_below (g := gb198) (o := .cells #[.int .i64 a0_0, .int .i64 a0_1, .int .i64 a0_2, .int .i64 a0_3, .int .i64 a0_4, .int .i64 a0_5, .int .u64 a0_6, .int .i64 a0_7, .int .i64 a0_8, .int .i64 a0_9] 24 (0, 0)) (by (with_reducible repeat (first | refine blk_drewN ?_ _ | refine blk_drew ?_ | refine blk_alloc ?_ _)); exact BK198.out) hb); have n1_ := Aside0.mk (below_step (by repeat (first | (with_reducible first | exact HB.out | apply below_alloc | apply pw_below_drewN | apply below_drew1 | refine below_set ?_ GE198.out) | exact HB.out)) hb); clear BK198; clear HB; have BK198 := n0_; have HB := n1_; clear n0_ n1_; (try clear hb); (try clear hb2); (try clear hk); (try clear hi); obtain ⟨hcz224_0, hcz224_1, hcz224_2, hcz224_3, hcz224_4, hcz224_5, hcz224_6, hcz224_7, hcz224_8, hcz224_9⟩ := cells10 BK198.out) | (go_at_call 35; (with_reducible refine (cleatref02_Is.calls kj35 a0_6 true _ A209.out).mono ?_); rintro e w' ⟨rfl, ⟨nd, rfl⟩⟩) | ((with_reducible refine gate_callee (f := 36) rfl ?_); refine goesL_ (some 107) rfl rfl Tryd.func36 (by kernel_rfl) rfl #[.int .i64 t199, .int .i64 a0_5] rfl (by (try simp only [List.map_toArray, List.map_cons, List.map_nil]); first | done | rfl | (simp only [List.length_drop, List.length_take]; rfl)) ?_; (with_reducible refine (cleatref04_imm.calls kj35 t199 a0_5 true _ A211.out).mono ?_); rintro e w' ⟨rfl, ⟨nd, rfl⟩⟩; refine ⟨_, rfl, ?_⟩) | (go_at_call 37; (with_reducible refine (cleatref04_amount.calls t199 a0_8 false _ A213.out).mono ?_); rintro e w' ⟨rfl, ⟨nd, rfl⟩⟩))
            go_ret
            exact ⟨by first | rfl | (simp [errW_none, errW_some] <;> rfl) | (simp [*, errW_none, errW_some] <;> rfl), by repeat (first | (with_reducible first | exact HB.out | apply below_alloc | apply pw_below_drewN | apply below_drew1 | refine below_set ?_ GE198.out) | exact HB.out)⟩
          ·replace c212 := Bool.eq_false_iff.mpr c212
           subst c212
           rw [if_neg (show ¬ (false = true) by decide)] at H
           obtain rfl := Option.some.inj H
           obtain ⟨hcz225_0, hcz225_1, hcz225_2, hcz225_3, hcz225_4, hcz225_5, hcz225_6, hcz225_7, hcz225_8, hcz225_9⟩ := cells10 BK198.out
           go_wp2_with (first | (go_at_call 29; (with_reducible refine (cleatref04_Has.calls kj35 t199 (⟨#[99]⟩ : ByteArray) false _ A85.out).mono ?_); rintro e w226 ⟨rfl, hb⟩; have n0_ := Aside0.mk (blk_below (g := gb198) (o := .cells #[.int .i64 a0_0, .int .i64 a0_1, .int .i64 a0_2, .int .i64 a0_3, .int .i64 a0_4, .int .i64 a0_5, .int .u64 a0_6, .int .i64 a0_7, .int .i64 a0_8, .int .i64 a0_9] 24 (0, 0)) (by (with_reducible repeat (first | refine blk_drewN ?_ _ | refine blk_drew ?_ | refine blk_alloc ?_ _)); exact BK198.out) hb); have n1_ := Aside0.mk (below_step (by repeat (first | (with_reducible first | exact HB.out | apply below_alloc | apply pw_below_drewN | apply below_drew1 | refine below_set ?_ GE198.out) | exact HB.out)) hb); clear BK198; clear HB; have BK198 := n0_; have HB := n1_; clear n0_ n1_; (try clear hb); (try clear hb2); (try clear hk); (try clear hi); obtain ⟨hcz227_0, hcz227_1, hcz227_2, hcz227_3, hcz227_4, hcz227_5, hcz227_6, hcz227_7, hcz227_8, hcz227_9⟩ := cells10 BK198.out) | (go_at_call 35; (with_reducible refine (cleatref02_Is.calls kj35 a0_6 true _ A209.out).mono ?_); rintro e w' ⟨rfl, ⟨nd, rfl⟩⟩) | ((with_reducible refine gate_callee (f := 36) rfl ?_); refine goesL_ (some 107) rfl rfl Tryd.func36 (by kernel_rfl) rfl #[.int .i64 t199, .int .i64 a0_5] rfl (by (try simp only [List.map_toArray, List.map_cons, List.map_nil]); first | done | rfl | (simp only [List.length_drop, List.length_take]; rfl)) ?_; (with_reducible refine (cleatref04_imm.calls kj35 t199 a0_5 false _ A211.out).mono ?_); rintro e w' ⟨rfl, ⟨nd, rfl⟩⟩; refine ⟨_, rfl, ?_⟩))
           go_ret
           exact ⟨by first | rfl | (simp [errW_none, errW_some] <;> rfl) | (simp [*, errW_none, errW_some] <;> rfl), by repeat (first | (with_reducible first | exact HB.out | apply below_alloc | apply pw_below_drewN | apply below_drew1 | refine below_set ?_ GE198.out) | exact HB.out)⟩
         ·replace c210 := Bool.eq_false_iff.mpr c210
          subst c210
          rw [if_neg (show ¬ (false = true) by decide)] at H
          replace H := Option.bind_eq_some_iff.mp H
          obtain ⟨t229, A2280, H⟩ := H
          replace H : (if t229 = true then ((cleatref04_amount.f t199 a0_8).bind fun t230 => (if t230 = true then (if x4_35 = true then (some false) else (some false)) else (some false))) else (some false)) = some r := H
          have A228 := Aside0.mk A2280
          clear A2280
          by_cases c229 : t229 = true
          ·subst c229
           rw [if_pos rfl] at H
           replace H := Option.bind_eq_some_iff.mp H
           obtain ⟨t230, A2300, H⟩ := H
           replace H : (if t230 = true then (if x4_35 = true then (some false) else (some false)) else (some false)) = some r := H
           have A230 := Aside0.mk A2300
           clear A2300
           by_cases c231 : t230 = true
           ·subst c231
            rw [if_pos rfl] at H
            by_cases c232 : x4_35 = true
            ·subst c232
             rw [if_pos rfl] at H
             obtain rfl := Option.some.inj H
             obtain ⟨hcz233_0, hcz233_1, hcz233_2, hcz233_3, hcz233_4, hcz233_5, hcz233_6, hcz233_7, hcz233_8, hcz233_9⟩ := cells10 BK198.out
             go_wp2_with (first | (go_at_call 29; (with_reducible refine (cleatref04_Has.calls kj35 t199 (⟨#[99]⟩ : ByteArray) false _ A85.out).mono ?_); rintro e w234 ⟨rfl, hb⟩; have n0_ := Aside0.mk (blk_below (g := gb198) (o := .cells #[.int .i64 a0_0, .int .i64 a0_1, .int .i64 a0_2, .int .i64 a0_3, .int .i64 a0_4, .int .i64 a0_5, .int .u64 a0_6, .int .i64 a0_7, .int .i64 a0_8, .int .i64 a0_9] 24 (0, 0)) (by (with_reducible repeat (first | refine blk_drewN ?_ _ | refine blk_drew ?_ | refine blk_alloc ?_ _)); exact BK198.out) hb); have n1_ := Aside0.mk (below_step (by repeat (first | (with_reducible first | exact HB.out | apply below_alloc | apply pw_below_drewN | apply below_drew1 | refine below_set ?_ GE198.out) | exact HB.out)) hb); clear BK198; clear HB; have BK198 := n0_; have HB := n1_; clear n0_ n1_; (try clear hb); (try clear hb2); (try clear hk); (try clear hi); obtain ⟨hcz235_0, hcz235_1, hcz235_2, hcz235_3, hcz235_4, hcz235_5, hcz235_6, hcz235_7, hcz235_8, hcz235_9⟩ := cells10 BK198.out) | (go_at_call 35; (with_reducible refine (cleatref02_Is.calls kj35 a0_6 false _ A209.out).mono ?_); rintro e w' ⟨rfl, ⟨nd, rfl⟩⟩) | ((with_reducible refine gate_callee (f := 36) rfl ?_); refine goesL_ (some 107) rfl rfl Tryd.func36 (by kernel_rfl) rfl #[.int .i64 t199, .int .i64 a0_5] rfl (by (try simp only [List.map_toArray, List.map_cons, List.map_nil]); first | done | rfl | (simp only [List.length_drop, List.length_take]; rfl)) ?_; (with_reducible refine (cleatref04_imm.calls kj35 t199 a0_5 true _ A228.out).mono ?_); rintro e w' ⟨rfl, ⟨nd, rfl⟩⟩; refine ⟨_, rfl, ?_⟩) | (go_at_call 37; (with_reducible refine (cleatref04_amount.calls t199 a0_8 true _ A230.out).mono ?_); rintro e w' ⟨rfl, ⟨nd, rfl⟩⟩))
             go_ret
             exact ⟨by first | rfl | (simp [errW_none, errW_some] <;> rfl) | (simp [*, errW_none, errW_some] <;> rfl), by repeat (first | (with_reducible first | exact HB.out | apply below_alloc | apply pw_below_drewN | apply below_drew1 | refine below_set ?_ GE198.out) | exact HB.out)⟩
            ·replace c232 := Bool.eq_false_iff.mpr c232
             subst c232
             rw [if_neg (show ¬ (false = true) by decide)] at H
             obtain rfl := Option.some.inj H
             obtain ⟨hcz236_0, hcz236_1, hcz236_2, hcz236_3, hcz236_4, hcz236_5, hcz236_6, hcz236_7, hcz236_8, hcz236_9⟩ := cells10 BK198.out
             go_wp2_with (first | (go_at_call 29; (with_reducible refine (cleatref04_Has.calls kj35 t199 (⟨#[99]⟩ : ByteArray) false _ A85.out).mono ?_); rintro e w237 ⟨rfl, hb⟩; have n0_ := Aside0.mk (blk_below (g := gb198) (o := .cells #[.int .i64 a0_0, .int .i64 a0_1, .int .i64 a0_2, .int .i64 a0_3, .int .i64 a0_4, .int .i64 a0_5, .int .u64 a0_6, .int .i64 a0_7, .int .i64 a0_8, .int .i64 a0_9] 24 (0, 0)) (by (with_reducible repeat (first | refine blk_drewN ?_ _ | refine blk_drew ?_ | refine blk_alloc ?_ _)); exact BK198.out) hb); have n1_ := Aside0.mk (below_step (by repeat (first | (with_reducible first | exact HB.out | apply below_alloc | apply pw_below_drewN | apply below_drew1 | refine below_set ?_ GE198.out) | exact HB.out)) hb); clear BK198; clear HB; have BK198 := n0_; have HB := n1_; clear n0_ n1_; (try clear hb); (try clear hb2); (try clear hk); (try clear hi); obtain ⟨hcz238_0, hcz238_1, hcz238_2, hcz238_3, hcz238_4, hcz238_5, hcz238_6, hcz238_7, hcz238_8, hcz238_9⟩ := cells10 BK198.out) | (go_at_call 35; (with_reducible refine (cleatref02_Is.calls kj35 a0_6 false _ A209.out).mono ?_); rintro e w' ⟨rfl, ⟨nd, rfl⟩⟩) | ((with_reducible refine gate_callee (f := 36) rfl ?_); refine goesL_ (some 107) rfl rfl Tryd.func36 (by kernel_rfl) rfl #[.int .i64 t199, .int .i64 a0_5] rfl (by (try simp only [List.map_toArray, List.map_cons, List.map_nil]); first | done | rfl | (simp only [List.length_drop, List.length_take]; rfl)) ?_; (with_reducible refine (cleatref04_imm.calls kj35 t199 a0_5 true _ A228.out).mono ?_); rintro e w' ⟨rfl, ⟨nd, rfl⟩⟩; refine ⟨_, rfl, ?_⟩) | (go_at_call 37; (with_reducible refine (cleatref04_amount.calls t199 a0_8 true _ A230.out).mono ?_); rintro e w' ⟨rfl, ⟨nd, rfl⟩⟩))
             go_ret
             exact ⟨by first | rfl | (simp [errW_none, errW_some] <;> rfl) | (simp [*, errW_none, errW_some] <;> rfl), by repeat (first | (with_reducible first | exact HB.out | apply below_alloc | apply pw_below_drewN | apply below_drew1 | refine below_set ?_ GE198.out) | exact HB.out)⟩
           ·replace c231 := Bool.eq_false_iff.mpr c231
            subst c231
            rw [if_neg (show ¬ (false = true) by decide)] at H
            obtain rfl := Option.some.inj H
            obtain ⟨hcz239_0, hcz239_1, hcz239_2, hcz239_3, hcz239_4, hcz239_5, hcz239_6, hcz239_7, hcz239_8, hcz239_9⟩ := cells10 BK198.out
            go_wp2_with (first | (go_at_call 29; (with_reducible refine (cleatref04_Has.calls kj35 t199 (⟨#[99]⟩ : ByteArray) false _ A85.out).mono ?_); rintro e w240 ⟨rfl, hb⟩; have n0_ := Aside0.mk (blk_below (g := gb198) (o := .cells #[.int .i64 a0_0, .int .i64 a0_1, .int .i64 a0_2, .int .i64 a0_3, .int .i64 a0_4, .int .i64 a0_5, .int .u64 a0_6, .int .i64 a0_7, .int .i64 a0_8, .int .i64 a0_9] 24 (0, 0)) (by (with_reducible repeat (first | refine blk_drewN ?_ _ | refine blk_drew ?_ | refine blk_alloc ?_ _)); exact BK198.out) hb); have n1_ := Aside0.mk (below_step (by repeat (first | (with_reducible first | exact HB.out | apply below_alloc | apply pw_below_drewN | apply below_drew1 | refine below_set ?_ GE198.out) | exact HB.out)) hb); clear BK198; clear HB; have BK198 := n0_; have HB := n1_; clear n0_ n1_; (try clear hb); (try clear hb2); (try clear hk); (try clear hi); obtain ⟨hcz241_0, hcz241_1, hcz241_2, hcz241_3, hcz241_4, hcz241_5, hcz241_6, hcz241_7, hcz241_8, hcz241_9⟩ := cells10 BK198.out) | (go_at_call 35; (with_reducible refine (cleatref02_Is.calls kj35 a0_6 false _ A209.out).mono ?_); rintro e w' ⟨rfl, ⟨nd, rfl⟩⟩) | ((with_reducible refine gate_callee (f := 36) rfl ?_); refine goesL_ (some 107) rfl rfl Tryd.func36 (by kernel_rfl) rfl #[.int .i64 t199, .int .i64 a0_5] rfl (by (try simp only [List.map_toArray, List.map_cons, List.map_nil]); first | done | rfl | (simp only [List.length_drop, List.length_take]; rfl)) ?_; (with_reducible refine (cleatref04_imm.calls kj35 t199 a0_5 true _ A228.out).mono ?_); rintro e w' ⟨rfl, ⟨nd, rfl⟩⟩; refine ⟨_, rfl, ?_⟩) | (go_at_call 37; (with_reducible refine (cleatref04_amount.calls t199 a0_8 false _ A230.out).mono ?_); rintro e w' ⟨rfl, ⟨nd, rfl⟩⟩))
            go_ret
            exact ⟨by first | rfl | (simp [errW_none, errW_some] <;> rfl) | (simp [*, errW_none, errW_some] <;> rfl), by repeat (first | (with_reducible first | exact HB.out | apply below_alloc | apply pw_below_drewN | apply below_drew1 | refine below_set ?_ GE198.out) | exact HB.out)⟩
          ·replace c229 := Bool.eq_false_iff.mpr c229
           subst c229
           rw [if_neg (show ¬ (false = true) by decide)] at H
           obtain rfl := Option.some.inj H
           obtain ⟨hcz242_0, hcz242_1, hcz242_2, hcz242_3, hcz242_4, hcz242_5, hcz242_6, hcz242_7, hcz242_8, hcz242_9⟩ := cells10 BK198.out
           go_wp2_with (first | (go_at_call 29; (with_reducible refine (cleatref04_Has.calls kj35 t199 (⟨#[99]⟩ : ByteArray) false _ A85.out).mono ?_); rintro e w243 ⟨rfl, hb⟩; have n0_ := Aside0.mk (blk_below (g := gb198) (o := .cells #[.int .i64 a0_0, .int .i64 a0_1, .int .i64 a0_2, .int .i64 a0_3, .int .i64 a0_4, .int .i64 a0_5, .int .u64 a0_6, .int .i64 a0_7, .int .i64 a0_8, .int .i64 a0_9] 24 (0, 0)) (by (with_reducible repeat (first | refine blk_drewN ?_ _ | refine blk_drew ?_ | refine blk_alloc ?_ _)); exact BK198.out) hb); have n1_ := Aside0.mk (below_step (by repeat (first | (with_reducible first | exact HB.out | apply below_alloc | apply pw_below_drewN | apply below_drew1 | refine below_set ?_ GE198.out) | exact HB.out)) hb); clear BK198; clear HB; have BK198 := n0_; have HB := n1_; clear n0_ n1_; (try clear hb); (try clear hb2); (try clear hk); (try clear hi); obtain ⟨hcz244_0, hcz244_1, hcz244_2, hcz244_3, hcz244_4, hcz244_5, hcz244_6, hcz244_7, hcz244_8, hcz244_9⟩ := cells10 BK198.out) | (go_at_call 35; (with_reducible refine (cleatref02_Is.calls kj35 a0_6 false _ A209.out).mono ?_); rintro e w' ⟨rfl, ⟨nd, rfl⟩⟩) | ((with_reducible refine gate_callee (f := 36) rfl ?_); refine goesL_ (some 107) rfl rfl Tryd.func36 (by kernel_rfl) rfl #[.int .i64 t199, .int .i64 a0_5] rfl (by (try simp only [List.map_toArray, List.map_cons, List.map_nil]); first | done | rfl | (simp only [List.length_drop, List.length_take]; rfl)) ?_; (with_reducible refine (cleatref04_imm.calls kj35 t199 a0_5 false _ A228.out).mono ?_); rintro e w' ⟨rfl, ⟨nd, rfl⟩⟩; refine ⟨_, rfl, ?_⟩))
           go_ret
           exact ⟨by first | rfl | (simp [errW_none, errW_some] <;> rfl) | (simp [*, errW_none, errW_some] <;> rfl), by repeat (first | (with_reducible first | exact HB.out | apply below_alloc | apply pw_below_drewN | apply below_drew1 | refine below_set ?_ GE198.out) | exact HB.out)⟩
        ·rw [if_neg c208] at H
         have c208b0 : (t199 == 3) = false := beq_eq_false_iff_ne.mpr c208
         have c208b1 : (t199 != 3) = true := bne_iff_ne.mpr c208
         replace H := Option.bind_eq_some_iff.mp H
         obtain ⟨t231, A2450, H⟩ := H
         replace H : (if t231 = true then ((cleatref04_amount.f t199 a0_8).bind fun t232 => (if t232 = true then (if x4_35 = true then (some false) else (some false)) else (some false))) else (some false)) = some r := H
         have A245 := Aside0.mk A2450
         clear A2450
         by_cases c246 : t231 = true
         ·subst c246
          rw [if_pos rfl] at H
          replace H := Option.bind_eq_some_iff.mp H
          obtain ⟨t232, A2470, H⟩ := H
          replace H : (if t232 = true then (if x4_35 = true then (some false) else (some false)) else (some false)) = some r := H
          have A247 := Aside0.mk A2470
          clear A2470
          by_cases c248 : t232 = true
          ·subst c248
           rw [if_pos rfl] at H
           by_cases c249 : x4_35 = true
           ·subst c249
            rw [if_pos rfl] at H
            obtain rfl := Option.some.inj H
            obtain ⟨hcz250_0, hcz250_1, hcz250_2, hcz250_3, hcz250_4, hcz250_5, hcz250_6, hcz250_7, hcz250_8, hcz250_9⟩ := cells10 BK198.out
            go_wp2_with (first | (go_at_call 29; (with_reducible refine (cleatref04_Has.calls kj35 t199 (⟨#[99]⟩ : ByteArray) false _ A85.out).mono ?_); rintro e w251 ⟨rfl, hb⟩; have n0_ := Aside0.mk (blk_below (g := gb198) (o := .cells #[.int .i64 a0_0, .int .i64 a0_1, .int .i64 a0_2, .int .i64 a0_3, .int .i64 a0_4, .int .i64 a0_5, .int .u64 a0_6, .int .i64 a0_7, .int .i64 a0_8, .int .i64 a0_9] 24 (0, 0)) (by (with_reducible repeat (first | refine blk_drewN ?_ _ | refine blk_drew ?_ | refine blk_alloc ?_ _)); exact BK198.out) hb); have n1_ := Aside0.mk (below_step (by repeat (first | (with_reducible first | exact HB.out | apply below_alloc | apply pw_below_drewN | apply below_drew1 | refine below_set ?_ GE198.out) | exact HB.out)) hb); clear BK198; clear HB; have BK198 := n0_; have HB := n1_; clear n0_ n1_; (try clear hb); (try clear hb2); (try clear hk); (try clear hi); obtain ⟨hcz252_0, hcz252_1, hcz252_2, hcz252_3, hcz252_4, hcz252_5, hcz252_6, hcz252_7, hcz252_8, hcz252_9⟩ := cells10 BK198.out) | ((with_reducible refine gate_callee (f := 36) rfl ?_); refine goesL_ (some 107) rfl rfl Tryd.func36 (by kernel_rfl) rfl #[.int .i64 t199, .int .i64 a0_5] rfl (by (try simp only [List.map_toArray, List.map_cons, List.map_nil]); first | done | rfl | (simp only [List.length_drop, List.length_take]; rfl)) ?_; (with_reducible refine (cleatref04_imm.calls kj35 t199 a0_5 true _ A245.out).mono ?_); rintro e w' ⟨rfl, ⟨nd, rfl⟩⟩; refine ⟨_, rfl, ?_⟩) | (go_at_call 37; (with_reducible refine (cleatref04_amount.calls t199 a0_8 true _ A247.out).mono ?_); rintro e w' ⟨rfl, ⟨nd, rfl⟩⟩))
            go_ret
            exact ⟨by first | rfl | (simp [errW_none, errW_some] <;> rfl) | (simp [*, errW_none, errW_some] <;> rfl), by repeat (first | (with_reducible first | exact HB.out | apply below_alloc | apply pw_below_drewN | apply below_drew1 | refine below_set ?_ GE198.out) | exact HB.out)⟩
           ·replace c249 := Bool.eq_false_iff.mpr c249
            subst c249
            rw [if_neg (show ¬ (false = true) by decide)] at H
            obtain rfl := Option.some.inj H
            obtain ⟨hcz253_0, hcz253_1, hcz253_2, hcz253_3, hcz253_4, hcz253_5, hcz253_6, hcz253_7, hcz253_8, hcz253_9⟩ := cells10 BK198.out
            go_wp2_with (first | (go_at_call 29; (with_reducible refine (cleatref04_Has.calls kj35 t199 (⟨#[99]⟩ : ByteArray) false _ A85.out).mono ?_); rintro e w254 ⟨rfl, hb⟩; have n0_ := Aside0.mk (blk_below (g := gb198) (o := .cells #[.int .i64 a0_0, .int .i64 a0_1, .int .i64 a0_2, .int .i64 a0_3, .int .i64 a0_4, .int .i64 a0_5, .int .u64 a0_6, .int .i64 a0_7, .int .i64 a0_8, .int .i64 a0_9] 24 (0, 0)) (by (with_reducible repeat (first | refine blk_drewN ?_ _ | refine blk_drew ?_ | refine blk_alloc ?_ _)); exact BK198.out) hb); have n1_ := Aside0.mk (below_step (by repeat (first | (with_reducible first | exact HB.out | apply below_alloc | apply pw_below_drewN | apply below_drew1 | refine below_set ?_ GE198.out) | exact HB.out)) hb); clear BK198; clear HB; have BK198 := n0_; have HB := n1_; clear n0_ n1_; (try clear hb); (try clear hb2); (try clear hk); (try clear hi); obtain ⟨hcz255_0, hcz255_1, hcz255_2, hcz255_3, hcz255_4, hcz255_5, hcz255_6, hcz255_7, hcz255_8, hcz255_9⟩ := cells10 BK198.out) | ((with_reducible refine gate_callee (f := 36) rfl ?_); refine goesL_ (some 107) rfl rfl Tryd.func36 (by kernel_rfl) rfl #[.int .i64 t199, .int .i64 a0_5] rfl (by (try simp only [List.map_toArray, List.map_cons, List.map_nil]); first | done | rfl | (simp only [List.length_drop, List.length_take]; rfl)) ?_; (with_reducible refine (cleatref04_imm.calls kj35 t199 a0_5 true _ A245.out).mono ?_); rintro e w' ⟨rfl, ⟨nd, rfl⟩⟩; refine ⟨_, rfl, ?_⟩) | (go_at_call 37; (with_reducible refine (cleatref04_amount.calls t199 a0_8 true _ A247.out).mono ?_); rintro e w' ⟨rfl, ⟨nd, rfl⟩⟩))
            go_ret
            exact ⟨by first | rfl | (simp [errW_none, errW_some] <;> rfl) | (simp [*, errW_none, errW_some] <;> rfl), by repeat (first | (with_reducible first | exact HB.out | apply below_alloc | apply pw_below_drewN | apply below_drew1 | refine below_set ?_ GE198.out) | exact HB.out)⟩
          ·replace c248 := Bool.eq_false_iff.mpr c248
           subst c248
           rw [if_neg (show ¬ (false = true) by decide)] at H
           obtain rfl := Option.some.inj H
           obtain ⟨hcz256_0, hcz256_1, hcz256_2, hcz256_3, hcz256_4, hcz256_5, hcz256_6, hcz256_7, hcz256_8, hcz256_9⟩ := cells10 BK198.out
           go_wp2_with (first | (go_at_call 29; (with_reducible refine (cleatref04_Has.calls kj35 t199 (⟨#[99]⟩ : ByteArray) false _ A85.out).mono ?_); rintro e w257 ⟨rfl, hb⟩; have n0_ := Aside0.mk (blk_below (g := gb198) (o := .cells #[.int .i64 a0_0, .int .i64 a0_1, .int .i64 a0_2, .int .i64 a0_3, .int .i64 a0_4, .int .i64 a0_5, .int .u64 a0_6, .int .i64 a0_7, .int .i64 a0_8, .int .i64 a0_9] 24 (0, 0)) (by (with_reducible repeat (first | refine blk_drewN ?_ _ | refine blk_drew ?_ | refine blk_alloc ?_ _)); exact BK198.out) hb); have n1_ := Aside0.mk (below_step (by repeat (first | (with_reducible first | exact HB.out | apply below_alloc | apply pw_below_drewN | apply below_drew1 | refine below_set ?_ GE198.out) | exact HB.out)) hb); clear BK198; clear HB; have BK198 := n0_; have HB := n1_; clear n0_ n1_; (try clear hb); (try clear hb2); (try clear hk); (try clear hi); obtain ⟨hcz258_0, hcz258_1, hcz258_2, hcz258_3, hcz258_4, hcz258_5, hcz258_6, hcz258_7, hcz258_8, hcz258_9⟩ := cells10 BK198.out) | ((with_reducible refine gate_callee (f := 36) rfl ?_); refine goesL_ (some 107) rfl rfl Tryd.func36 (by kernel_rfl) rfl #[.int .i64 t199, .int .i64 a0_5] rfl (by (try simp only [List.map_toArray, List.map_cons, List.map_nil]); first | done | rfl | (simp only [List.length_drop, List.length_take]; rfl)) ?_; (with_reducible refine (cleatref04_imm.calls kj35 t199 a0_5 true _ A245.out).mono ?_); rintro e w' ⟨rfl, ⟨nd, rfl⟩⟩; refine ⟨_, rfl, ?_⟩) | (go_at_call 37; (with_reducible refine (cleatref04_amount.calls t199 a0_8 false _ A247.out).mono ?_); rintro e w' ⟨rfl, ⟨nd, rfl⟩⟩))
           go_ret
           exact ⟨by first | rfl | (simp [errW_none, errW_some] <;> rfl) | (simp [*, errW_none, errW_some] <;> rfl), by repeat (first | (with_reducible first | exact HB.out | apply below_alloc | apply pw_below_drewN | apply below_drew1 | refine below_set ?_ GE198.out) | exact HB.out)⟩
         ·replace c246 := Bool.eq_false_iff.mpr c246
          subst c246
          rw [if_neg (show ¬ (false = true) by decide)] at H
          obtain rfl := Option.some.inj H
          obtain ⟨hcz259_0, hcz259_1, hcz259_2, hcz259_3, hcz259_4, hcz259_5, hcz259_6, hcz259_7, hcz259_8, hcz259_9⟩ := cells10 BK198.out
          go_wp2_with (first | (go_at_call 29; (with_reducible refine (cleatref04_Has.calls kj35 t199 (⟨#[99]⟩ : ByteArray) false _ A85.out).mono ?_); rintro e w260 ⟨rfl, hb⟩; have n0_ := Aside0.mk (blk_below (g := gb198) (o := .cells #[.int .i64 a0_0, .int .i64 a0_1, .int .i64 a0_2, .int .i64 a0_3, .int .i64 a0_4, .int .i64 a0_5, .int .u64 a0_6, .int .i64 a0_7, .int .i64 a0_8, .int .i64 a0_9] 24 (0, 0)) (by (with_reducible repeat (first | refine blk_drewN ?_ _ | refine blk_drew ?_ | refine blk_alloc ?_ _)); exact BK198.out) hb); have n1_ := Aside0.mk (below_step (by repeat (first | (with_reducible first | exact HB.out | apply below_alloc | apply pw_below_drewN | apply below_drew1 | refine below_set ?_ GE198.out) | exact HB.out)) hb); clear BK198; clear HB; have BK198 := n0_; have HB := n1_; clear n0_ n1_; (try clear hb); (try clear hb2); (try clear hk); (try clear hi); obtain ⟨hcz261_0, hcz261_1, hcz261_2, hcz261_3, hcz261_4, hcz261_5, hcz261_6, hcz261_7, hcz261_8, hcz261_9⟩ := cells10 BK198.out) | ((with_reducible refine gate_callee (f := 36) rfl ?_); refine goesL_ (some 107) rfl rfl Tryd.func36 (by kernel_rfl) rfl #[.int .i64 t199, .int .i64 a0_5] rfl (by (try simp only [List.map_toArray, List.map_cons, List.map_nil]); first | done | rfl | (simp only [List.length_drop, List.length_take]; rfl)) ?_; (with_reducible refine (cleatref04_imm.calls kj35 t199 a0_5 false _ A245.out).mono ?_); rintro e w' ⟨rfl, ⟨nd, rfl⟩⟩; refine ⟨_, rfl, ?_⟩))
          go_ret
          exact ⟨by first | rfl | (simp [errW_none, errW_some] <;> rfl) | (simp [*, errW_none, errW_some] <;> rfl), by repeat (first | (with_reducible first | exact HB.out | apply below_alloc | apply pw_below_drewN | apply below_drew1 | refine below_set ?_ GE198.out) | exact HB.out)⟩

end Go.Proofs.YtgonbeifaioheaaDoor.P
