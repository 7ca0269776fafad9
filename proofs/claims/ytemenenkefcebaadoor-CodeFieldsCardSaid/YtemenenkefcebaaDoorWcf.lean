/- CodeFields, walked by hand over the plain law. Written by wip/tools/gencd4.py. -/
import Derived.Test.YtemenenkefcebaaDoorCd4
import Derived.WalkLawsBesides
import Derived.Lib.ItoaWalk
import Derived.Test.YtemenenkefcebaaDoorPx2
import Derived.Test.YtemenenkefcebaaDoorPx5
import Derived.Test.YtemenenkefcebaaDoorPx7
import Derived.Test.YtemenenkefcebaaDoorPx9
namespace Go.Proofs.YtemenenkefcebaaDoor.P
open Go.RowKit Go.Proofs.YtemenenkefcebaaDoorW.PrintWords Go.Proofs.YtemenenkefcebaaDoorW.PrintLast Go.Proofs.YtemenenkefcebaaDoorW.PrintMore
set_option linter.unusedVariables false
set_option linter.unusedSimpArgs false
theorem class_6 {op s : Int} (h : inst_Shape.f op = some s) (h0 : s ≠ 0) : s = 1 ∨ (2 ≤ s ∧ s ≤ 8) ∨ (9 ≤ s ∧ s ≤ 10) ∨ (11 ≤ s ∧ s ≤ 15 ∧ s ≠ 13) ∨ s = 13 ∨ s = 16 := by
 have := shape_17 h
 omega
theorem hD_in {op s : Int} (h : inst_Shape.f op = some s) (hc : 2 ≤ s ∧ s ≤ 10) : In.hD s = true := by
 rcases shape_17 h with rfl | rfl | rfl | rfl | rfl | rfl | rfl | rfl | rfl | rfl | rfl | rfl | rfl | rfl | rfl | rfl | rfl
 all_goals first | rfl | omega
theorem hN_in {op s : Int} (h : inst_Shape.f op = some s) (hc : 2 ≤ s ∧ s ≤ 8) : In.hN s = true := by
 rcases shape_17 h with rfl | rfl | rfl | rfl | rfl | rfl | rfl | rfl | rfl | rfl | rfl | rfl | rfl | rfl | rfl | rfl | rfl
 all_goals first | rfl | omega
set_option maxHeartbeats 4000000 in
set_option maxRecDepth 100000 in
/-- One of the two is not right: coded alone is asked. -/
theorem fields_bad (op d n m a im mk sh am cn op' d' n' m' a' im' mk' sh' am' cn' v e v' e' : Int) (w : World) (hne : (e != 0) = true ∨ ((e != 0) = false ∧ (e' != 0) = true)) (HE : Aside0 (code_Encode.f 400 op d n m a im mk sh am cn = some (v, e))) (HF : Aside0 (code_Encode.f 400 op' d' n' m' a' im' mk' sh' am' cn' = some (v', e'))) (HT : Aside0 (Tabs w)) :
  Calls Tryd.prog 6 #[.agg #[.int .i64 op, .int .i64 d, .int .i64 n, .int .i64 m, .int .i64 a, .int .i64 im, .int .u64 mk, .int .i64 sh, .int .i64 am, .int .i64 cn], .agg #[.int .i64 op', .int .i64 d', .int .i64 n', .int .i64 m', .int .i64 a', .int .i64 im', .int .u64 mk', .int .i64 sh', .int .i64 am', .int .i64 cn']] w fun e w' => e = .returned (.bool true) ∧ Below w.heap.size w w' := by
 obtain ⟨W1, hW1, HB, KI, KJ⟩ : ∃ W1, (w.alloc (.cells #[.int .i64 op, .int .i64 d, .int .i64 n, .int .i64 m, .int .i64 a, .int .i64 im, .int .u64 mk, .int .i64 sh, .int .i64 am, .int .i64 cn] 24)).alloc (.cells #[.int .i64 op', .int .i64 d', .int .i64 n', .int .i64 m', .int .i64 a', .int .i64 im', .int .u64 mk', .int .i64 sh', .int .i64 am', .int .i64 cn'] 24) = W1 ∧ Aside0 (Below w.heap.size w W1) ∧ Aside0 (W1.heap[w.heap.size]? = some (.cells #[.int .i64 op, .int .i64 d, .int .i64 n, .int .i64 m, .int .i64 a, .int .i64 im, .int .u64 mk, .int .i64 sh, .int .i64 am, .int .i64 cn] 24)) ∧ Aside0 (W1.heap[w.heap.size + 1]? = some (.cells #[.int .i64 op', .int .i64 d', .int .i64 n', .int .i64 m', .int .i64 a', .int .i64 im', .int .u64 mk', .int .i64 sh', .int .i64 am', .int .i64 cn'] 24)) :=
  ⟨_, rfl, ⟨below_alloc (below_alloc (Below.refl _ _) _) _⟩, ⟨blk_alloc (blk_new w _) _⟩, ⟨by simpa using blk_new (w.alloc (.cells #[.int .i64 op, .int .i64 d, .int .i64 n, .int .i64 m, .int .i64 a, .int .i64 im, .int .u64 mk, .int .i64 sh, .int .i64 am, .int .i64 cn] 24)) (.cells #[.int .i64 op', .int .i64 d', .int .i64 n', .int .i64 m', .int .i64 a', .int .i64 im', .int .u64 mk', .int .i64 sh', .int .i64 am', .int .i64 cn'] 24)⟩⟩
 rcases hne with hne | ⟨hn0, hne⟩
 ·go_enter Tryd.func6, Tryd.ntmps6
  obtain ⟨p0, p1, p2, p3, p4, p5, p6, p7, p8, p9⟩ := cells10 KI.out
  go_wp2_with (fail)
  clear hW1
  clear p0 p1 p2 p3 p4 p5 p6 p7 p8 p9
  refine (code_Encode.calls 400 op d n m a im mk sh am cn v e _ HE.out (tabs_of HT HB.out)).mono ?_
  rintro e0 V1 ⟨rfl, hb⟩
  replace KI := Aside0.mk (blk_below KI.out hb)
  replace KJ := Aside0.mk (blk_below KJ.out hb)
  replace HB := Aside0.mk (HB.out.trans (hb.mono HB.out.size))
  clear hb
  obtain ⟨q0, q1, q2, q3, q4, q5, q6, q7, q8, q9⟩ := cells10 KJ.out
  go_wp2_with (fail)
  clear q0 q1 q2 q3 q4 q5 q6 q7 q8 q9
  refine (code_Encode.calls 400 op' d' n' m' a' im' mk' sh' am' cn' v' e' _ HF.out (tabs_of HT HB.out)).mono ?_
  rintro e0 V2 ⟨rfl, hb⟩
  replace KI := Aside0.mk (blk_below KI.out hb)
  replace KJ := Aside0.mk (blk_below KJ.out hb)
  replace HB := Aside0.mk (HB.out.trans (hb.mono HB.out.size))
  clear hb
  go_wp2_with (fail)
  refine (cleatlaw05_coded.calls 40 true _ rfl (tabs_of HT HB.out)).mono ?_
  rintro e0 V3 ⟨rfl, hb⟩
  replace KI := Aside0.mk (blk_below KI.out hb)
  replace KJ := Aside0.mk (blk_below KJ.out hb)
  replace HB := Aside0.mk (HB.out.trans (hb.mono HB.out.size))
  clear hb
  go_wp2
  go_ret
  exact ⟨rfl, HB.out⟩
 ·go_enter Tryd.func6, Tryd.ntmps6
  obtain ⟨p0, p1, p2, p3, p4, p5, p6, p7, p8, p9⟩ := cells10 KI.out
  go_wp2_with (fail)
  clear hW1
  clear p0 p1 p2 p3 p4 p5 p6 p7 p8 p9
  refine (code_Encode.calls 400 op d n m a im mk sh am cn v e _ HE.out (tabs_of HT HB.out)).mono ?_
  rintro e0 V1 ⟨rfl, hb⟩
  replace KI := Aside0.mk (blk_below KI.out hb)
  replace KJ := Aside0.mk (blk_below KJ.out hb)
  replace HB := Aside0.mk (HB.out.trans (hb.mono HB.out.size))
  clear hb
  obtain ⟨q0, q1, q2, q3, q4, q5, q6, q7, q8, q9⟩ := cells10 KJ.out
  go_wp2_with (fail)
  clear q0 q1 q2 q3 q4 q5 q6 q7 q8 q9
  refine (code_Encode.calls 400 op' d' n' m' a' im' mk' sh' am' cn' v' e' _ HF.out (tabs_of HT HB.out)).mono ?_
  rintro e0 V2 ⟨rfl, hb⟩
  replace KI := Aside0.mk (blk_below KI.out hb)
  replace KJ := Aside0.mk (blk_below KJ.out hb)
  replace HB := Aside0.mk (HB.out.trans (hb.mono HB.out.size))
  clear hb
  go_wp2_with (fail)
  refine (cleatlaw05_coded.calls 40 true _ rfl (tabs_of HT HB.out)).mono ?_
  rintro e0 V3 ⟨rfl, hb⟩
  replace KI := Aside0.mk (blk_below KI.out hb)
  replace KJ := Aside0.mk (blk_below KJ.out hb)
  replace HB := Aside0.mk (HB.out.trans (hb.mono HB.out.size))
  clear hb
  go_wp2
  go_ret
  exact ⟨rfl, HB.out⟩
set_option maxHeartbeats 40000000 in
set_option maxRecDepth 100000 in
theorem fields_same (op d n m a im mk sh am cn v x y s : Int) (w : World) (hx : In.hD s = true → (wrap64 x == d) = true) (hy : In.hN s = true → (wrap64 y == n) = true) (h0 : s ≠ 0) (HE : Aside0 (code_Encode.f 400 op d n m a im mk sh am cn = some (v, 0))) (HF : Aside0 (code_Encode.f 400 op d n m a im mk sh am cn = some (v, 0))) (HS : Aside0 (inst_Shape.f op = some s)) (HX : Aside0 (bits_Field.f v 0 5 = some (x, 0))) (HY : Aside0 (bits_Field.f v 5 5 = some (y, 0))) (HT : Aside0 (Tabs w)) :
  Calls Tryd.prog 6 #[.agg #[.int .i64 op, .int .i64 d, .int .i64 n, .int .i64 m, .int .i64 a, .int .i64 im, .int .u64 mk, .int .i64 sh, .int .i64 am, .int .i64 cn], .agg #[.int .i64 op, .int .i64 d, .int .i64 n, .int .i64 m, .int .i64 a, .int .i64 im, .int .u64 mk, .int .i64 sh, .int .i64 am, .int .i64 cn]] w fun e w' => e = .returned (.bool true) ∧ Below w.heap.size w w' := by
 obtain ⟨W1, hW1, HB, KI, KJ⟩ : ∃ W1, (w.alloc (.cells #[.int .i64 op, .int .i64 d, .int .i64 n, .int .i64 m, .int .i64 a, .int .i64 im, .int .u64 mk, .int .i64 sh, .int .i64 am, .int .i64 cn] 24)).alloc (.cells #[.int .i64 op, .int .i64 d, .int .i64 n, .int .i64 m, .int .i64 a, .int .i64 im, .int .u64 mk, .int .i64 sh, .int .i64 am, .int .i64 cn] 24) = W1 ∧ Aside0 (Below w.heap.size w W1) ∧ Aside0 (W1.heap[w.heap.size]? = some (.cells #[.int .i64 op, .int .i64 d, .int .i64 n, .int .i64 m, .int .i64 a, .int .i64 im, .int .u64 mk, .int .i64 sh, .int .i64 am, .int .i64 cn] 24)) ∧ Aside0 (W1.heap[w.heap.size + 1]? = some (.cells #[.int .i64 op, .int .i64 d, .int .i64 n, .int .i64 m, .int .i64 a, .int .i64 im, .int .u64 mk, .int .i64 sh, .int .i64 am, .int .i64 cn] 24)) :=
  ⟨_, rfl, ⟨below_alloc (below_alloc (Below.refl _ _) _) _⟩, ⟨blk_alloc (blk_new w _) _⟩, ⟨by simpa using blk_new (w.alloc (.cells #[.int .i64 op, .int .i64 d, .int .i64 n, .int .i64 m, .int .i64 a, .int .i64 im, .int .u64 mk, .int .i64 sh, .int .i64 am, .int .i64 cn] 24)) (.cells #[.int .i64 op, .int .i64 d, .int .i64 n, .int .i64 m, .int .i64 a, .int .i64 im, .int .u64 mk, .int .i64 sh, .int .i64 am, .int .i64 cn] 24)⟩⟩
 go_enter Tryd.func6, Tryd.ntmps6
 obtain ⟨p0, p1, p2, p3, p4, p5, p6, p7, p8, p9⟩ := cells10 KI.out
 go_wp2_with (fail)
 clear hW1
 clear p0 p1 p2 p3 p4 p5 p6 p7 p8 p9
 refine (code_Encode.calls 400 op d n m a im mk sh am cn v 0 _ HE.out (tabs_of HT HB.out)).mono ?_
 rintro e0 V1 ⟨rfl, hb⟩
 replace KI := Aside0.mk (blk_below KI.out hb)
 replace KJ := Aside0.mk (blk_below KJ.out hb)
 replace HB := Aside0.mk (HB.out.trans (hb.mono HB.out.size))
 clear hb
 obtain ⟨q0, q1, q2, q3, q4, q5, q6, q7, q8, q9⟩ := cells10 KJ.out
 go_wp2_with (fail)
 clear q0 q1 q2 q3 q4 q5 q6 q7 q8 q9
 refine (code_Encode.calls 400 op d n m a im mk sh am cn v 0 _ HF.out (tabs_of HT HB.out)).mono ?_
 rintro e0 V2 ⟨rfl, hb⟩
 replace KI := Aside0.mk (blk_below KI.out hb)
 replace KJ := Aside0.mk (blk_below KJ.out hb)
 replace HB := Aside0.mk (HB.out.trans (hb.mono HB.out.size))
 clear hb
 have t0 := (blk_cell KI.out 0).trans rfl
 go_wp2_with (fail)
 clear t0
 refine (inst_Shape.calls op s _ HS.out (tabs_of HT HB.out)).mono ?_
 rintro e0 V3 ⟨rfl, hd⟩
 have hb := hd.below
 clear hd
 replace KI := Aside0.mk (blk_below KI.out hb)
 replace KJ := Aside0.mk (blk_below KJ.out hb)
 replace HB := Aside0.mk (HB.out.trans (hb.mono HB.out.size))
 clear hb
 go_wp2_with (fail)
 refine (bits_Field.calls v 0 5 x 0 _ HX.out).mono ?_
 rintro e0 V4 ⟨rfl, hd⟩
 have hb := hd.below
 clear hd
 replace KI := Aside0.mk (blk_below KI.out hb)
 replace KJ := Aside0.mk (blk_below KJ.out hb)
 replace HB := Aside0.mk (HB.out.trans (hb.mono HB.out.size))
 clear hb
 go_wp2_with (fail)
 refine (bits_Field.calls v 5 5 y 0 _ HY.out).mono ?_
 rintro e0 V5 ⟨rfl, hd⟩
 have hb := hd.below
 clear hd
 replace KI := Aside0.mk (blk_below KI.out hb)
 replace KJ := Aside0.mk (blk_below KJ.out hb)
 replace HB := Aside0.mk (HB.out.trans (hb.mono HB.out.size))
 clear hb
 have HSS := Aside0.mk (class_6 HS.out h0)
 rcases HSS.out with rfl | hc | hc | hc | rfl | rfl
 ·have b1 := hx rfl
  clear HSS
  clear hx hy h0
  go_wp2_with (fail)
  refine (cleatlaw05_coded.calls 40 true _ rfl (tabs_of HT HB.out)).mono ?_
  rintro e0 V6 ⟨rfl, hb⟩
  replace KI := Aside0.mk (blk_below KI.out hb)
  replace KJ := Aside0.mk (blk_below KJ.out hb)
  replace HB := Aside0.mk (HB.out.trans (hb.mono HB.out.size))
  clear hb
  obtain ⟨p0, p1, p2, p3, p4, p5, p6, p7, p8, p9⟩ := cells10 KI.out
  obtain ⟨q0, q1, q2, q3, q4, q5, q6, q7, q8, q9⟩ := cells10 KJ.out
  go_wp2
  go_ret
  exact ⟨rfl, HB.out⟩
 ·have b1 := hx (hD_in HS.out (by omega))
  have b2 := hy (hN_in HS.out (by omega))
  have f1 : decide (1 ≤ s) = true := decide_eq_true (by omega)
  have f2 : decide (s ≤ 10) = true := decide_eq_true (by omega)
  have f3 : decide (2 ≤ s) = true := decide_eq_true (by omega)
  have f4 : decide (s ≤ 8) = true := decide_eq_true (by omega)
  have f5 : (s == 16) = false := beq_eq_false_iff_ne.2 (by omega)
  have f6 : (s == 13) = false := beq_eq_false_iff_ne.2 (by omega)
  clear hc HSS
  clear hx hy h0
  go_wp2_with (fail)
  refine (cleatlaw05_coded.calls 40 true _ rfl (tabs_of HT HB.out)).mono ?_
  rintro e0 V6 ⟨rfl, hb⟩
  replace KI := Aside0.mk (blk_below KI.out hb)
  replace KJ := Aside0.mk (blk_below KJ.out hb)
  replace HB := Aside0.mk (HB.out.trans (hb.mono HB.out.size))
  clear hb
  obtain ⟨p0, p1, p2, p3, p4, p5, p6, p7, p8, p9⟩ := cells10 KI.out
  obtain ⟨q0, q1, q2, q3, q4, q5, q6, q7, q8, q9⟩ := cells10 KJ.out
  go_wp2
  go_ret
  exact ⟨rfl, HB.out⟩
 ·have b1 := hx (hD_in HS.out (by omega))
  have f1 : decide (1 ≤ s) = true := decide_eq_true (by omega)
  have f2 : decide (s ≤ 10) = true := decide_eq_true (by omega)
  have f3 : decide (2 ≤ s) = true := decide_eq_true (by omega)
  have f4 : decide (s ≤ 8) = false := decide_eq_false (by omega)
  have f5 : (s == 16) = false := beq_eq_false_iff_ne.2 (by omega)
  have f6 : (s == 13) = false := beq_eq_false_iff_ne.2 (by omega)
  clear hc HSS
  clear hx hy h0
  go_wp2_with (fail)
  refine (cleatlaw05_coded.calls 40 true _ rfl (tabs_of HT HB.out)).mono ?_
  rintro e0 V6 ⟨rfl, hb⟩
  replace KI := Aside0.mk (blk_below KI.out hb)
  replace KJ := Aside0.mk (blk_below KJ.out hb)
  replace HB := Aside0.mk (HB.out.trans (hb.mono HB.out.size))
  clear hb
  obtain ⟨p0, p1, p2, p3, p4, p5, p6, p7, p8, p9⟩ := cells10 KI.out
  obtain ⟨q0, q1, q2, q3, q4, q5, q6, q7, q8, q9⟩ := cells10 KJ.out
  go_wp2
  go_ret
  exact ⟨rfl, HB.out⟩
 ·have f1 : decide (1 ≤ s) = true := decide_eq_true (by omega)
  have f2 : decide (s ≤ 10) = false := decide_eq_false (by omega)
  have f3 : decide (2 ≤ s) = true := decide_eq_true (by omega)
  have f4 : decide (s ≤ 8) = false := decide_eq_false (by omega)
  have f5 : (s == 16) = false := beq_eq_false_iff_ne.2 (by omega)
  have f6 : (s == 13) = false := beq_eq_false_iff_ne.2 (by omega)
  clear hc HSS
  clear hx hy h0
  go_wp2_with (fail)
  refine (cleatlaw05_coded.calls 40 true _ rfl (tabs_of HT HB.out)).mono ?_
  rintro e0 V6 ⟨rfl, hb⟩
  replace KI := Aside0.mk (blk_below KI.out hb)
  replace KJ := Aside0.mk (blk_below KJ.out hb)
  replace HB := Aside0.mk (HB.out.trans (hb.mono HB.out.size))
  clear hb
  obtain ⟨p0, p1, p2, p3, p4, p5, p6, p7, p8, p9⟩ := cells10 KI.out
  obtain ⟨q0, q1, q2, q3, q4, q5, q6, q7, q8, q9⟩ := cells10 KJ.out
  go_wp2
  go_ret
  exact ⟨rfl, HB.out⟩
 ·have b2 := hy rfl
  clear HSS
  clear hx hy h0
  go_wp2_with (fail)
  refine (cleatlaw05_coded.calls 40 true _ rfl (tabs_of HT HB.out)).mono ?_
  rintro e0 V6 ⟨rfl, hb⟩
  replace KI := Aside0.mk (blk_below KI.out hb)
  replace KJ := Aside0.mk (blk_below KJ.out hb)
  replace HB := Aside0.mk (HB.out.trans (hb.mono HB.out.size))
  clear hb
  obtain ⟨p0, p1, p2, p3, p4, p5, p6, p7, p8, p9⟩ := cells10 KI.out
  obtain ⟨q0, q1, q2, q3, q4, q5, q6, q7, q8, q9⟩ := cells10 KJ.out
  go_wp2
  go_ret
  exact ⟨rfl, HB.out⟩
 ·have b1 := hx rfl
  have b2 := hy rfl
  clear HSS
  clear hx hy h0
  go_wp2_with (fail)
  refine (cleatlaw05_coded.calls 40 true _ rfl (tabs_of HT HB.out)).mono ?_
  rintro e0 V6 ⟨rfl, hb⟩
  replace KI := Aside0.mk (blk_below KI.out hb)
  replace KJ := Aside0.mk (blk_below KJ.out hb)
  replace HB := Aside0.mk (HB.out.trans (hb.mono HB.out.size))
  clear hb
  obtain ⟨p0, p1, p2, p3, p4, p5, p6, p7, p8, p9⟩ := cells10 KI.out
  obtain ⟨q0, q1, q2, q3, q4, q5, q6, q7, q8, q9⟩ := cells10 KJ.out
  go_wp2
  go_ret
  exact ⟨rfl, HB.out⟩
set_option maxHeartbeats 40000000 in
set_option maxRecDepth 100000 in
theorem fields_other (op d n m a im mk sh am cn op' d' n' m' a' im' mk' sh' am' cn' v v' x y s : Int) (w : World) (hvw : (v == v') = false) (HIJ : Aside0 (¬ (op = op' ∧ d = d' ∧ n = n' ∧ m = m' ∧ a = a' ∧ im = im' ∧ mk = mk' ∧ sh = sh' ∧ am = am' ∧ cn = cn'))) (hx : In.hD s = true → (wrap64 x == d) = true) (hy : In.hN s = true → (wrap64 y == n) = true) (h0 : s ≠ 0) (HE : Aside0 (code_Encode.f 400 op d n m a im mk sh am cn = some (v, 0))) (HF : Aside0 (code_Encode.f 400 op' d' n' m' a' im' mk' sh' am' cn' = some (v', 0))) (HS : Aside0 (inst_Shape.f op = some s)) (HX : Aside0 (bits_Field.f v 0 5 = some (x, 0))) (HY : Aside0 (bits_Field.f v 5 5 = some (y, 0))) (HT : Aside0 (Tabs w)) :
  Calls Tryd.prog 6 #[.agg #[.int .i64 op, .int .i64 d, .int .i64 n, .int .i64 m, .int .i64 a, .int .i64 im, .int .u64 mk, .int .i64 sh, .int .i64 am, .int .i64 cn], .agg #[.int .i64 op', .int .i64 d', .int .i64 n', .int .i64 m', .int .i64 a', .int .i64 im', .int .u64 mk', .int .i64 sh', .int .i64 am', .int .i64 cn']] w fun e w' => e = .returned (.bool true) ∧ Below w.heap.size w w' := by
 obtain ⟨W1, hW1, HB, KI, KJ⟩ : ∃ W1, (w.alloc (.cells #[.int .i64 op, .int .i64 d, .int .i64 n, .int .i64 m, .int .i64 a, .int .i64 im, .int .u64 mk, .int .i64 sh, .int .i64 am, .int .i64 cn] 24)).alloc (.cells #[.int .i64 op', .int .i64 d', .int .i64 n', .int .i64 m', .int .i64 a', .int .i64 im', .int .u64 mk', .int .i64 sh', .int .i64 am', .int .i64 cn'] 24) = W1 ∧ Aside0 (Below w.heap.size w W1) ∧ Aside0 (W1.heap[w.heap.size]? = some (.cells #[.int .i64 op, .int .i64 d, .int .i64 n, .int .i64 m, .int .i64 a, .int .i64 im, .int .u64 mk, .int .i64 sh, .int .i64 am, .int .i64 cn] 24)) ∧ Aside0 (W1.heap[w.heap.size + 1]? = some (.cells #[.int .i64 op', .int .i64 d', .int .i64 n', .int .i64 m', .int .i64 a', .int .i64 im', .int .u64 mk', .int .i64 sh', .int .i64 am', .int .i64 cn'] 24)) :=
  ⟨_, rfl, ⟨below_alloc (below_alloc (Below.refl _ _) _) _⟩, ⟨blk_alloc (blk_new w _) _⟩, ⟨by simpa using blk_new (w.alloc (.cells #[.int .i64 op, .int .i64 d, .int .i64 n, .int .i64 m, .int .i64 a, .int .i64 im, .int .u64 mk, .int .i64 sh, .int .i64 am, .int .i64 cn] 24)) (.cells #[.int .i64 op', .int .i64 d', .int .i64 n', .int .i64 m', .int .i64 a', .int .i64 im', .int .u64 mk', .int .i64 sh', .int .i64 am', .int .i64 cn'] 24)⟩⟩
 go_enter Tryd.func6, Tryd.ntmps6
 obtain ⟨p0, p1, p2, p3, p4, p5, p6, p7, p8, p9⟩ := cells10 KI.out
 go_wp2_with (fail)
 clear hW1
 clear p0 p1 p2 p3 p4 p5 p6 p7 p8 p9
 refine (code_Encode.calls 400 op d n m a im mk sh am cn v 0 _ HE.out (tabs_of HT HB.out)).mono ?_
 rintro e0 V1 ⟨rfl, hb⟩
 replace KI := Aside0.mk (blk_below KI.out hb)
 replace KJ := Aside0.mk (blk_below KJ.out hb)
 replace HB := Aside0.mk (HB.out.trans (hb.mono HB.out.size))
 clear hb
 obtain ⟨q0, q1, q2, q3, q4, q5, q6, q7, q8, q9⟩ := cells10 KJ.out
 go_wp2_with (fail)
 clear q0 q1 q2 q3 q4 q5 q6 q7 q8 q9
 refine (code_Encode.calls 400 op' d' n' m' a' im' mk' sh' am' cn' v' 0 _ HF.out (tabs_of HT HB.out)).mono ?_
 rintro e0 V2 ⟨rfl, hb⟩
 replace KI := Aside0.mk (blk_below KI.out hb)
 replace KJ := Aside0.mk (blk_below KJ.out hb)
 replace HB := Aside0.mk (HB.out.trans (hb.mono HB.out.size))
 clear hb
 have t0 := (blk_cell KI.out 0).trans rfl
 go_wp2_with (fail)
 clear t0
 refine (inst_Shape.calls op s _ HS.out (tabs_of HT HB.out)).mono ?_
 rintro e0 V3 ⟨rfl, hd⟩
 have hb := hd.below
 clear hd
 replace KI := Aside0.mk (blk_below KI.out hb)
 replace KJ := Aside0.mk (blk_below KJ.out hb)
 replace HB := Aside0.mk (HB.out.trans (hb.mono HB.out.size))
 clear hb
 go_wp2_with (fail)
 refine (bits_Field.calls v 0 5 x 0 _ HX.out).mono ?_
 rintro e0 V4 ⟨rfl, hd⟩
 have hb := hd.below
 clear hd
 replace KI := Aside0.mk (blk_below KI.out hb)
 replace KJ := Aside0.mk (blk_below KJ.out hb)
 replace HB := Aside0.mk (HB.out.trans (hb.mono HB.out.size))
 clear hb
 go_wp2_with (fail)
 refine (bits_Field.calls v 5 5 y 0 _ HY.out).mono ?_
 rintro e0 V5 ⟨rfl, hd⟩
 have hb := hd.below
 clear hd
 replace KI := Aside0.mk (blk_below KI.out hb)
 replace KJ := Aside0.mk (blk_below KJ.out hb)
 replace HB := Aside0.mk (HB.out.trans (hb.mono HB.out.size))
 clear hb
 have HSS := Aside0.mk (class_6 HS.out h0)
 rcases HSS.out with rfl | hc | hc | hc | rfl | rfl
 ·have b1 := hx rfl
  have B1 := Aside0.mk (eq_of_beq b1)
  clear HSS
  clear hx hy h0
  go_wp2_with (fail)
  refine (cleatlaw05_coded.calls 40 true _ rfl (tabs_of HT HB.out)).mono ?_
  rintro e0 V6 ⟨rfl, hb⟩
  replace KI := Aside0.mk (blk_below KI.out hb)
  replace KJ := Aside0.mk (blk_below KJ.out hb)
  replace HB := Aside0.mk (HB.out.trans (hb.mono HB.out.size))
  clear hb
  obtain ⟨p0, p1, p2, p3, p4, p5, p6, p7, p8, p9⟩ := cells10 KI.out
  obtain ⟨q0, q1, q2, q3, q4, q5, q6, q7, q8, q9⟩ := cells10 KJ.out
  go_wp2
  all_goals first | (go_ret; exact ⟨rfl, HB.out⟩) | (exfalso; have hh := HIJ.out; have hb1 := B1.out; omega)
 ·have b1 := hx (hD_in HS.out (by omega))
  have b2 := hy (hN_in HS.out (by omega))
  have B1 := Aside0.mk (eq_of_beq b1)
  have B2 := Aside0.mk (eq_of_beq b2)
  have f1 : decide (1 ≤ s) = true := decide_eq_true (by omega)
  have f2 : decide (s ≤ 10) = true := decide_eq_true (by omega)
  have f3 : decide (2 ≤ s) = true := decide_eq_true (by omega)
  have f4 : decide (s ≤ 8) = true := decide_eq_true (by omega)
  have f5 : (s == 16) = false := beq_eq_false_iff_ne.2 (by omega)
  have f6 : (s == 13) = false := beq_eq_false_iff_ne.2 (by omega)
  clear hc HSS
  clear hx hy h0
  go_wp2_with (fail)
  refine (cleatlaw05_coded.calls 40 true _ rfl (tabs_of HT HB.out)).mono ?_
  rintro e0 V6 ⟨rfl, hb⟩
  replace KI := Aside0.mk (blk_below KI.out hb)
  replace KJ := Aside0.mk (blk_below KJ.out hb)
  replace HB := Aside0.mk (HB.out.trans (hb.mono HB.out.size))
  clear hb
  obtain ⟨p0, p1, p2, p3, p4, p5, p6, p7, p8, p9⟩ := cells10 KI.out
  obtain ⟨q0, q1, q2, q3, q4, q5, q6, q7, q8, q9⟩ := cells10 KJ.out
  go_wp2
  all_goals first | (go_ret; exact ⟨rfl, HB.out⟩) | (go_ret; refine ⟨?_, HB.out⟩; have hb2 := B2.out; refine congrArg (fun z => Ending.returned (.bool z)) ?_; first | (rw [beq_iff_eq]; omega) | (show (_ == _) = true; rw [beq_iff_eq]; omega)) | (exfalso; have hh := HIJ.out; have hb1 := B1.out; have hb2 := B2.out; omega)
 ·have b1 := hx (hD_in HS.out (by omega))
  have B1 := Aside0.mk (eq_of_beq b1)
  have f1 : decide (1 ≤ s) = true := decide_eq_true (by omega)
  have f2 : decide (s ≤ 10) = true := decide_eq_true (by omega)
  have f3 : decide (2 ≤ s) = true := decide_eq_true (by omega)
  have f4 : decide (s ≤ 8) = false := decide_eq_false (by omega)
  have f5 : (s == 16) = false := beq_eq_false_iff_ne.2 (by omega)
  have f6 : (s == 13) = false := beq_eq_false_iff_ne.2 (by omega)
  clear hc HSS
  clear hx hy h0
  go_wp2_with (fail)
  refine (cleatlaw05_coded.calls 40 true _ rfl (tabs_of HT HB.out)).mono ?_
  rintro e0 V6 ⟨rfl, hb⟩
  replace KI := Aside0.mk (blk_below KI.out hb)
  replace KJ := Aside0.mk (blk_below KJ.out hb)
  replace HB := Aside0.mk (HB.out.trans (hb.mono HB.out.size))
  clear hb
  obtain ⟨p0, p1, p2, p3, p4, p5, p6, p7, p8, p9⟩ := cells10 KI.out
  obtain ⟨q0, q1, q2, q3, q4, q5, q6, q7, q8, q9⟩ := cells10 KJ.out
  go_wp2
  all_goals first | (go_ret; exact ⟨rfl, HB.out⟩) | (exfalso; have hh := HIJ.out; have hb1 := B1.out; omega)
 ·have f1 : decide (1 ≤ s) = true := decide_eq_true (by omega)
  have f2 : decide (s ≤ 10) = false := decide_eq_false (by omega)
  have f3 : decide (2 ≤ s) = true := decide_eq_true (by omega)
  have f4 : decide (s ≤ 8) = false := decide_eq_false (by omega)
  have f5 : (s == 16) = false := beq_eq_false_iff_ne.2 (by omega)
  have f6 : (s == 13) = false := beq_eq_false_iff_ne.2 (by omega)
  clear hc HSS
  clear hx hy h0
  go_wp2_with (fail)
  refine (cleatlaw05_coded.calls 40 true _ rfl (tabs_of HT HB.out)).mono ?_
  rintro e0 V6 ⟨rfl, hb⟩
  replace KI := Aside0.mk (blk_below KI.out hb)
  replace KJ := Aside0.mk (blk_below KJ.out hb)
  replace HB := Aside0.mk (HB.out.trans (hb.mono HB.out.size))
  clear hb
  obtain ⟨p0, p1, p2, p3, p4, p5, p6, p7, p8, p9⟩ := cells10 KI.out
  obtain ⟨q0, q1, q2, q3, q4, q5, q6, q7, q8, q9⟩ := cells10 KJ.out
  go_wp2
  all_goals first | (go_ret; exact ⟨rfl, HB.out⟩) | (exfalso; have hh := HIJ.out; omega)
 ·have b2 := hy rfl
  have B2 := Aside0.mk (eq_of_beq b2)
  clear HSS
  clear hx hy h0
  go_wp2_with (fail)
  refine (cleatlaw05_coded.calls 40 true _ rfl (tabs_of HT HB.out)).mono ?_
  rintro e0 V6 ⟨rfl, hb⟩
  replace KI := Aside0.mk (blk_below KI.out hb)
  replace KJ := Aside0.mk (blk_below KJ.out hb)
  replace HB := Aside0.mk (HB.out.trans (hb.mono HB.out.size))
  clear hb
  obtain ⟨p0, p1, p2, p3, p4, p5, p6, p7, p8, p9⟩ := cells10 KI.out
  obtain ⟨q0, q1, q2, q3, q4, q5, q6, q7, q8, q9⟩ := cells10 KJ.out
  go_wp2
  all_goals first | (go_ret; exact ⟨rfl, HB.out⟩) | (go_ret; refine ⟨?_, HB.out⟩; have hb2 := B2.out; refine congrArg (fun z => Ending.returned (.bool z)) ?_; first | (rw [beq_iff_eq]; omega) | (show (_ == _) = true; rw [beq_iff_eq]; omega)) | (exfalso; have hh := HIJ.out; have hb2 := B2.out; omega)
 ·have b1 := hx rfl
  have b2 := hy rfl
  have B1 := Aside0.mk (eq_of_beq b1)
  have B2 := Aside0.mk (eq_of_beq b2)
  clear HSS
  clear hx hy h0
  go_wp2_with (fail)
  refine (cleatlaw05_coded.calls 40 true _ rfl (tabs_of HT HB.out)).mono ?_
  rintro e0 V6 ⟨rfl, hb⟩
  replace KI := Aside0.mk (blk_below KI.out hb)
  replace KJ := Aside0.mk (blk_below KJ.out hb)
  replace HB := Aside0.mk (HB.out.trans (hb.mono HB.out.size))
  clear hb
  obtain ⟨p0, p1, p2, p3, p4, p5, p6, p7, p8, p9⟩ := cells10 KI.out
  obtain ⟨q0, q1, q2, q3, q4, q5, q6, q7, q8, q9⟩ := cells10 KJ.out
  go_wp2
  all_goals first | (go_ret; exact ⟨rfl, HB.out⟩) | (go_ret; refine ⟨?_, HB.out⟩; have hb2 := B2.out; refine congrArg (fun z => Ending.returned (.bool z)) ?_; first | (rw [beq_iff_eq]; omega) | (show (_ == _) = true; rw [beq_iff_eq]; omega)) | (exfalso; have hh := HIJ.out; have hb1 := B1.out; have hb2 := B2.out; omega)
set_option maxHeartbeats 4000000 in
theorem fields_walk (op d n m a im mk sh am cn op' d' n' m' a' im' mk' sh' am' cn' : Int) (w : World) (c0 : (Lit.int .i64 op).wf = true) (c1 : (Lit.int .i64 d).wf = true) (c2 : (Lit.int .i64 n).wf = true) (c3 : (Lit.int .i64 m).wf = true) (c4 : (Lit.int .i64 a).wf = true) (c5 : (Lit.int .i64 im).wf = true) (c6 : (Lit.int .u64 mk).wf = true) (c7 : (Lit.int .i64 sh).wf = true) (c8 : (Lit.int .i64 am).wf = true) (c9 : (Lit.int .i64 cn).wf = true) (e0 : (Lit.int .i64 op').wf = true) (e1 : (Lit.int .i64 d').wf = true) (e2 : (Lit.int .i64 n').wf = true) (e3 : (Lit.int .i64 m').wf = true) (e4 : (Lit.int .i64 a').wf = true) (e5 : (Lit.int .i64 im').wf = true) (e6 : (Lit.int .u64 mk').wf = true) (e7 : (Lit.int .i64 sh').wf = true) (e8 : (Lit.int .i64 am').wf = true) (e9 : (Lit.int .i64 cn').wf = true) (HT : Aside0 (Tabs w)) :
  Calls Tryd.prog 6 #[.agg #[.int .i64 op, .int .i64 d, .int .i64 n, .int .i64 m, .int .i64 a, .int .i64 im, .int .u64 mk, .int .i64 sh, .int .i64 am, .int .i64 cn], .agg #[.int .i64 op', .int .i64 d', .int .i64 n', .int .i64 m', .int .i64 a', .int .i64 im', .int .u64 mk', .int .i64 sh', .int .i64 am', .int .i64 cn']] w fun e w' => e = .returned (.bool true) ∧ Below w.heap.size w w' := by
 have hk1 := Go.Proofs.YtemenenkefcebaaDoor.K.wf_u64 c6
 have hk2 := Go.Proofs.YtemenenkefcebaaDoor.K.wf_u64 e6
 clear c0 c1 c2 c3 c4 c5 c6 c7 c8 c9 e0 e1 e2 e3 e4 e5 e6 e7 e8 e9
 rcases Cd.one_plain op d n m a im mk sh am cn hk1 with h1 | ⟨u, hu, h1, h1d, h0, hx, hy⟩
 ·rcases Cd.one_plain op' d' n' m' a' im' mk' sh' am' cn' hk2 with h2 | ⟨u2, hu2, h2, _⟩
  ·exact fields_bad op d n m a im mk sh am cn op' d' n' m' a' im' mk' sh' am' cn' 0 1 0 1 w (Or.inl rfl) ⟨h1⟩ ⟨h2⟩ HT
  ·exact fields_bad op d n m a im mk sh am cn op' d' n' m' a' im' mk' sh' am' cn' 0 1 u2 0 w (Or.inl rfl) ⟨h1⟩ ⟨h2⟩ HT
 ·rcases Cd.one_plain op' d' n' m' a' im' mk' sh' am' cn' hk2 with h2 | ⟨u2, hu2, h2, h2d, _⟩
  ·exact fields_bad op d n m a im mk sh am cn op' d' n' m' a' im' mk' sh' am' cn' u 0 0 1 w (Or.inr ⟨rfl, rfl⟩) ⟨h1⟩ ⟨h2⟩ HT
  ·have hX := Cd.field_pt hu 0 5 (by decide) (by decide)
   have hY := Cd.field_pt hu 5 5 (by decide) (by decide)
   have l1 := Cd.pt_lt u 0 5
   have l2 := Cd.pt_lt u 5 5
   have hx' : In.hD (In.shN op) = true → (wrap64 (Cd.pt u 0 5 : Int) == d) = true := fun h => by rw [hx h, beq_iff_eq]; unfold wrap64; omega
   have hy' : In.hN (In.shN op) = true → (wrap64 (Cd.pt u 5 5 : Int) == n) = true := fun h => by rw [hy h, beq_iff_eq]; unfold wrap64; omega
   by_cases hij : (op == op' && (d == d' && (n == n' && (m == m' && (a == a' && (im == im' && (mk == mk' && (sh == sh' && (am == am' && (cn == cn')))))))))) = true
   ·simp only [Bool.and_eq_true, beq_iff_eq] at hij
    obtain ⟨rfl, rfl, rfl, rfl, rfl, rfl, rfl, rfl, rfl, rfl⟩ := hij
    exact fields_same op d n m a im mk sh am cn u _ _ (In.shN op) w hx' hy' h0 ⟨h1⟩ ⟨h1⟩ ⟨In.shape_f op⟩ ⟨hX⟩ ⟨hY⟩ HT
   ·have hvw : ((u : Int) == (u2 : Int)) = false := by
     rw [beq_eq_false_iff_ne]
     intro e
     rw [← e, h1d] at h2d
     cases h2d
     simp at hij
    exact fields_other op d n m a im mk sh am cn op' d' n' m' a' im' mk' sh' am' cn' u u2 _ _ (In.shN op) w hvw ⟨fun h => hij (by simpa using h)⟩ hx' hy' h0 ⟨h1⟩ ⟨h2⟩ ⟨In.shape_f op⟩ ⟨hX⟩ ⟨hY⟩ HT
end Go.Proofs.YtemenenkefcebaaDoor.P
