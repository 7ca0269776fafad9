/- PoolSame: both needs are of literals. -/
import Derived.Test.YtoglfjeggfbngaaPg
import Derived.Deep.RegionHeld3
namespace Go.Proofs.Ytoglfjeggfbngaa.P
open Go.RowKit Go.Maps Go.MapKept Go.ChangeMaps Go.ChangeShapes Go.WideShapes Go.Proofs.YtoglfjeggfbngaaW.PrintWords Go.Proofs.YtoglfjeggfbngaaW.PrintLast Go.Proofs.YtoglfjeggfbngaaW.PrintMore
set_option linter.unusedVariables false
set_option linter.unusedSimpArgs false
theorem below_alloc' {B : Nat} {w W : World} (h : Below B w W) (o : Obj) (hB : B ≤ W.heap.size := by omega) : Below B w (W.alloc o) := h.alloc hB o
theorem lt_cells3 {x : Lt} {W : World} {b : Nat} (h : W.heap[b]? = some (.cells #[.string x.f0, .int .i64 x.f1, .int .u64 x.f2] 34 (0, 0))) :
    W.cell? ⟨b, 0, none⟩ = some (.string x.f0) ∧ W.cell? ⟨b, 1, none⟩ = some (.int .i64 x.f1) ∧ W.cell? ⟨b, 2, none⟩ = some (.int .u64 x.f2) :=
  ⟨(blk_cell h 0).trans rfl, (blk_cell h 1).trans rfl, (blk_cell h 2).trans rfl⟩
/-- The two literals, in the order in which they were put. -/
def twoL (x y : Lt) : List Lt := if y = x then [x] else [x, y]
set_option maxHeartbeats 4000000 in
theorem same_good (m n : Nd) (w : World) (hm : m.f1.size ≤ 100) (hn : n.f1.size ≤ 100) (x y : Lt) (sk : Int)
    (HA : Aside0 (∀ (B b : Nat) (W : World), B ≤ W.heap.size → PoolAt B b [] W → Calls Try.prog 9 #[.pointer (some ⟨b, 0, none⟩), ndV m] W fun e w' => e = .returned (.tuple #[.int .i64 0, .int .i64 0]) ∧ PoolAt B b [x] w' ∧ Below B W w' ∧ Kept b W w'))
    (HB : Aside0 (∀ (B b : Nat) (W : World), B ≤ W.heap.size → PoolAt B b [x] W → Calls Try.prog 9 #[.pointer (some ⟨b, 0, none⟩), ndV n] W fun e w' => e = .returned (.tuple #[.int .i64 sk, .int .i64 0]) ∧ PoolAt B b (twoL x y) w' ∧ Below B W w' ∧ Kept b W w'))
    (HM : Aside0 (∀ w : World, Calls Try.prog 11 #[ndV m] w fun e w' => e = .returned (.tuple #[ltV x, .int .i64 0]) ∧ Below w.heap.size w w'))
    (HN : Aside0 (∀ w : World, Calls Try.prog 11 #[ndV n] w fun e w' => e = .returned (.tuple #[ltV y, .int .i64 0]) ∧ Below w.heap.size w w'))
    (hsk : sk = if y = x then 0 else 1) :
    Calls Try.prog 4 #[ndV m, ndV n] w fun e w' => e = .returned (.bool true) ∧ Below w.heap.size w w' := by
  have h1 : ¬ (100 : Int) < m.f1.size := by omega
  have h2 : ¬ (100 : Int) < n.f1.size := by omega
  have h3 : (m.f1.size : Int) ≤ 9223372036854775807 := by omega
  have h4 : (n.f1.size : Int) ≤ 9223372036854775807 := by omega
  clear hm hn
  have HSK := Aside0.mk hsk
  clear hsk
  unfold ltV at HM HN
  unfold ndV at HA HB HM HN ⊢
  go_enter Try.func4, Try.ntmps4
  go_wp2_with (fail)
  refine (pool_made2 (w.heap.size + 2) _ (by simp)).mono ?_
  rintro e w1 ⟨b, rfl, hp_, hb_, hs_⟩
  have P1 := Aside0.mk hp_
  have B1 := Aside0.mk (((below_alloc (below_alloc (Below.refl w.heap.size w) (.cells #[.int .i64 m.f0, .string m.f1, .int .i64 m.f2, .bool m.f3, .int .u64 m.f4] 30)) (.cells #[.int .i64 n.f0, .string n.f1, .int .i64 n.f2, .bool n.f3, .int .u64 n.f4] 30))).trans (hb_.mono (by simp; omega)))
  have S1 : w.heap.size + 2 ≤ w1.heap.size := by
    simp at hs_
    omega
  have X1 : Aside0 (Bx2 m n w.heap.size (w.heap.size + 1) w1) := ⟨Bx2.below (w := (w.alloc (.cells #[.int .i64 m.f0, .string m.f1, .int .i64 m.f2, .bool m.f3, .int .u64 m.f4] 30)).alloc (.cells #[.int .i64 n.f0, .string n.f1, .int .i64 n.f2, .bool n.f3, .int .u64 n.f4] 30)) ⟨blk_alloc (blk_new _ _) _, by have := blk_new (w.alloc (.cells #[.int .i64 m.f0, .string m.f1, .int .i64 m.f2, .bool m.f3, .int .u64 m.f4] 30)) (.cells #[.int .i64 n.f0, .string n.f1, .int .i64 n.f2, .bool n.f3, .int .u64 n.f4] 30); rwa [World.size_alloc] at this⟩ hb_ (by simp; omega) (by simp)⟩
  obtain ⟨⟨c10, c11, c12, c13, c14⟩, ⟨d10, d11, d12, d13, d14⟩⟩ := bx2_cells X1.out
  clear hp_ hb_ hs_
  go_wp2_with (go_at_call 9; (with_reducible refine (HA.out (w.heap.size + 2) b _ S1 P1.out).mono ?_); rintro e w2 ⟨rfl, hp_, hb_, hk_⟩; have P2 := Aside0.mk hp_; have B2 := Aside0.mk (B1.out.trans (hb_.mono (by omega))); have S2 := Nat.le_trans S1 hb_.size; have X2 : Aside0 (Bx2 m n w.heap.size (w.heap.size + 1) w2) := ⟨Bx2.below X1.out hb_ (by omega) (by omega)⟩; clear c10 c11 c12 c13 c14 d10 d11 d12 d13 d14; obtain ⟨⟨c10, c11, c12, c13, c14⟩, ⟨d10, d11, d12, d13, d14⟩⟩ := bx2_cells X2.out; clear hp_ hb_ hk_)
  go_wp2_with (go_at_call 9; (with_reducible refine (HB.out (w.heap.size + 2) b _ S2 P2.out).mono ?_); rintro e w3 ⟨rfl, hp_, hb_, hk_⟩; have P3 := Aside0.mk hp_; have B3 := Aside0.mk (B2.out.trans (hb_.mono (by omega))); have S3 := Nat.le_trans S2 hb_.size; have X3 : Aside0 (Bx2 m n w.heap.size (w.heap.size + 1) w3) := ⟨Bx2.below X2.out hb_ (by omega) (by omega)⟩; clear c10 c11 c12 c13 c14 d10 d11 d12 d13 d14; obtain ⟨⟨c10, c11, c12, c13, c14⟩, ⟨d10, d11, d12, d13, d14⟩⟩ := bx2_cells X3.out; clear hp_ hb_ hk_)
  go_wp2_with (fail)
  (with_reducible refine (HM.out _).mono ?_)
  rintro e w4 ⟨rfl, hb_⟩
  have P4 := Aside0.mk (PoolAt_keep P3.out hb_)
  have B4 := Aside0.mk (B3.out.trans (hb_.mono (by omega)))
  have S4 := Nat.le_trans S3 hb_.size
  have L4a : w.heap.size < w4.heap.size := by omega
  have L4b : w.heap.size + 1 < w4.heap.size := by omega
  have L4c : w.heap.size + 1 ≠ w4.heap.size := by omega
  have L4d : w.heap.size ≠ w4.heap.size := by omega
  have X4 : Aside0 (Bx2 m n w.heap.size (w.heap.size + 1) w4) := ⟨Bx2.below X3.out hb_ (by omega) (by omega)⟩
  clear c10 c11 c12 c13 c14 d10 d11 d12 d13 d14
  obtain ⟨⟨c10, c11, c12, c13, c14⟩, ⟨d10, d11, d12, d13, d14⟩⟩ := bx2_cells X4.out
  clear hb_
  go_wp2_with (fail)
  (with_reducible refine (HN.out _).mono ?_)
  rintro e w5 ⟨rfl, hb_⟩
  have K5 := Aside0.mk (blk_grown (blk_new w4 (.cells #[.string x.f0, .int .i64 x.f1, .int .u64 x.f2] 34)) (grown_of_below hb_ none) (by simp))
  have hb_ := (below_alloc (Below.refl _ _) (.cells #[.string x.f0, .int .i64 x.f1, .int .u64 x.f2] 34)).trans (hb_.mono (by simp))
  have P5 := Aside0.mk (PoolAt_keep P4.out hb_)
  have B5 := Aside0.mk (B4.out.trans (hb_.mono (by omega)))
  have S5 := Nat.le_trans S4 hb_.size
  clear hb_
  go_wp2_with (fail)
  refine (pool_take (w.heap.size + 2) b (twoL x y) _ (by simp; omega) (PoolAt_keep P5.out (below_alloc (Below.refl _ _) _))).mono ?_
  rintro e w6 ⟨A, c, rfl, hR_, hP_, hb_, hk_⟩
  have hbl : b < w4.heap.size := by obtain ⟨_, _, v, mp, hb, _⟩ := P4.out; exact blk_lt hb
  have h45 : w4.heap.size < w5.heap.size := blk_lt K5.out
  have Kx := Aside0.mk (hk_ w4.heap.size _ _ _ (blk_alloc K5.out _) (by omega))
  have Ky := Aside0.mk (hk_ w5.heap.size _ _ _ (blk_new w5 (.cells #[.string y.f0, .int .i64 y.f1, .int .u64 y.f2] 34)) (by omega))
  have R6 := Aside0.mk hR_
  have B6 := Aside0.mk ((below_alloc' B5.out (.cells #[.string y.f0, .int .i64 y.f1, .int .u64 y.f2] 34)).trans (hb_.mono (by omega)))
  have S6 := Nat.le_trans (show w.heap.size + 2 ≤ (w5.alloc (.cells #[.string y.f0, .int .i64 y.f1, .int .u64 y.f2] 34)).heap.size by simp; omega) hb_.size
  clear hR_ hP_ hb_ hk_ HA HB HM HN P1 P2 P3 P4 P5 c10 c11 c12 c13 c14 d10 d11 d12 d13 d14 X1 X2 X3 X4
  obtain ⟨gx, hgx⟩ : ∃ g, g = w4.heap.size := ⟨_, rfl⟩
  obtain ⟨gy, hgy⟩ : ∃ g, g = w5.heap.size := ⟨_, rfl⟩
  obtain ⟨x0, x1, x2⟩ := lt_cells3 Kx.out
  obtain ⟨y0, y1, y2⟩ := lt_cells3 Ky.out
  have hp := Aside0.mk (pooled_calls w6.drew)
  by_cases hyx : y = x
  · have hq := lit_eql x x
    have e2 : twoL x y = [x] := by unfold twoL; rw [if_pos hyx]
    have e0 : sk = 0 := by rw [HSK.out, if_pos hyx]
    rw [e2] at R6 ⊢
    subst e0 hyx
    obtain ⟨g, rfl, hBg, hgl, ⟨cells, hgc⟩, _, hcells⟩ := row_cells R6.out (by simp)
    obtain ⟨r0, r1, r2⟩ := hcells 0 _ rfl
    simp only [Nat.zero_mul, Nat.zero_add] at r0 r1 r2
    unfold ltV at hq
    simp only [decide_true] at hq
    clear hcells hgc e2 HSK hgx hgy
    go_wp2_with (fail)
    go_region_held3 (fun w' => (w'.cell? ⟨w4.heap.size, 0, none⟩ = some (.string y.f0) ∧ w'.cell? ⟨w4.heap.size, 1, none⟩ = some (.int .i64 y.f1) ∧ w'.cell? ⟨w4.heap.size, 2, none⟩ = some (.int .u64 y.f2)) ∧ (w'.cell? ⟨w5.heap.size, 0, none⟩ = some (.string y.f0) ∧ w'.cell? ⟨w5.heap.size, 1, none⟩ = some (.int .i64 y.f1) ∧ w'.cell? ⟨w5.heap.size, 2, none⟩ = some (.int .u64 y.f2)) ∧ (w'.cell? ⟨g, 0, none⟩ = some (.string y.f0) ∧ w'.cell? ⟨g, 1, none⟩ = some (.int .i64 y.f1) ∧ w'.cell? ⟨g, 2, none⟩ = some (.int .u64 y.f2)))
      (go_keep)
      ((go_at_call 7; refine (pooled_calls _).mono ?_; rintro e w7 ⟨rfl, hb7⟩; have zx0 := pw_cell_below hb7 x0; have zx1 := pw_cell_below hb7 x1; have zx2 := pw_cell_below hb7 x2; have zy0 := pw_cell_below hb7 y0; have zy1 := pw_cell_below hb7 y1; have zy2 := pw_cell_below hb7 y2; have zr0 := pw_cell_below hb7 r0; have zr1 := pw_cell_below hb7 r1; have zr2 := pw_cell_below hb7 r2))
    all_goals go_wp2
    all_goals
      go_ret
      exact ⟨rfl, B6.out.trans ((below_drew (Below.refl _ w6)).trans (hb7.mono (Nat.le_trans (by omega) S6)))⟩
  · have hq := lit_eql x y w6
    have hqx := lit_eql x x
    have hqy := lit_eql y y
    have hqxy : ∀ w : World, (binOp .eql 34 (ltV x) (ltV y)).run Try.prog w = .ok (.bool false) w := fun w => by rw [lit_eql x y w, decide_eq_false (fun e => hyx e.symm)]
    have e2 : twoL x y = [x, y] := by unfold twoL; rw [if_neg hyx]
    have e0 : sk = 1 := by rw [HSK.out, if_neg hyx]
    rw [e2] at R6 ⊢
    clear hyx HSK hq
    subst e0
    obtain ⟨g, rfl, hBg, hgl, ⟨cells, hgc⟩, _, hcells⟩ := row_cells R6.out (by simp)
    obtain ⟨r0, r1, r2⟩ := hcells 0 _ rfl
    obtain ⟨r3, r4, r5⟩ := hcells 1 _ rfl
    simp only [Nat.zero_mul, Nat.zero_add, Nat.one_mul, Nat.reduceAdd] at r0 r1 r2 r3 r4 r5
    unfold ltV at hqx hqy hqxy
    simp only [decide_true] at hqx hqy
    clear hcells hgc e2 hgx hgy
    go_wp2_with (fail)
    go_region_held3 (fun w' => (w'.cell? ⟨w4.heap.size, 0, none⟩ = some (.string x.f0) ∧ w'.cell? ⟨w4.heap.size, 1, none⟩ = some (.int .i64 x.f1) ∧ w'.cell? ⟨w4.heap.size, 2, none⟩ = some (.int .u64 x.f2)) ∧ (w'.cell? ⟨w5.heap.size, 0, none⟩ = some (.string y.f0) ∧ w'.cell? ⟨w5.heap.size, 1, none⟩ = some (.int .i64 y.f1) ∧ w'.cell? ⟨w5.heap.size, 2, none⟩ = some (.int .u64 y.f2)) ∧ (w'.cell? ⟨g, 0, none⟩ = some (.string x.f0) ∧ w'.cell? ⟨g, 1, none⟩ = some (.int .i64 x.f1) ∧ w'.cell? ⟨g, 2, none⟩ = some (.int .u64 x.f2)) ∧ (w'.cell? ⟨g, 3, none⟩ = some (.string y.f0) ∧ w'.cell? ⟨g, 4, none⟩ = some (.int .i64 y.f1) ∧ w'.cell? ⟨g, 5, none⟩ = some (.int .u64 y.f2)))
      (go_keep)
      ((go_at_call 7; refine (pooled_calls _).mono ?_; rintro e w7 ⟨rfl, hb7⟩; have zx0 := pw_cell_below hb7 x0; have zx1 := pw_cell_below hb7 x1; have zx2 := pw_cell_below hb7 x2; have zy0 := pw_cell_below hb7 y0; have zy1 := pw_cell_below hb7 y1; have zy2 := pw_cell_below hb7 y2; have zr0 := pw_cell_below hb7 r0; have zr1 := pw_cell_below hb7 r1; have zr2 := pw_cell_below hb7 r2; have zr3 := pw_cell_below hb7 r3; have zr4 := pw_cell_below hb7 r4; have zr5 := pw_cell_below hb7 r5))
    all_goals go_wp2
    all_goals
      go_ret
      exact ⟨rfl, B6.out.trans ((below_drew (Below.refl _ w6)).trans (hb7.mono (Nat.le_trans (by omega) S6)))⟩
theorem same_calls (a0 : Int) (a1 : ByteArray) (a2 : Int) (a3 : Bool) (a4 : Int) (b0 : Int) (b1 : ByteArray) (b2 : Int) (b3 : Bool) (b4 : Int) (w : World) (_h1 : (Lit.int .i64 a0).wf = true) (h2 : a1.size ≤ 9223372036854775807) (h3 : (Lit.int .i64 a2).wf = true) (h4 : (Lit.int .u64 a4).wf = true)
    (_k1 : (Lit.int .i64 b0).wf = true) (k2 : b1.size ≤ 9223372036854775807) (k3 : (Lit.int .i64 b2).wf = true) (k4 : (Lit.int .u64 b4).wf = true) :
    Calls Try.prog 4 #[.agg #[.int .i64 a0, .string a1, .int .i64 a2, .bool a3, .int .u64 a4], .agg #[.int .i64 b0, .string b1, .int .i64 b2, .bool b3, .int .u64 b4]] w fun e w' => e = .returned (.bool true) ∧ Below w.heap.size w w' := by
  have hm : ndOk ⟨a0, a1, a2, a3, a4⟩ := ⟨h2, h3, h4⟩
  have hn : ndOk ⟨b0, b1, b2, b3, b4⟩ := ⟨k2, k3, k4⟩
  show Calls Try.prog 4 #[ndV ⟨a0, a1, a2, a3, a4⟩, ndV ⟨b0, b1, b2, b3, b4⟩] w _
  by_cases hl : 100 < a1.size ∨ 100 < b1.size
  · exact same_long _ _ w hl
  generalize hm' : (⟨a0, a1, a2, a3, a4⟩ : Nd) = m at *
  generalize hn' : (⟨b0, b1, b2, b3, b4⟩ : Nd) = n at *
  have hs1 : m.f1.size ≤ 100 := by rw [← hm']; show a1.size ≤ 100; omega
  have hs2 : n.f1.size ≤ 100 := by rw [← hn']; show b1.size ≤ 100; omega
  clear hm' hn' hl
  by_cases hbad : ofB m = false ∨ ofB n = false
  · exact same_bad m n w hs1 hs2 hm hn hbad
  have em : ofB m = true := by cases h : ofB m <;> simp_all
  have en : ofB n = true := by cases h : ofB n <;> simp_all
  have e1 : putL [] m = [ofL m] := by unfold putL stL; rw [if_pos em]; simp
  have e2 : putL [ofL m] n = twoL (ofL m) (ofL n) := by unfold putL stL twoL; rw [if_pos en]; simp
  have e3 : ofE m = 0 := by unfold ofE; rw [if_pos em]
  have e4 : ofE n = 0 := by unfold ofE; rw [if_pos en]
  have e5 : seK m n = if ofL n = ofL m then 0 else 1 := by
    unfold seK putK stK
    rw [if_pos en, e1]
    by_cases h : ofL n = ofL m
    · rw [if_pos h, h]; simp
    · rw [if_neg h]; simp [h]
  have HA := fun B b W h1 h2 => put_two_m B b m W h1 h2 hm
  have HB := fun B b W h1 h2 => put_two_n B b m n W h1 h2 hn
  rw [e1, e3] at HA
  rw [e1, e4, e2] at HB
  have HM := of_calls m
  have HN := of_calls n
  rw [e3] at HM
  rw [e4] at HN
  exact same_good m n w hs1 hs2 (ofL m) (ofL n) (seK m n) ⟨HA⟩ ⟨HB⟩ ⟨HM⟩ ⟨HN⟩ e5
end Go.Proofs.Ytoglfjeggfbngaa.P
