/- PoolSame, walked by hand. -/
import Derived.Test.YtoglfjeggfbngaaPw
namespace Go.Proofs.Ytoglfjeggfbngaa.P
open Go.RowKit Go.Maps Go.MapKept Go.ChangeMaps Go.ChangeShapes Go.WideShapes Go.Proofs.YtoglfjeggfbngaaW.PrintWords Go.Proofs.YtoglfjeggfbngaaW.PrintLast Go.Proofs.YtoglfjeggfbngaaW.PrintMore
set_option linter.unusedVariables false
set_option linter.unusedSimpArgs false
def bxN (n : Nd) : Obj := .cells #[.int .i64 n.f0, .string n.f1, .int .i64 n.f2, .bool n.f3, .int .u64 n.f4] 30
theorem same_long (m n : Nd) (w : World) (h : 100 < m.f1.size ∨ 100 < n.f1.size) : Calls Try.prog 4 #[ndV m, ndV n] w fun e w' => e = .returned (.bool true) ∧ Below w.heap.size w w' := by
  unfold ndV
  rcases h with h | h
  · have h1 : (100 : Int) < m.f1.size := by omega
    go_enter Try.func4, Try.ntmps4
    go_wp2
    go_ret
    exact ⟨rfl, ((Below.refl _ _).alloc (Nat.le_refl _) _).alloc (by simp) _⟩
  · by_cases h0 : 100 < m.f1.size
    · have h1 : (100 : Int) < m.f1.size := by omega
      go_enter Try.func4, Try.ntmps4
      go_wp2
      go_ret
      exact ⟨rfl, ((Below.refl _ _).alloc (Nat.le_refl _) _).alloc (by simp) _⟩
    · have h1 : ¬ (100 : Int) < m.f1.size := by omega
      have h2 : (100 : Int) < n.f1.size := by omega
      go_enter Try.func4, Try.ntmps4
      go_wp2
      go_ret
      exact ⟨rfl, ((Below.refl _ _).alloc (Nat.le_refl _) _).alloc (by simp) _⟩
theorem put_two_m (B b : Nat) (m : Nd) (w : World) (hBw : B ≤ w.heap.size) (h : PoolAt B b [] w) (hok : ndOk m) : Calls Try.prog 9 #[.pointer (some ⟨b, 0, none⟩), ndV m] w fun e w' => e = .returned (.tuple #[.int .i64 0, .int .i64 (ofE m)]) ∧ PoolAt B b (putL [] m) w' ∧ Below B w w' ∧ Kept b w w' := by
  have h0 := pool_put B b [] m w hBw h hok
  have e1 : putK [] m = 0 := by unfold putK stK; simp
  have e2 : putE [] m = ofE m := by unfold putE ofE stB; simp
  rw [e1, e2] at h0
  exact h0
def seK (m n : Nd) : Int := putK (putL [] m) n
theorem put_two_n (B b : Nat) (m n : Nd) (w : World) (hBw : B ≤ w.heap.size) (h : PoolAt B b (putL [] m) w) (hok : ndOk n) : Calls Try.prog 9 #[.pointer (some ⟨b, 0, none⟩), ndV n] w fun e w' => e = .returned (.tuple #[.int .i64 (seK m n), .int .i64 (ofE n)]) ∧ PoolAt B b (putL (putL [] m) n) w' ∧ Below B w w' ∧ Kept b w w' := by
  have h0 := pool_put B b (putL [] m) n w hBw h hok
  have hl : (putL [] m).length < 64 := by
    unfold putL stL
    split
    · simp
    · simp
  have e2 : putE (putL [] m) n = ofE n := by unfold putE ofE stB; simp [hl]
  rw [e2] at h0
  exact h0
/-- The cells of an element of a row of literals of the call's own. -/
theorem row_cells {w : World} {B n c : Nat} {ok : Nat → Prop} {A : Option Addr} {xs : List Lt} (h : ltKd.R 34 w B ok (.slice A n c) xs) (hn : 0 < xs.length) : ∃ g, A = some ⟨g, 0, none⟩ ∧ B ≤ g ∧ g < w.heap.size ∧ (∃ cells, w.heap[g]? = some (.cells cells 34 (0, 0))) ∧ ok g ∧
    ∀ (i : Nat) (x : Lt), xs[i]? = some x → w.cell? ⟨g, i * 3, none⟩ = some (.string x.f0) ∧ w.cell? ⟨g, i * 3 + 1, none⟩ = some (.int .i64 x.f1) ∧ w.cell? ⟨g, i * 3 + 2, none⟩ = some (.int .u64 x.f2) := by
  obtain ⟨g, cap, he, hB, hg, hcells⟩ := Kd.R_form h hn
  simp only [Value.slice.injEq] at he
  obtain ⟨rfl, rfl, rfl⟩ := he
  refine ⟨g, rfl, hB, hg, hcells, h.1 g rfl, fun i x hx => ?_⟩
  have hC := (Kd.R_reads' h).2.2
  have hi : i < xs.length := (List.getElem?_eq_some_iff.1 hx).1
  obtain ⟨ad, cs, hA, hl, ⟨c0, c1, rfl, h0, c2, c3, rfl, h2, h3⟩, hcell⟩ := Kd.C_get hC ⟨⟨#[]⟩, 0, 0⟩ (i : Int) (by omega) (by omega)
  cases hA
  have hd : xs.getD i ⟨⟨#[]⟩, 0, 0⟩ = x := by simp [List.getD_eq_getElem?_getD, hx]
  rw [Int.toNat_natCast] at h0 h2 h3 hcell
  rw [hd] at h0 h2 h3
  obtain rfl : c0 = _ := h0
  obtain rfl : c2 = _ := h2
  obtain rfl : c3 = _ := h3
  have e0 := hcell 0 _ rfl
  have e1 := hcell 1 _ rfl
  have e2 := hcell 2 _ rfl
  rw [Go.Proofs.YtoglfjeggfbngaaW.PrintWords.add_plain] at e0 e1 e2
  exact ⟨e0, e1, e2⟩
theorem pool_made2 (B : Nat) (w : World) (hB : B ≤ w.heap.size) : Calls Try.prog 8 #[] w fun e w' => ∃ b, e = .returned (.pointer (some ⟨b, 0, none⟩)) ∧ PoolAt B b [] w' ∧ Below w.heap.size w w' ∧ w.heap.size < w'.heap.size :=
  (pool_made w).mono (by
    rintro e w' ⟨rfl, ⟨h1, h2, v, mp, h3, h4, h5⟩, hb, hs⟩
    refine ⟨_, rfl, ⟨Nat.le_trans hB h1, h2, v, mp, h3, Kd.R_lower h4 hB, ?_⟩, hb, hs⟩
    rcases h5 with h5 | ⟨bm, D, e, hbm, h6⟩
    · exact Or.inl h5
    · exact Or.inr ⟨bm, D, e, Nat.le_trans hB hbm, h6⟩)
/-- The arguments' boxes, and what they hold. -/
def Bx2 (m n : Nd) (p q : Nat) (w : World) : Prop := w.heap[p]? = some (.cells #[.int .i64 m.f0, .string m.f1, .int .i64 m.f2, .bool m.f3, .int .u64 m.f4] 30 (0, 0)) ∧ w.heap[q]? = some (.cells #[.int .i64 n.f0, .string n.f1, .int .i64 n.f2, .bool n.f3, .int .u64 n.f4] 30 (0, 0))
theorem Bx2.below {m n : Nd} {p q : Nat} {w w' : World} (h : Bx2 m n p q w) {B : Nat} (hb : Below B w w') (hp : p < B) (hq : q < B) : Bx2 m n p q w' := ⟨(hb.block p hp).trans h.1, (hb.block q hq).trans h.2⟩
theorem bx2_cells {m n : Nd} {p q : Nat} {w : World} (h : Bx2 m n p q w) :
    (w.cell? ⟨p, 0, none⟩ = some (.int .i64 m.f0) ∧ w.cell? ⟨p, 1, none⟩ = some (.string m.f1) ∧ w.cell? ⟨p, 2, none⟩ = some (.int .i64 m.f2) ∧ w.cell? ⟨p, 3, none⟩ = some (.bool m.f3) ∧ w.cell? ⟨p, 4, none⟩ = some (.int .u64 m.f4)) ∧
    (w.cell? ⟨q, 0, none⟩ = some (.int .i64 n.f0) ∧ w.cell? ⟨q, 1, none⟩ = some (.string n.f1) ∧ w.cell? ⟨q, 2, none⟩ = some (.int .i64 n.f2) ∧ w.cell? ⟨q, 3, none⟩ = some (.bool n.f3) ∧ w.cell? ⟨q, 4, none⟩ = some (.int .u64 n.f4)) :=
  ⟨⟨(blk_cell h.1 0).trans rfl, (blk_cell h.1 1).trans rfl, (blk_cell h.1 2).trans rfl, (blk_cell h.1 3).trans rfl, (blk_cell h.1 4).trans rfl⟩, ⟨(blk_cell h.2 0).trans rfl, (blk_cell h.2 1).trans rfl, (blk_cell h.2 2).trans rfl, (blk_cell h.2 3).trans rfl, (blk_cell h.2 4).trans rfl⟩⟩
set_option maxHeartbeats 4000000 in
theorem same_bad (m n : Nd) (w : World) (hm : m.f1.size ≤ 100) (hn : n.f1.size ≤ 100) (hmo : ndOk m) (hno : ndOk n) (hbad : ofB m = false ∨ ofB n = false) : Calls Try.prog 4 #[ndV m, ndV n] w fun e w' => e = .returned (.bool true) ∧ Below w.heap.size w w' := by
  have h1 : ¬ (100 : Int) < m.f1.size := by omega
  have h2 : ¬ (100 : Int) < n.f1.size := by omega
  have h3 : (m.f1.size : Int) ≤ 9223372036854775807 := by omega
  have h4 : (n.f1.size : Int) ≤ 9223372036854775807 := by omega
  have HA := Aside0.mk (fun B b W h1 h2 => put_two_m B b m W h1 h2 hmo)
  have HB := Aside0.mk (fun B b W h1 h2 => put_two_n B b m n W h1 h2 hno)
  have HM := Aside0.mk (of_calls m)
  have HN := Aside0.mk (of_calls n)
  obtain ⟨em, hem⟩ : ∃ e, e = ofE m := ⟨_, rfl⟩
  obtain ⟨en, hen⟩ : ∃ e, e = ofE n := ⟨_, rfl⟩
  have hb0 : ofB n = false → seK m n = 0 := by
    intro h
    unfold seK putK
    rw [h]
    rfl
  obtain ⟨sk, hsk⟩ : ∃ e, e = seK m n := ⟨_, rfl⟩
  have hcase : (em = 1 ∧ en = 1 ∧ sk = 0) ∨ (em = 1 ∧ en = 0) ∨ (em = 0 ∧ en = 1 ∧ sk = 0) := by
    rw [hem, hen, hsk]
    unfold ofE
    cases hm1 : ofB m <;> cases hn1 : ofB n
    · exact Or.inl ⟨rfl, rfl, hb0 hn1⟩
    · exact Or.inr (Or.inl ⟨rfl, rfl⟩)
    · exact Or.inr (Or.inr ⟨rfl, rfl, hb0 hn1⟩)
    · rw [hm1, hn1] at hbad; simp at hbad
  rw [← hem] at HA HM
  rw [← hen] at HB HN
  rw [← hsk] at HB
  clear hem hen hsk hb0 hbad hmo hno hm hn
  unfold ltV at HM HN
  unfold ndV at HA HB HM HN ⊢
  rcases hcase with ⟨rfl, rfl, rfl⟩ | ⟨rfl, rfl⟩ | ⟨rfl, rfl, rfl⟩
  all_goals
    go_enter Try.func4, Try.ntmps4
    go_wp2_with (fail)
    refine (pool_made2 (w.heap.size + 2) _ (by simp)).mono ?_
    rintro e w1 ⟨b, rfl, hp_, hb_, hs_⟩
    have P1 := Aside0.mk hp_
    have B1 := Aside0.mk (((below_alloc (below_alloc (Below.refl w.heap.size w) (.cells #[.int .i64 m.f0, .string m.f1, .int .i64 m.f2, .bool m.f3, .int .u64 m.f4] 30)) (.cells #[.int .i64 n.f0, .string n.f1, .int .i64 n.f2, .bool n.f3, .int .u64 n.f4] 30))).trans (hb_.mono (by simp; omega)))
    have S1 : w.heap.size + 2 ≤ w1.heap.size := by
      simp at hs_
      omega
    have X1 : Aside0 (Bx2 m n w.heap.size (w.heap.size + 1) w1) := ⟨Bx2.below (w := (w.alloc (.cells #[.int .i64 m.f0, .string m.f1, .int .i64 m.f2, .bool m.f3, .int .u64 m.f4] 30)).alloc (.cells #[.int .i64 n.f0, .string n.f1, .int .i64 n.f2, .bool n.f3, .int .u64 n.f4] 30)) ⟨blk_alloc (blk_new _ _) _, by have := blk_new (w.alloc (.cells #[.int .i64 m.f0, .string m.f1, .int .i64 m.f2, .bool m.f3, .int .u64 m.f4] 30)) (.cells #[.int .i64 n.f0, .string n.f1, .int .i64 n.f2, .bool n.f3, .int .u64 n.f4] 30); rwa [World.size_alloc] at this⟩ hb_ (by simp; omega) (by simp)⟩
    obtain ⟨⟨c10, c11, c12, c13, c14⟩, ⟨d10, d11, d12, d13, d14⟩⟩ := bx2_cells X1.out
    clear hp_ hb_ hs_
    go_wp2_with (go_at_call 9; (with_reducible refine (HA.out (w.heap.size + 2) b _ S1 P1.out).mono ?_); rintro e w2 ⟨rfl, hp_, hb_, hk_⟩; have P2 := Aside0.mk hp_; have B2 := Aside0.mk (B1.out.trans (hb_.mono (by omega))); have S2 := Nat.le_trans S1 hb_.size; have X2 : Aside0 (Bx2 m n w.heap.size (w.heap.size + 1) w2) := ⟨Bx2.below X1.out hb_ (by omega) (by omega)⟩; clear c10 c11 c12 c13 c14 d10 d11 d12 d13 d14; obtain ⟨⟨c10, c11, c12, c13, c14⟩, ⟨d10, d11, d12, d13, d14⟩⟩ := bx2_cells X2.out; clear hp_ hb_ hk_)
    go_wp2_with (go_at_call 9; (with_reducible refine (HB.out (w.heap.size + 2) b _ S2 P2.out).mono ?_); rintro e w3 ⟨rfl, hp_, hb_, hk_⟩; have P3 := Aside0.mk hp_; have B3 := Aside0.mk (B2.out.trans (hb_.mono (by omega))); have S3 := Nat.le_trans S2 hb_.size; have X3 : Aside0 (Bx2 m n w.heap.size (w.heap.size + 1) w3) := ⟨Bx2.below X2.out hb_ (by omega) (by omega)⟩; clear c10 c11 c12 c13 c14 d10 d11 d12 d13 d14; obtain ⟨⟨c10, c11, c12, c13, c14⟩, ⟨d10, d11, d12, d13, d14⟩⟩ := bx2_cells X3.out; clear hp_ hb_ hk_)
    go_wp2_with (fail)
    (with_reducible refine (HM.out _).mono ?_)
    rintro e w4 ⟨rfl, hb_⟩
    have P4 := Aside0.mk (PoolAt_keep P3.out hb_)
    have B4 := Aside0.mk (B3.out.trans (hb_.mono (by omega)))
    have S4 := Nat.le_trans S3 hb_.size
    have L4a : w.heap.size < w4.heap.size := by omega
    have L4b : w.heap.size + 1 < w4.heap.size := by omega
    have L4c : w.heap.size + 1 ≠ w4.heap.size := by omega
    have L4d : w.heap.size ≠ w4.heap.size := by omega
    have X4 : Aside0 (Bx2 m n w.heap.size (w.heap.size + 1) w4) := ⟨Bx2.below X3.out hb_ (by omega) (by omega)⟩
    clear c10 c11 c12 c13 c14 d10 d11 d12 d13 d14
    obtain ⟨⟨c10, c11, c12, c13, c14⟩, ⟨d10, d11, d12, d13, d14⟩⟩ := bx2_cells X4.out
    clear hb_
    go_wp2_with (fail)
    (with_reducible refine (HN.out _).mono ?_)
    rintro e w5 ⟨rfl, hb_⟩
    have hb_ := (below_alloc (Below.refl _ _) (.cells #[.string (ofL m).f0, .int .i64 (ofL m).f1, .int .u64 (ofL m).f2] 34)).trans (hb_.mono (by simp))
    have P5 := Aside0.mk (PoolAt_keep P4.out hb_)
    have B5 := Aside0.mk (B4.out.trans (hb_.mono (by omega)))
    have S5 := Nat.le_trans S4 hb_.size
    clear hb_
    go_wp2_with (fail)
    (with_reducible refine (pooled_calls _).mono ?_)
    rintro e w6 ⟨rfl, hb_⟩
    have hb_ := (below_alloc (Below.refl _ _) (.cells #[.string (ofL n).f0, .int .i64 (ofL n).f1, .int .u64 (ofL n).f2] 34)).trans (hb_.mono (by simp))
    have P6 := Aside0.mk (PoolAt_keep P5.out hb_)
    have B6 := Aside0.mk (B5.out.trans (hb_.mono (by omega)))
    have S6 := Nat.le_trans S5 hb_.size
    clear hb_
    go_wp2
    go_ret
    exact ⟨rfl, B6.out⟩
end Go.Proofs.Ytoglfjeggfbngaa.P
