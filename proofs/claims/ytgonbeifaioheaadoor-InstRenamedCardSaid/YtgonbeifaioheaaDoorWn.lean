/- InstRenamed, walked by hand over the contracts of its callees. -/
import Derived.Test.YtgonbeifaioheaaDoorRn1
import Derived.Deep.CutRange
import Derived.Test.YtgonbeifaioheaaDoorPx11
import Derived.Test.YtgonbeifaioheaaDoorPx13
import Derived.Test.YtgonbeifaioheaaDoorPx2
import Derived.Test.YtgonbeifaioheaaDoorPx4
import Derived.Test.YtgonbeifaioheaaDoorPx5
namespace Go.Proofs.YtgonbeifaioheaaDoor.P
open Go.RowKit Go.Proofs.YtgonbeifaioheaaDoor.K Go.Proofs.YtgonbeifaioheaaDoor.In Go.Proofs.YtgonbeifaioheaaDoorW.PrintWords Go.Proofs.YtgonbeifaioheaaDoorW.PrintLast Go.Proofs.YtgonbeifaioheaaDoorW.PrintMore
set_option linter.unusedVariables false
set_option linter.unusedSimpArgs false
theorem swap_calls (v p q : Int) (g h : Nat) (w : World) (hp : w.cell? ⟨g, 0, none⟩ = some (.int .i64 p)) (hq : w.cell? ⟨h, 0, none⟩ = some (.int .i64 q)) :
  Calls Tryd.prog 19 #[.int .i64 v, .pointer (some ⟨g, 0, none⟩), .pointer (some ⟨h, 0, none⟩)] w fun e w' => e = .returned (.int .i64 (sg p q v)) ∧ Drawn0 w w' := by
 unfold sg
 by_cases h1 : v = p
 ·rw [if_pos h1]
  subst h1
  go_enter Tryd.func19, Tryd.ntmps19
  go_wp2
  go_ret
  exact ⟨rfl, Drawn0.refl _⟩
 ·rw [if_neg h1]
  have c1 : (v == p) = false := beq_eq_false_iff_ne.2 h1
  by_cases h2 : v = q
  ·rw [if_pos h2]
   subst h2
   clear h1
   go_enter Tryd.func19, Tryd.ntmps19
   go_wp2
   go_ret
   exact ⟨rfl, Drawn0.refl _⟩
  ·rw [if_neg h2]
   have c2 : (v == q) = false := beq_eq_false_iff_ne.2 h2
   clear h1 h2
   go_enter Tryd.func19, Tryd.ntmps19
   go_wp2
   go_ret
   exact ⟨rfl, Drawn0.refl _⟩
/-- The three parameters' boxes. -/
structure Rn3 (w0 w : World) (cs : Array Value) (p q : Int) : Prop where
 b1 : w.heap[w0.heap.size]? = some (.cells cs 24 (0, 0))
 b2 : w.heap[w0.heap.size + 1]? = some (.cells #[.int .i64 p] 3 (0, 0))
 b3 : w.heap[w0.heap.size + 2]? = some (.cells #[.int .i64 q] 3 (0, 0))
 bel : Below w0.heap.size w0 w
 tab0 : Aside0 (Tabs w0)
theorem Rn3.below {w0 w w1 : World} {cs : Array Value} {p q : Int} (h : Rn3 w0 w cs p q) (hb : Below w.heap.size w w1) : Rn3 w0 w1 cs p q :=
 ⟨blk_grown h.b1 (grown_of_below hb none) (by simp), blk_grown h.b2 (grown_of_below hb none) (by simp), blk_grown h.b3 (grown_of_below hb none) (by simp), h.bel.trans (hb.mono h.bel.size), h.tab0⟩
theorem Rn3.tab {w0 w : World} {cs : Array Value} {p q : Int} (h : Rn3 w0 w cs p q) : Aside0 (Tabs w) := tabs_of h.tab0 h.bel
theorem Rn3.set {w0 w : World} {cs cs' : Array Value} {p q : Int} {g : Nat} (h : Rn3 w0 w cs p q) (_ : w.heap[g]? = some (.cells cs' 24 (0, 0))) (hg : w0.heap.size + 3 ≤ g) (i : Nat) (v : Value) : Rn3 w0 (w.setCell ⟨g, i, none⟩ v) cs p q :=
 ⟨(Below.heap_setCell w ⟨g, i, none⟩ v _ (by show w0.heap.size ≠ g; omega)).trans h.b1, (Below.heap_setCell w ⟨g, i, none⟩ v _ (by show w0.heap.size + 1 ≠ g; omega)).trans h.b2, (Below.heap_setCell w ⟨g, i, none⟩ v _ (by show w0.heap.size + 2 ≠ g; omega)).trans h.b3, below_set h.bel (by omega), h.tab0⟩
theorem Rn3.made (w : World) (cs : Array Value) (p q : Int) (HT : Aside0 (Tabs w)) : Rn3 w (((w.alloc (.cells cs 24)).alloc (.cells #[.int .i64 p] 3)).alloc (.cells #[.int .i64 q] 3)) cs p q where
 b1 := blk_alloc (blk_alloc (blk_new w _) _) _
 b2 := by
  have h := blk_new (w.alloc (.cells cs 24)) (.cells #[.int .i64 p] 3)
  rw [World.size_alloc] at h
  exact blk_alloc h _
 b3 := by
  have h := blk_new ((w.alloc (.cells cs 24)).alloc (.cells #[.int .i64 p] 3)) (.cells #[.int .i64 q] 3)
  rw [World.size_alloc, World.size_alloc] at h
  exact h
 bel := below_alloc (below_alloc (below_alloc (Below.refl _ _) _) _) _
 tab0 := HT
theorem caseD (op : Int) (h : shN op ≠ 0) : (decide (shN op ≤ 10) = true ∧ hD (shN op) = true) ∨ (decide (shN op ≤ 10) = false ∧ (shN op == 16) = true ∧ hD (shN op) = true) ∨ (decide (shN op ≤ 10) = false ∧ (shN op == 16) = false ∧ hD (shN op) = false) := by
 obtain ⟨i, hi, e⟩ := shN_range op
 rw [e] at h ⊢
 have key : ∀ i : Nat, i < 17 → i ≠ 0 → (decide ((i : Int) ≤ 10) = true ∧ hD (i : Int) = true) ∨ (decide ((i : Int) ≤ 10) = false ∧ ((i : Int) == 16) = true ∧ hD (i : Int) = true) ∨ (decide ((i : Int) ≤ 10) = false ∧ ((i : Int) == 16) = false ∧ hD (i : Int) = false) := by decide +kernel
 exact key i hi (by omega)
theorem caseN (op : Int) (h : shN op ≠ 0) : (decide (2 ≤ shN op) = true ∧ decide (shN op ≤ 8) = true ∧ hN (shN op) = true) ∨ (decide (2 ≤ shN op) = true ∧ decide (shN op ≤ 8) = false ∧ (shN op == 13) = true ∧ hN (shN op) = true) ∨ (decide (2 ≤ shN op) = true ∧ decide (shN op ≤ 8) = false ∧ (shN op == 13) = false ∧ (shN op == 16) = true ∧ hN (shN op) = true) ∨ (decide (2 ≤ shN op) = true ∧ decide (shN op ≤ 8) = false ∧ (shN op == 13) = false ∧ (shN op == 16) = false ∧ hN (shN op) = false) ∨ (decide (2 ≤ shN op) = false ∧ (shN op == 13) = false ∧ (shN op == 16) = false ∧ hN (shN op) = false) := by
 have hs : 0 ≤ shN op ∧ shN op < 17 ∧ shN op ≠ 0 := by
  obtain ⟨i, hi, e⟩ := shN_range op
  exact ⟨by omega, by omega, h⟩
 unfold hN
 by_cases a1 : 2 ≤ shN op
 ·by_cases a2 : shN op ≤ 8
  ·exact Or.inl ⟨decide_eq_true a1, decide_eq_true a2, decide_eq_true (by omega)⟩
  ·by_cases a3 : shN op = 13
   ·exact Or.inr (Or.inl ⟨decide_eq_true a1, decide_eq_false a2, beq_iff_eq.2 a3, decide_eq_true (by omega)⟩)
   ·by_cases a4 : shN op = 16
    ·exact Or.inr (Or.inr (Or.inl ⟨decide_eq_true a1, decide_eq_false a2, beq_eq_false_iff_ne.2 a3, beq_iff_eq.2 a4, decide_eq_true (by omega)⟩))
    ·exact Or.inr (Or.inr (Or.inr (Or.inl ⟨decide_eq_true a1, decide_eq_false a2, beq_eq_false_iff_ne.2 a3, beq_eq_false_iff_ne.2 a4, decide_eq_false (by omega)⟩)))
 ·exact Or.inr (Or.inr (Or.inr (Or.inr ⟨decide_eq_false a1, beq_eq_false_iff_ne.2 (by omega), beq_eq_false_iff_ne.2 (by omega), decide_eq_false (by omega)⟩)))
theorem caseM (op : Int) (h : shN op ≠ 0) : (decide (4 ≤ shN op) = true ∧ decide (shN op ≤ 6) = true ∧ hM (shN op) = true) ∨ (decide (4 ≤ shN op) = true ∧ decide (shN op ≤ 6) = false ∧ (shN op == 16) = true ∧ hM (shN op) = true) ∨ (decide (4 ≤ shN op) = true ∧ decide (shN op ≤ 6) = false ∧ (shN op == 16) = false ∧ hM (shN op) = false) ∨ (decide (4 ≤ shN op) = false ∧ (shN op == 16) = false ∧ hM (shN op) = false) := by
 obtain ⟨i, hi, e⟩ := shN_range op
 rw [e] at h ⊢
 have key : ∀ i : Nat, i < 17 → i ≠ 0 → (decide (4 ≤ (i : Int)) = true ∧ decide ((i : Int) ≤ 6) = true ∧ hM (i : Int) = true) ∨ (decide (4 ≤ (i : Int)) = true ∧ decide ((i : Int) ≤ 6) = false ∧ ((i : Int) == 16) = true ∧ hM (i : Int) = true) ∨ (decide (4 ≤ (i : Int)) = true ∧ decide ((i : Int) ≤ 6) = false ∧ ((i : Int) == 16) = false ∧ hM (i : Int) = false) ∨ (decide (4 ≤ (i : Int)) = false ∧ ((i : Int) == 16) = false ∧ hM (i : Int) = false) := by decide +kernel
 exact key i hi (by omega)
theorem caseA (op : Int) (_ : shN op ≠ 0) : ((shN op == 6) = true ∧ hA (shN op) = true) ∨ ((shN op == 6) = false ∧ hA (shN op) = false) := by
 unfold hA
 by_cases h : shN op = 6
 ·exact Or.inl ⟨beq_iff_eq.2 h, decide_eq_true h⟩
 ·exact Or.inr ⟨beq_eq_false_iff_ne.2 h, decide_eq_false h⟩
abbrev iC (op d n m a im : Int) (u : Nat) (sh am co : Int) : Array Value := #[.int .i64 op, .int .i64 d, .int .i64 n, .int .i64 m, .int .i64 a, .int .i64 im, .int .u64 u, .int .i64 sh, .int .i64 am, .int .i64 co]
set_option maxHeartbeats 4000000 in
set_option maxRecDepth 100000 in
theorem ren_bad (op d n m a im : Int) (u : Nat) (sh am co p q : Int) (w : World) (hu : u < 18446744073709551616) (hbad : isB op d n m a im u sh am co = false ∨ p < 0 ∨ 30 < p ∨ q < 0 ∨ 30 < q ∨ op = 37 ∨ op = 30 ∨ op = 35) (HT : Aside0 (Tabs w)) :
  Calls Tryd.prog 5 #[.agg #[.int .i64 op, .int .i64 d, .int .i64 n, .int .i64 m, .int .i64 a, .int .i64 im, .int .u64 u, .int .i64 sh, .int .i64 am, .int .i64 co], .int .i64 p, .int .i64 q] w fun e w' => e = .returned (.bool true) ∧ Below w.heap.size w w' := by
 have R0 := Aside0.mk (Rn3.made w (iC op d n m a im u sh am co) p q HT)
 have HIS := Aside0.mk (Is_f op d n m a im u hu sh am co 700 (by decide))
 have HSH := Aside0.mk (shape_f op)
 have HU := Aside0.mk hu
 obtain ⟨b, hb⟩ : ∃ b, isB op d n m a im u sh am co = b := ⟨_, rfl⟩
 have HB := Aside0.mk hb
 rw [hb] at HIS hbad
 have HBAD := Aside0.mk hbad
 clear hb hu HT hbad
 go_enter Tryd.func5, Tryd.ntmps5
 obtain ⟨k0, k1, k2, k3, k4, k5, k6, k7, k8, k9⟩ := cells10 R0.out.b1
 have ka := (blk_cell R0.out.b2 0).trans rfl
 have kb := (blk_cell R0.out.b3 0).trans rfl
 go_wp2_with (fail)
 refine (inst_Shape.calls op (shN op) _ HSH.out R0.out.tab).mono ?_
 rintro e w1 ⟨rfl, hb_⟩
 have R1 := Aside0.mk (R0.out.below hb_.below)
 clear hb_ R0 k0 k1 k2 k3 k4 k5 k6 k7 k8 k9 ka kb
 obtain ⟨k0, k1, k2, k3, k4, k5, k6, k7, k8, k9⟩ := cells10 R1.out.b1
 have ka := (blk_cell R1.out.b2 0).trans rfl
 have kb := (blk_cell R1.out.b3 0).trans rfl
 go_wp2_with (fail)
 refine (inst_Is.calls 700 op d n m a im u sh am co b _ HIS.out R1.out.tab).mono ?_
 rintro e w2 ⟨rfl, hb_⟩
 have R2 := Aside0.mk (R1.out.below hb_)
 clear hb_ R1 k0 k1 k2 k3 k4 k5 k6 k7 k8 k9 ka kb
 have hbad := HBAD.out
 clear HBAD
 have hs : b = false ∨ (b = true ∧ p < 0) ∨ (b = true ∧ ¬ p < 0 ∧ 30 < p) ∨ (b = true ∧ ¬ p < 0 ∧ ¬ 30 < p ∧ q < 0) ∨ (b = true ∧ ¬ p < 0 ∧ ¬ 30 < p ∧ ¬ q < 0 ∧ 30 < q) ∨ (b = true ∧ ¬ p < 0 ∧ ¬ 30 < p ∧ ¬ q < 0 ∧ ¬ 30 < q ∧ op = 37) ∨ (b = true ∧ ¬ p < 0 ∧ ¬ 30 < p ∧ ¬ q < 0 ∧ ¬ 30 < q ∧ op ≠ 37 ∧ op = 30) ∨ (b = true ∧ ¬ p < 0 ∧ ¬ 30 < p ∧ ¬ q < 0 ∧ ¬ 30 < q ∧ op ≠ 37 ∧ op ≠ 30 ∧ op = 35) := by
  cases b
  ·exact Or.inl rfl
  ·simp only [Bool.true_eq_false, false_or, true_and, ne_eq] at hbad ⊢
   omega
 obtain ⟨k0, k1, k2, k3, k4, k5, k6, k7, k8, k9⟩ := cells10 R2.out.b1
 have ka := (blk_cell R2.out.b2 0).trans rfl
 have kb := (blk_cell R2.out.b3 0).trans rfl
 have HBY := Aside0.mk (True.intro)
 clear hbad HB HIS HSH HU
 have hs : (b = false) ∨ (b = true ∧ decide (p < 0) = true) ∨ (b = true ∧ decide (p < 0) = false ∧ decide (30 < p) = true) ∨ (b = true ∧ decide (p < 0) = false ∧ decide (30 < p) = false ∧ decide (q < 0) = true) ∨ (b = true ∧ decide (p < 0) = false ∧ decide (30 < p) = false ∧ decide (q < 0) = false ∧ decide (30 < q) = true) ∨ (b = true ∧ decide (p < 0) = false ∧ decide (30 < p) = false ∧ decide (q < 0) = false ∧ decide (30 < q) = false ∧ (op == 37) = true) ∨ (b = true ∧ decide (p < 0) = false ∧ decide (30 < p) = false ∧ decide (q < 0) = false ∧ decide (30 < q) = false ∧ (op == 37) = false ∧ (op == 30) = true) ∨ (b = true ∧ decide (p < 0) = false ∧ decide (30 < p) = false ∧ decide (q < 0) = false ∧ decide (30 < q) = false ∧ (op == 37) = false ∧ (op == 30) = false ∧ (op == 35) = true) := by
  simpa only [decide_eq_true_iff, decide_eq_false_iff_not, beq_iff_eq, beq_eq_false_iff_ne, ne_eq] using hs
 rcases hs with rfl | ⟨rfl, c1⟩ | ⟨rfl, c1, c2⟩ | ⟨rfl, c1, c2, c3⟩ | ⟨rfl, c1, c2, c3, c4⟩ | ⟨rfl, c1, c2, c3, c4, c5⟩ | ⟨rfl, c1, c2, c3, c4, c5, c6⟩ | ⟨rfl, c1, c2, c3, c4, c5, c6, c7⟩
 all_goals
  go_wp2_with (fail)
  refine (cleatlaw04_shaped.calls true _ rfl R2.out.tab).mono ?_
  rintro e w3 ⟨rfl, hb_⟩
  have R3 := Aside0.mk (R2.out.below hb_)
  clear hb_ R2 k0 k1 k2 k3 k4 k5 k6 k7 k8 k9 ka kb
  go_wp2
  go_ret
  exact ⟨rfl, R3.out.bel⟩
set_option maxHeartbeats 4000000 in
set_option maxRecDepth 100000 in
theorem ren_good (op d n m a im : Int) (u : Nat) (sh am co p q : Int) (w : World) (hu : u < 18446744073709551616) (hbad : ¬ (isB op d n m a im u sh am co = false ∨ p < 0 ∨ 30 < p ∨ q < 0 ∨ 30 < q ∨ op = 37 ∨ op = 30 ∨ op = 35)) (HT : Aside0 (Tabs w)) :
  Calls Tryd.prog 5 #[.agg #[.int .i64 op, .int .i64 d, .int .i64 n, .int .i64 m, .int .i64 a, .int .i64 im, .int .u64 u, .int .i64 sh, .int .i64 am, .int .i64 co], .int .i64 p, .int .i64 q] w fun e w' => e = .returned (.bool true) ∧ Below w.heap.size w w' := by
 have R0 := Aside0.mk (Rn3.made w (iC op d n m a im u sh am co) p q HT)
 have HIS := Aside0.mk (Is_f op d n m a im u hu sh am co 700 (by decide))
 have HSH := Aside0.mk (shape_f op)
 have HU := Aside0.mk hu
 obtain ⟨b, hb⟩ : ∃ b, isB op d n m a im u sh am co = b := ⟨_, rfl⟩
 have HB := Aside0.mk hb
 rw [hb] at HIS hbad
 have HBAD := Aside0.mk hbad
 clear hb hu HT hbad
 go_enter Tryd.func5, Tryd.ntmps5
 obtain ⟨k0, k1, k2, k3, k4, k5, k6, k7, k8, k9⟩ := cells10 R0.out.b1
 have ka := (blk_cell R0.out.b2 0).trans rfl
 have kb := (blk_cell R0.out.b3 0).trans rfl
 go_wp2_with (fail)
 refine (inst_Shape.calls op (shN op) _ HSH.out R0.out.tab).mono ?_
 rintro e w1 ⟨rfl, hb_⟩
 have R1 := Aside0.mk (R0.out.below hb_.below)
 clear hb_ R0 k0 k1 k2 k3 k4 k5 k6 k7 k8 k9 ka kb
 obtain ⟨k0, k1, k2, k3, k4, k5, k6, k7, k8, k9⟩ := cells10 R1.out.b1
 have ka := (blk_cell R1.out.b2 0).trans rfl
 have kb := (blk_cell R1.out.b3 0).trans rfl
 go_wp2_with (fail)
 refine (inst_Is.calls 700 op d n m a im u sh am co b _ HIS.out R1.out.tab).mono ?_
 rintro e w2 ⟨rfl, hb_⟩
 have R2 := Aside0.mk (R1.out.below hb_)
 clear hb_ R1 k0 k1 k2 k3 k4 k5 k6 k7 k8 k9 ka kb
 have hbad := HBAD.out
 clear HBAD
 have e0 : b = true := by
  cases b
  ·exact absurd (Or.inl rfl) hbad
  ·rfl
 subst e0
 have hp : Low p := ⟨by omega, by omega⟩
 have hq : Low q := ⟨by omega, by omega⟩
 have h37 : ¬ op = 37 := by omega
 have h30 : ¬ op = 30 := by omega
 have h35 : ¬ op = 35 := by omega
 have HL := Aside0.mk (And.intro hp (And.intro hq (And.intro h37 (And.intro h30 h35))))
 have c1 : decide (p < 0) = false := decide_eq_false (by omega)
 have c2 : decide (30 < p) = false := decide_eq_false (by omega)
 have c3 : decide (q < 0) = false := decide_eq_false (by omega)
 have c4 : decide (30 < q) = false := decide_eq_false (by omega)
 have c5 : (op == 37) = false := beq_eq_false_iff_ne.2 h37
 have c6 : (op == 30) = false := beq_eq_false_iff_ne.2 h30
 have c7 : (op == 35) = false := beq_eq_false_iff_ne.2 h35
 clear hp hq h37 h30 h35 hbad
 obtain ⟨k0, k1, k2, k3, k4, k5, k6, k7, k8, k9⟩ := cells10 R2.out.b1
 have ka := (blk_cell R2.out.b2 0).trans rfl
 have kb := (blk_cell R2.out.b3 0).trans rfl
 have HR := Aside0.mk (R2.out.below (below_alloc (Below.refl _ _) (.cells (iC op d n m a im u sh am co) 24)))
 have HJ := Aside0.mk (blk_new w2 (.cells (iC op d n m a im u sh am co) 24))
 have HG : Aside0 (w.heap.size + 3 ≤ w2.heap.size) := ⟨by have := blk_lt R2.out.b3; omega⟩
 have HR := Aside0.mk (R2.out.below (below_alloc (Below.refl _ _) (.cells (iC op d n m a im u sh am co) 24)))
 have HJ := Aside0.mk (blk_new w2 (.cells (iC op d n m a im u sh am co) 24))
 have HG : Aside0 (w.heap.size + 3 ≤ w2.heap.size) := ⟨by have := blk_lt R2.out.b3; omega⟩
 go_upto_region 6 with (fail)
 clear k0 k1 k2 k3 k4 k5 k6 k7 k8 k9 ka kb c1 c2 c3 c4 c5 c6 c7 R2
 go_cut [62] from 57 to 62 (fun v_ wc => v_ = .bool (hD (shN op)) ∧ Aside0 (Rn3 w wc (iC op d n m a im u sh am co) p q) ∧ Aside0 (wc.heap[w2.heap.size]? = some (.cells (iC op d n m a im u sh am co) 24 (0, 0))))
 case first =>
  rcases caseD op (isB_regs HB.out).1 with ⟨x1, hh⟩ | ⟨x1, x2, hh⟩ | ⟨x1, x2, hh⟩
  all_goals
   have HH := Aside0.mk hh
   clear hh
   go_wp2
   go_meet
   exact ⟨by rw [HH.out], HR, HJ⟩
 clear HR HJ
 obtain ⟨rfl, HR, HJ⟩ := hcut
 go_upto_if 62 with (fail)
 go_cut [] from 62 to 67 (fun wd => Aside0 (Rn3 w wd (iC op d n m a im u sh am co) p q) ∧ Aside0 (wd.heap[w2.heap.size]? = some (.cells (iC op (sw p q (hD (shN op)) d) n m a im u sh am co) 24 (0, 0))))
 case first =>
  cases hh : hD (shN op)
  ·go_wp2
   go_meet
   exact ⟨HR, by rw [hh]; exact HJ⟩
  ·obtain ⟨k0, k1, k2, k3, k4, k5, k6, k7, k8, k9⟩ := cells10 HR.out.b1
   have ka := (blk_cell HR.out.b2 0).trans rfl
   have kb := (blk_cell HR.out.b3 0).trans rfl
   go_wp2_with (fail)
   refine (swap_calls d p q _ _ _ ka kb).mono ?_
   rintro e we ⟨rfl, hd⟩
   have hb_ := hd.below
   have HR2 := Aside0.mk (HR.out.below hb_)
   have HJ2 := Aside0.mk (blk_grown HJ.out (grown_of_below hb_ none) (by simp))
   clear hb_ hd HR HJ k0 k1 k2 k3 k4 k5 k6 k7 k8 k9 ka kb
   obtain ⟨j0, j1, j2, j3, j4, j5, j6, j7, j8, j9⟩ := cells10 HJ2.out
   have jf := blk_frozen HJ2.out 1
   go_wp2
   go_meet
   exact ⟨⟨HR2.out.set HJ2.out HG.out _ _⟩, ⟨blk_put HJ2.out 1 _ (by rw [hh]; rfl)⟩⟩
 clear HR HJ
 obtain ⟨HR, HJ⟩ := hcut
 go_upto_region 8 with (fail)
 go_cut [81] from 68 to 81 (fun v_ wc => v_ = .bool (hN (shN op)) ∧ Aside0 (Rn3 w wc (iC op d n m a im u sh am co) p q) ∧ Aside0 (wc.heap[w2.heap.size]? = some (.cells (iC op (sw p q (hD (shN op)) d) n m a im u sh am co) 24 (0, 0))))
 case first =>
  rcases caseN op (isB_regs HB.out).1 with ⟨x1, x2, hh⟩ | ⟨x1, x2, x3, hh⟩ | ⟨x1, x2, x3, x4, hh⟩ | ⟨x1, x2, x3, x4, hh⟩ | ⟨x1, x2, x3, hh⟩
  all_goals
   have HH := Aside0.mk hh
   clear hh
   go_wp2
   go_meet
   exact ⟨by rw [HH.out], HR, HJ⟩
 clear HR HJ
 obtain ⟨rfl, HR, HJ⟩ := hcut
 go_upto_if 81 with (fail)
 go_cut [] from 81 to 86 (fun wd => Aside0 (Rn3 w wd (iC op d n m a im u sh am co) p q) ∧ Aside0 (wd.heap[w2.heap.size]? = some (.cells (iC op (sw p q (hD (shN op)) d) (sw p q (hN (shN op)) n) m a im u sh am co) 24 (0, 0))))
 case first =>
  cases hh : hN (shN op)
  ·go_wp2
   go_meet
   exact ⟨HR, by rw [hh]; exact HJ⟩
  ·obtain ⟨k0, k1, k2, k3, k4, k5, k6, k7, k8, k9⟩ := cells10 HR.out.b1
   have ka := (blk_cell HR.out.b2 0).trans rfl
   have kb := (blk_cell HR.out.b3 0).trans rfl
   go_wp2_with (fail)
   refine (swap_calls n p q _ _ _ ka kb).mono ?_
   rintro e we ⟨rfl, hd⟩
   have hb_ := hd.below
   have HR2 := Aside0.mk (HR.out.below hb_)
   have HJ2 := Aside0.mk (blk_grown HJ.out (grown_of_below hb_ none) (by simp))
   clear hb_ hd HR HJ k0 k1 k2 k3 k4 k5 k6 k7 k8 k9 ka kb
   obtain ⟨j0, j1, j2, j3, j4, j5, j6, j7, j8, j9⟩ := cells10 HJ2.out
   have jf := blk_frozen HJ2.out 2
   go_wp2
   go_meet
   exact ⟨⟨HR2.out.set HJ2.out HG.out _ _⟩, ⟨blk_put HJ2.out 2 _ (by rw [hh]; rfl)⟩⟩
 clear HR HJ
 obtain ⟨HR, HJ⟩ := hcut
 go_upto_region 10 with (fail)
 go_cut [96] from 87 to 96 (fun v_ wc => v_ = .bool (hM (shN op)) ∧ Aside0 (Rn3 w wc (iC op d n m a im u sh am co) p q) ∧ Aside0 (wc.heap[w2.heap.size]? = some (.cells (iC op (sw p q (hD (shN op)) d) (sw p q (hN (shN op)) n) m a im u sh am co) 24 (0, 0))))
 case first =>
  rcases caseM op (isB_regs HB.out).1 with ⟨x1, x2, hh⟩ | ⟨x1, x2, x3, hh⟩ | ⟨x1, x2, x3, hh⟩ | ⟨x1, x2, hh⟩
  all_goals
   have HH := Aside0.mk hh
   clear hh
   go_wp2
   go_meet
   exact ⟨by rw [HH.out], HR, HJ⟩
 clear HR HJ
 obtain ⟨rfl, HR, HJ⟩ := hcut
 go_upto_if 96 with (fail)
 go_cut [] from 96 to 101 (fun wd => Aside0 (Rn3 w wd (iC op d n m a im u sh am co) p q) ∧ Aside0 (wd.heap[w2.heap.size]? = some (.cells (iC op (sw p q (hD (shN op)) d) (sw p q (hN (shN op)) n) (sw p q (hM (shN op)) m) a im u sh am co) 24 (0, 0))))
 case first =>
  cases hh : hM (shN op)
  ·go_wp2
   go_meet
   exact ⟨HR, by rw [hh]; exact HJ⟩
  ·obtain ⟨k0, k1, k2, k3, k4, k5, k6, k7, k8, k9⟩ := cells10 HR.out.b1
   have ka := (blk_cell HR.out.b2 0).trans rfl
   have kb := (blk_cell HR.out.b3 0).trans rfl
   go_wp2_with (fail)
   refine (swap_calls m p q _ _ _ ka kb).mono ?_
   rintro e we ⟨rfl, hd⟩
   have hb_ := hd.below
   have HR2 := Aside0.mk (HR.out.below hb_)
   have HJ2 := Aside0.mk (blk_grown HJ.out (grown_of_below hb_ none) (by simp))
   clear hb_ hd HR HJ k0 k1 k2 k3 k4 k5 k6 k7 k8 k9 ka kb
   obtain ⟨j0, j1, j2, j3, j4, j5, j6, j7, j8, j9⟩ := cells10 HJ2.out
   have jf := blk_frozen HJ2.out 3
   go_wp2
   go_meet
   exact ⟨⟨HR2.out.set HJ2.out HG.out _ _⟩, ⟨blk_put HJ2.out 3 _ (by rw [hh]; rfl)⟩⟩
 clear HR HJ
 obtain ⟨HR, HJ⟩ := hcut
 go_upto_region 12 with (fail)
 go_cut [103] from 102 to 103 (fun v_ wc => v_ = .bool (hA (shN op)) ∧ Aside0 (Rn3 w wc (iC op d n m a im u sh am co) p q) ∧ Aside0 (wc.heap[w2.heap.size]? = some (.cells (iC op (sw p q (hD (shN op)) d) (sw p q (hN (shN op)) n) (sw p q (hM (shN op)) m) a im u sh am co) 24 (0, 0))))
 case first =>
  rcases caseA op (isB_regs HB.out).1 with ⟨x1, hh⟩ | ⟨x1, hh⟩
  all_goals
   have HH := Aside0.mk hh
   clear hh
   go_wp2
   go_meet
   exact ⟨by rw [HH.out], HR, HJ⟩
 clear HR HJ
 obtain ⟨rfl, HR, HJ⟩ := hcut
 go_upto_if 103 with (fail)
 go_cut [] from 103 to 108 (fun wd => Aside0 (Rn3 w wd (iC op d n m a im u sh am co) p q) ∧ Aside0 (wd.heap[w2.heap.size]? = some (.cells (iC op (sw p q (hD (shN op)) d) (sw p q (hN (shN op)) n) (sw p q (hM (shN op)) m) (sw p q (hA (shN op)) a) im u sh am co) 24 (0, 0))))
 case first =>
  cases hh : hA (shN op)
  ·go_wp2
   go_meet
   exact ⟨HR, by rw [hh]; exact HJ⟩
  ·obtain ⟨k0, k1, k2, k3, k4, k5, k6, k7, k8, k9⟩ := cells10 HR.out.b1
   have ka := (blk_cell HR.out.b2 0).trans rfl
   have kb := (blk_cell HR.out.b3 0).trans rfl
   go_wp2_with (fail)
   refine (swap_calls a p q _ _ _ ka kb).mono ?_
   rintro e we ⟨rfl, hd⟩
   have hb_ := hd.below
   have HR2 := Aside0.mk (HR.out.below hb_)
   have HJ2 := Aside0.mk (blk_grown HJ.out (grown_of_below hb_ none) (by simp))
   clear hb_ hd HR HJ k0 k1 k2 k3 k4 k5 k6 k7 k8 k9 ka kb
   obtain ⟨j0, j1, j2, j3, j4, j5, j6, j7, j8, j9⟩ := cells10 HJ2.out
   have jf := blk_frozen HJ2.out 4
   go_wp2
   go_meet
   exact ⟨⟨HR2.out.set HJ2.out HG.out _ _⟩, ⟨blk_put HJ2.out 4 _ (by rw [hh]; rfl)⟩⟩
 clear HR HJ
 obtain ⟨HR, HJ⟩ := hcut
 obtain ⟨hp, hq, h37, h30, h35⟩ := HL.out
 have hu := HU.out
 have HRi := Aside0.mk (Reads_f op d n m a im u hu sh am co 700 (by decide))
 have HRj := Aside0.mk (Reads_f op (sw p q (hD (shN op)) d) (sw p q (hN (shN op)) n) (sw p q (hM (shN op)) m) (sw p q (hA (shN op)) a) im u hu sh am co 700 (by decide))
 have HWi := Aside0.mk (Writes_f op d n m a im u hu sh am co 700 (by decide))
 have HWj := Aside0.mk (Writes_f op (sw p q (hD (shN op)) d) (sw p q (hN (shN op)) n) (sw p q (hM (shN op)) m) (sw p q (hA (shN op)) a) im u hu sh am co 700 (by decide))
 have HIj := Aside0.mk (Is_f op (sw p q (hD (shN op)) d) (sw p q (hN (shN op)) n) (sw p q (hM (shN op)) m) (sw p q (hA (shN op)) a) im u hu sh am co 700 (by decide))
 rw [isB_sw hp hq, HB.out] at HRj HWj HIj
 rw [HB.out] at HRi HWi
 rw [if_pos rfl] at HRi HRj HWi HWj
 have hl := readL_len op d n m a
 have HLEN := ren_len (d := d) (n := n) (m := m) (a := a) hp hq h37
 have HMEM := Aside0.mk (fun x hx => @ren_mem op d n m a p q hp hq h37 x hx)
 have HW2 := Aside0.mk (@ren_write op d p q hp hq h30 h35)
 clear hp hq h37 h30 h35 hu HU HL HIS HSH HB HG
 generalize sw p q (hD (shN op)) d = d' at *
 generalize sw p q (hN (shN op)) n = n' at *
 generalize sw p q (hM (shN op)) m = m' at *
 generalize sw p q (hA (shN op)) a = a' at *
 generalize readL op d n m a = l at *
 generalize readL op d' n' m' a' = lm at *
 generalize writeR op d = wi at *
 generalize writeR op d' = wj at *
 obtain ⟨r1, r2⟩ := wi
 obtain ⟨s1, s2⟩ := wj
 have HS2 := Aside0.mk HW2.out.2
 obtain rfl : s2 = r2 := HW2.out.1
 have hlm : lm.length ≤ 8 := by omega
 have hle : ((l.length : Int) == (lm.length : Int)) = true := beq_iff_eq.2 (by omega)
 have HLE := Aside0.mk hle
 have HLM := Aside0.mk hlm
 clear hle hlm HLEN HW2
 obtain ⟨k0, k1, k2, k3, k4, k5, k6, k7, k8, k9⟩ := cells10 HR.out.b1
 go_wp2_with (fail)
 refine (inst_Reads.calls 700 op d n m a im u sh am co l _ HRi.out HR.out.tab).mono ?_
 rintro e w5 ⟨v_, rfl, hR_, hb_⟩
 obtain ⟨A1, c1, rfl⟩ := Kd.R_slice hR_
 obtain ⟨_, hc_, hC_⟩ := Kd.R_reads' hR_
 have C1 := Aside0.mk hC_
 have HCC1 := Aside0.mk hc_
 have HR5 := Aside0.mk (HR.out.below hb_)
 have HJ5 := Aside0.mk (blk_grown HJ.out (grown_of_below hb_ none) (by simp))
 clear hb_ hR_ hC_ hc_ HR HJ HRi
 clear k0 k1 k2 k3 k4 k5 k6 k7 k8 k9
 obtain ⟨j0, j1, j2, j3, j4, j5, j6, j7, j8, j9⟩ := cells10 HJ5.out
 go_wp2_with (fail)
 refine (inst_Reads.calls 700 op d' n' m' a' im u sh am co lm _ HRj.out HR5.out.tab).mono ?_
 rintro e w6 ⟨v_, rfl, hR_, hb_⟩
 obtain ⟨A2, c2, rfl⟩ := Kd.R_slice hR_
 obtain ⟨_, hc_, hC_⟩ := Kd.R_reads' hR_
 have C2 := Aside0.mk hC_
 have HCC2 := Aside0.mk hc_
 have HR6 := Aside0.mk (HR5.out.below hb_)
 have HJ6 := Aside0.mk (blk_grown HJ5.out (grown_of_below hb_ none) (by simp))
 have C16 := Aside0.mk (Kd.C_below C1.out hb_)
 clear hb_ hR_ hC_ hc_ HR5 HJ5 HRj C1
 clear j0 j1 j2 j3 j4 j5 j6 j7 j8 j9
 go_wp2
 go_loopw [12] (fun v12 wr => ∃ x : Int, v12 = .int .i64 x ∧ 0 ≤ x ∧ x ≤ l.length ∧ Aside0 (Rn3 w wr (iC op d n m a im u sh am co) p q) ∧ Aside0 (wr.heap[w2.heap.size]? = some (.cells (iC op d' n' m' a' im u sh am co) 24 (0, 0))) ∧ Aside0 (Kd.C (Kd.int .i64) wr A1 l.length l) ∧ Aside0 (Kd.C (Kd.int .i64) wr A2 lm.length lm)) (fun i _ => l.length - (intOf i).toNat)
 case atStart => exact ⟨0, rfl, by omega, by omega, HR6, HJ6, C16, C2⟩
 case round =>
  clear HR6 HJ6 C16 C2
  obtain ⟨x, rfl, hx0, hx1, HR, HJ, C1, C2⟩ := hrel
  by_cases hlt : x < l.length
  ·obtain ⟨ad, he, a0⟩ := Kd.at_int C1.out x hx0 hlt
   cases he
   have hxz : wrap64 (x + 1) = x + 1 := w64_in ⟨by omega, by omega⟩
   have HX := Aside0.mk (And.intro hx0 (And.intro hx1 hlt))
   have p1 := eq_true hx0
   have q1 := eq_true hlt
   have HHAS := Aside0.mk ((has_f4 lm (sg p q (rd l x)) HLM.out).trans (by rw [decide_eq_true (HMEM.out _ (rd_mem l x hx0 hlt))]))
   have ka := (blk_cell HR.out.b2 0).trans rfl
   have kb := (blk_cell HR.out.b3 0).trans rfl
   clear hx0 hx1 hlt
   generalize rd l x = e at *
   go_wp2_with (fail)
   refine (swap_calls e p q _ _ _ ka kb).mono ?_
   rintro E wa ⟨rfl, hd⟩
   have hb_ := hd.below
   have HRa := Aside0.mk (HR.out.below hb_)
   have HJa := Aside0.mk (blk_grown HJ.out (grown_of_below hb_ none) (by simp))
   have C1a := Aside0.mk (Kd.C_below C1.out hb_)
   have C2a := Aside0.mk (Kd.C_below C2.out hb_)
   clear hd hb_ HR HJ C1 C2 ka kb a0
   go_wp2_with (fail)
   refine (cleatlaw04_has.calls 10 A2 c2 lm (sg p q e) true _ C2a.out HCC2.out HHAS.out).mono ?_
   rintro E wb ⟨rfl, hd⟩
   have hb_ := hd.below
   have HRb := Aside0.mk (HRa.out.below hb_)
   have HJb := Aside0.mk (blk_grown HJa.out (grown_of_below hb_ none) (by simp))
   have C1b := Aside0.mk (Kd.C_below C1a.out hb_)
   have C2b := Aside0.mk (Kd.C_below C2a.out hb_)
   clear hd hb_ HRa HJa C1a C2a
   go_wp2
   obtain ⟨hx0, hx1, hlt⟩ := HX.out
   go_roundw
   case rel => exact ⟨x + 1, by simp [hxz], by omega, by omega, HRb, HJb, C1b, C2b⟩
   case measure => rw [hxz]; show l.length - (x + 1).toNat < l.length - x.toNat; omega
  ·obtain ⟨k0, k1, k2, k3, k4, k5, k6, k7, k8, k9⟩ := cells10 HR.out.b1
   go_wp2_with (fail)
   refine (inst_Writes.calls 700 op d n m a im u sh am co r1 s2 _ HWi.out HR.out.tab).mono ?_
   rintro e w7 ⟨rfl, hb_⟩
   have HR7 := Aside0.mk (HR.out.below hb_)
   have HJ7 := Aside0.mk (blk_grown HJ.out (grown_of_below hb_ none) (by simp))
   clear hb_ HR HJ C1 C2 HWi
   clear k0 k1 k2 k3 k4 k5 k6 k7 k8 k9
   obtain ⟨j0, j1, j2, j3, j4, j5, j6, j7, j8, j9⟩ := cells10 HJ7.out
   go_wp2_with (fail)
   refine (inst_Writes.calls 700 op d' n' m' a' im u sh am co s1 s2 _ HWj.out HR7.out.tab).mono ?_
   rintro e w8 ⟨rfl, hb_⟩
   have HR8 := Aside0.mk (HR7.out.below hb_)
   have HJ8 := Aside0.mk (blk_grown HJ7.out (grown_of_below hb_ none) (by simp))
   clear hb_ HR7 HJ7 HWj
   clear j0 j1 j2 j3 j4 j5 j6 j7 j8 j9
   go_wp2_with (fail)
   refine (cleatlaw04_shaped.calls true _ rfl HR8.out.tab).mono ?_
   rintro e w9 ⟨rfl, hb_⟩
   have HR9 := Aside0.mk (HR8.out.below hb_)
   have HJ9 := Aside0.mk (blk_grown HJ8.out (grown_of_below hb_ none) (by simp))
   clear hb_ HR8 HJ8
   obtain ⟨j0, j1, j2, j3, j4, j5, j6, j7, j8, j9⟩ := cells10 HJ9.out
   go_wp2_with (fail)
   refine (inst_Is.calls 700 op d' n' m' a' im u sh am co true _ HIj.out HR9.out.tab).mono ?_
   rintro e w10 ⟨rfl, hb_⟩
   have HRx := Aside0.mk (HR9.out.below hb_)
   clear hb_ HR9 HJ9 HIj
   clear j0 j1 j2 j3 j4 j5 j6 j7 j8 j9
   have hle := HLE.out
   have ka := (blk_cell HRx.out.b2 0).trans rfl
   have kb := (blk_cell HRx.out.b3 0).trans rfl
   cases s2
   ·go_wp2
    go_ret
    exact ⟨by simp, HRx.out.bel⟩
   ·have hs1 : s1 = sg p q r1 := HS2.out rfl
    clear HS2
    subst hs1
    go_wp2_with (fail)
    refine (swap_calls r1 p q _ _ _ ka kb).mono ?_
    rintro E wa ⟨rfl, hd⟩
    have HRy := Aside0.mk (HRx.out.below hd.below)
    clear hd HRx ka kb
    go_wp2
    go_ret
    exact ⟨by simp, HRy.out.bel⟩
theorem ren_walk (op d n m a im v sh am co p q : Int) (w : World) (_ : (Lit.int .i64 op).wf = true) (_ : (Lit.int .i64 d).wf = true) (_ : (Lit.int .i64 n).wf = true) (_ : (Lit.int .i64 m).wf = true) (_ : (Lit.int .i64 a).wf = true) (_ : (Lit.int .i64 im).wf = true) (hv : (Lit.int .u64 v).wf = true) (_ : (Lit.int .i64 sh).wf = true) (_ : (Lit.int .i64 am).wf = true) (_ : (Lit.int .i64 co).wf = true) (_ : (Lit.int .i64 p).wf = true) (_ : (Lit.int .i64 q).wf = true) (HT : Aside0 (Tabs w)) :
  Calls Tryd.prog 5 #[.agg #[.int .i64 op, .int .i64 d, .int .i64 n, .int .i64 m, .int .i64 a, .int .i64 im, .int .u64 v, .int .i64 sh, .int .i64 am, .int .i64 co], .int .i64 p, .int .i64 q] w fun e w' => e = .returned (.bool true) ∧ Below w.heap.size w w' := by
 have hvr := wf_u64 hv
 obtain ⟨u, rfl⟩ := Int.eq_ofNat_of_zero_le hvr.1
 have hu : u < 18446744073709551616 := by omega
 by_cases hbad : isB op d n m a im u sh am co = false ∨ p < 0 ∨ 30 < p ∨ q < 0 ∨ 30 < q ∨ op = 37 ∨ op = 30 ∨ op = 35
 ·exact ren_bad op d n m a im u sh am co p q w hu hbad HT
 ·exact ren_good op d n m a im u sh am co p q w hu hbad HT
end Go.Proofs.YtgonbeifaioheaaDoor.P
