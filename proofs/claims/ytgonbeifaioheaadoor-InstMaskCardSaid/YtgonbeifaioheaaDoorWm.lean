/- InstMask, walked by hand over the contracts of its callees. -/
import Derived.Test.YtgonbeifaioheaaDoorIn1
import Derived.Test.YtgonbeifaioheaaDoorPx12
import Derived.Test.YtgonbeifaioheaaDoorPx2
import Derived.Test.YtgonbeifaioheaaDoorPx5
namespace Go.Proofs.YtgonbeifaioheaaDoor.P
open Go.RowKit Go.Proofs.YtgonbeifaioheaaDoor.K Go.Proofs.YtgonbeifaioheaaDoor.In Go.Proofs.YtgonbeifaioheaaDoorW.PrintWords Go.Proofs.YtgonbeifaioheaaDoorW.PrintLast Go.Proofs.YtgonbeifaioheaaDoorW.PrintMore
set_option linter.unusedVariables false
set_option linter.unusedSimpArgs false
theorem is_shape3 (op d n : Int) (v : Nat) (h : shN op = 3) : isB op d n 0 0 0 v 0 0 0 = (decide (0 ≤ d ∧ d ≤ 31) && decide (0 ≤ n ∧ n ≤ 31) && maB v) := by
  unfold isB
  rw [h]
  have e1 : regB 0 (hM 3) = true := by decide
  have e2 : regB 0 (hA 3) = true := by decide
  have e3 : numB 3 0 = true := by decide
  have e4 : (shB 3 0 && amB 3 0) = true := by decide
  have e5 : cnB 3 0 = true := by decide
  have e6 : hD 3 = true := by decide
  have e7 : hN 3 = true := by decide
  rw [e1, e2, e3, e4, e5, e6, e7, decide_eq_true (by decide)]
  simp [regB, mkB]
theorem is_other (op d n : Int) (v : Nat) (h : shN op ≠ 3) (h0 : v ≠ 0) : isB op d n 0 0 0 v 0 0 0 = false := by
  unfold isB mkB
  rw [if_neg h, decide_eq_false h0]
  simp
theorem is_bad (op d n : Int) (v : Nat) (h : shN op = 3) (hr : ¬ (0 ≤ d ∧ d ≤ 31 ∧ 0 ≤ n ∧ n ≤ 31)) : isB op d n 0 0 0 v 0 0 0 = false := by
  rw [is_shape3 op d n v h]
  have : (decide (0 ≤ d ∧ d ≤ 31) && decide (0 ≤ n ∧ n ≤ 31)) = false := by
    rw [Bool.and_eq_false_iff]
    by_cases q : 0 ≤ d ∧ d ≤ 31
    · exact Or.inr (decide_eq_false (fun e => hr ⟨q.1, q.2, e.1, e.2⟩))
    · exact Or.inl (decide_eq_false q)
  rw [this]
  rfl
set_option maxHeartbeats 4000000 in
theorem mask_walk (op d n v : Int) (w : World) (ho : (Lit.int .i64 op).wf = true) (hd : (Lit.int .i64 d).wf = true) (hn : (Lit.int .i64 n).wf = true) (hv : (Lit.int .u64 v).wf = true) (HT : Aside0 (Tabs w)) :
    Calls Tryd.prog 6 #[.int .i64 op, .int .i64 d, .int .i64 n, .int .u64 v] w fun e w' => e = .returned (.bool true) ∧ Below w.heap.size w w' := by
  have hvr := wf_u64 hv
  obtain ⟨u, rfl⟩ := Int.eq_ofNat_of_zero_le hvr.1
  have hu : u < 18446744073709551616 := by omega
  have hIs := Is_f op d n 0 0 0 u hu 0 0 0 700 (by decide)
  have hM := mis_f hu 700 (by decide)
  have HGood : Aside0 (shN op = 3 → 0 ≤ d → d ≤ 31 → 0 ≤ n → n ≤ 31 → isB op d n 0 0 0 u 0 0 0 = maB u) := ⟨fun h h1 h2 h3 h4 => by
    rw [is_shape3 op d n u h, decide_eq_true ⟨h1, h2⟩, decide_eq_true ⟨h3, h4⟩]; rfl⟩
  have HBad : Aside0 (¬ (shN op = 3 ∧ 0 ≤ d ∧ d ≤ 31 ∧ 0 ≤ n ∧ n ≤ 31) → ¬ (u : Int) = 0 → isB op d n 0 0 0 u 0 0 0 = false) := ⟨fun h h0 => by
    by_cases g : shN op = 3
    · exact is_bad op d n u g (fun e => h ⟨g, e⟩)
    · exact is_other op d n u g (by omega)⟩
  generalize isB op d n 0 0 0 u 0 0 0 = b at *
  generalize maB u = mb at *
  have HIS := Aside0.mk hIs
  have HM := Aside0.mk hM
  have W0 := Aside0.mk (below_alloc (Below.refl w.heap.size w) (.cells #[.int .i64 op, .int .i64 d, .int .i64 n, .int .i64 0, .int .i64 0, .int .i64 0, .int .u64 u, .int .i64 0, .int .i64 0, .int .i64 0] 24))
  have T0 := tabs_of HT W0.out
  have K0 := blk_new w (.cells #[.int .i64 op, .int .i64 d, .int .i64 n, .int .i64 0, .int .i64 0, .int .i64 0, .int .u64 u, .int .i64 0, .int .i64 0, .int .i64 0] 24)
  have HSH := Aside0.mk (shape_f op)
  generalize shN op = sh at *
  clear hIs hM ho hd hn hv hvr hu HT
  obtain ⟨k0, k1, k2, k3, k4, k5, k6, k7, k8, k9⟩ := cells10 K0
  go_enter Tryd.func6, Tryd.ntmps6
  go_wp2_with (fail)
  refine (inst_Shape.calls op sh (w.alloc (.cells #[.int .i64 op, .int .i64 d, .int .i64 n, .int .i64 0, .int .i64 0, .int .i64 0, .int .u64 u, .int .i64 0, .int .i64 0, .int .i64 0] 24)) HSH.out T0).mono ?_
  rintro e w1 ⟨rfl, hb_⟩
  have W1 := Aside0.mk (W0.out.trans (hb_.below.mono (by simp)))
  have T1 := tabs_of T0 hb_.below
  have K1 := Aside0.mk (blk_grown K0 (grown_of_below hb_.below none) (by simp))
  clear hb_ W0 T0 K0 k0 k1 k2 k3 k4 k5 k6 k7 k8 k9
  by_cases hg : sh = 3 ∧ 0 ≤ d ∧ d ≤ 31 ∧ 0 ≤ n ∧ n ≤ 31
  · obtain ⟨c1, c2, c3, c4, c5⟩ := hg
    obtain rfl := HGood.out c1 c2 c3 c4 c5
    have d2 : ¬ d < 0 := by omega
    have d3 : ¬ 31 < d := by omega
    have d4 : ¬ n < 0 := by omega
    have d5 : ¬ 31 < n := by omega
    clear c2 c3 c4 c5 HGood HBad
    go_wp2_with (fail)
    refine (cleatlaw04_shaped.calls true w1 rfl T1).mono ?_
    rintro e w2 ⟨rfl, hb_⟩
    have W2 := Aside0.mk (W1.out.trans (hb_.mono W1.out.size))
    have T2 := tabs_of T1 hb_
    have K2 := Aside0.mk (blk_grown K1.out (grown_of_below hb_ none) (by simp))
    clear hb_ W1 T1 K1
    obtain ⟨k0, k1, k2, k3, k4, k5, k6, k7, k8, k9⟩ := cells10 K2.out
    go_wp2_with (fail)
    refine (inst_Is.calls 700 op d n 0 0 0 u 0 0 0 b w2 HIS.out T2).mono ?_
    rintro e w3 ⟨rfl, hb_⟩
    have W3 := Aside0.mk (W2.out.trans (hb_.mono W2.out.size))
    clear hb_ W2 T2 K2 k0 k1 k2 k3 k4 k5 k6 k7 k8 k9
    go_wp2_with (fail)
    refine (mask_Is.calls 700 u b w3 HM.out).mono ?_
    rintro e w4 ⟨rfl, hb_⟩
    have W4 := Aside0.mk (W3.out.trans (hb_.mono W3.out.size))
    clear hb_ W3
    go_wp2
    go_ret
    exact ⟨by simp, W4.out⟩
  · have HB := Aside0.mk (HBad.out hg)
    clear HGood HBad
    have hs : (sh ≠ 3) ∨ (sh = 3 ∧ d < 0) ∨ (sh = 3 ∧ ¬ d < 0 ∧ 31 < d) ∨ (sh = 3 ∧ ¬ d < 0 ∧ ¬ 31 < d ∧ n < 0) ∨ (sh = 3 ∧ ¬ d < 0 ∧ ¬ 31 < d ∧ ¬ n < 0 ∧ 31 < n) := by omega
    clear hg
    rcases hs with c1 | ⟨c1, c2⟩ | ⟨c1, c2, c3⟩ | ⟨c1, c2, c3, c4⟩ | ⟨c1, c2, c3, c4, c5⟩
    all_goals
      go_wp2_with (fail)
      refine (cleatlaw04_shaped.calls true w1 rfl T1).mono ?_
      rintro e w2 ⟨rfl, hb_⟩
      have W2 := Aside0.mk (W1.out.trans (hb_.mono W1.out.size))
      have T2 := tabs_of T1 hb_
      have K2 := Aside0.mk (blk_grown K1.out (grown_of_below hb_ none) (by simp))
      clear hb_ W1 T1 K1
      by_cases hu0 : (u : Int) = 0
      · go_wp2
        go_ret
        exact ⟨by simp, W2.out⟩
      · obtain rfl := HB.out hu0
        obtain ⟨k0, k1, k2, k3, k4, k5, k6, k7, k8, k9⟩ := cells10 K2.out
        go_wp2_with (fail)
        refine (inst_Is.calls 700 op d n 0 0 0 u 0 0 0 false w2 HIS.out T2).mono ?_
        rintro e w3 ⟨rfl, hb_⟩
        have W3 := Aside0.mk (W2.out.trans (hb_.mono W2.out.size))
        clear hb_ W2 T2 K2 k0 k1 k2 k3 k4 k5 k6 k7 k8 k9
        go_wp2
        go_ret
        exact ⟨by simp, W3.out⟩
end Go.Proofs.YtgonbeifaioheaaDoor.P
