/- InstOwn, walked by hand over the contracts of its callees. -/
import Derived.Test.YtgonbeifaioheaaDoorIn5
import Derived.Test.YtgonbeifaioheaaDoorPx11
import Derived.Test.YtgonbeifaioheaaDoorPx13
import Derived.Test.YtgonbeifaioheaaDoorPx4
import Derived.Test.YtgonbeifaioheaaDoorPx5
namespace Go.Proofs.YtgonbeifaioheaaDoor.P
open Go.RowKit Go.Proofs.YtgonbeifaioheaaDoor.K Go.Proofs.YtgonbeifaioheaaDoor.In Go.Proofs.YtgonbeifaioheaaDoorW.PrintWords Go.Proofs.YtgonbeifaioheaaDoorW.PrintLast Go.Proofs.YtgonbeifaioheaaDoorW.PrintMore
set_option linter.unusedVariables false
set_option linter.unusedSimpArgs false
theorem readL_len (op d n m a : Int) : (readL op d n m a).length ≤ 5 := by
 unfold readL
 refine Nat.le_trans (addIf_len _ _ _) (Nat.succ_le_succ ?_)
 refine Nat.le_trans (addIf_len _ _ _) (Nat.succ_le_succ ?_)
 refine Nat.le_trans (addIf_len _ _ _) (Nat.succ_le_succ ?_)
 refine Nat.le_trans (addIf_len _ _ _) (Nat.succ_le_succ ?_)
 exact addIf_len _ _ _
theorem writeR_four (op d : Int) : (op = 30 ∧ (writeR op d).1 = 30 ∧ (writeR op d).2 = true) ∨ (¬ op = 30 ∧ op = 35 ∧ (writeR op d).1 = 30 ∧ (writeR op d).2 = true) ∨ (¬ op = 30 ∧ ¬ op = 35 ∧ (writeR op d).1 = d ∧ (writeR op d).2 = true) ∨ (¬ op = 30 ∧ ¬ op = 35 ∧ (writeR op d).1 = 0 ∧ (writeR op d).2 = false) := by
 unfold writeR
 by_cases h : op = 30
 ·rw [if_pos (Or.inl h)]; exact Or.inl ⟨h, rfl, rfl⟩
 ·by_cases h' : op = 35
  ·rw [if_pos (Or.inr h')]; exact Or.inr (Or.inl ⟨h, h', rfl, rfl⟩)
  ·rw [if_neg (fun e => e.elim h h')]
   split
   ·split
    ·exact Or.inr (Or.inr (Or.inr ⟨h, h', rfl, rfl⟩))
    ·exact Or.inr (Or.inr (Or.inl ⟨h, h', rfl, rfl⟩))
   ·exact Or.inr (Or.inr (Or.inr ⟨h, h', rfl, rfl⟩))
set_option maxHeartbeats 4000000 in
set_option maxRecDepth 100000 in
theorem own_walk (op d n m a im v sh am co : Int) (w : World) (_ : (Lit.int .i64 op).wf = true) (_ : (Lit.int .i64 d).wf = true) (_ : (Lit.int .i64 n).wf = true) (_ : (Lit.int .i64 m).wf = true) (_ : (Lit.int .i64 a).wf = true) (_ : (Lit.int .i64 im).wf = true) (hv : (Lit.int .u64 v).wf = true) (_ : (Lit.int .i64 sh).wf = true) (_ : (Lit.int .i64 am).wf = true) (_ : (Lit.int .i64 co).wf = true) (HT : Aside0 (Tabs w)) :
  Calls Tryd.prog 4 #[.agg #[.int .i64 op, .int .i64 d, .int .i64 n, .int .i64 m, .int .i64 a, .int .i64 im, .int .u64 v, .int .i64 sh, .int .i64 am, .int .i64 co]] w fun e w' => e = .returned (.bool true) ∧ Below w.heap.size w w' := by
 have hvr := wf_u64 hv
 obtain ⟨u, rfl⟩ := Int.eq_ofNat_of_zero_le hvr.1
 have hu : u < 18446744073709551616 := by omega

 have hW := Writes_f op d n m a im u hu sh am co 700 (by decide)
 have hI := Is_f op d n m a im u hu sh am co 700 (by decide)
 have hR := Reads_f op d n m a im u hu sh am co 700 (by decide)
 have hF := writeR_four op d
 obtain ⟨b, hb⟩ : ∃ b, isB op d n m a im u sh am co = b := ⟨_, rfl⟩
 obtain ⟨l, hL⟩ : ∃ l, (if isB op d n m a im u sh am co = true then readL op d n m a else []) = l := ⟨_, rfl⟩
 obtain ⟨⟨rd_, rx_⟩, hr⟩ : ∃ r, (if isB op d n m a im u sh am co = true then writeR op d else (0, false)) = r := ⟨_, rfl⟩
 have HW := Aside0.mk hW
 have HI := Aside0.mk hI
 have HR := Aside0.mk hR
 rw [hr] at HW
 rw [hb] at HI
 rw [hL] at HR
 have HNo : Aside0 (b = false → (l.length : Int) = 0 ∧ rd_ = 0 ∧ rx_ = false) := ⟨fun e => by
  subst e
  rw [hb, if_neg (by decide)] at hr hL
  cases hr
  subst hL
  exact ⟨rfl, rfl, rfl⟩⟩
 have HF : Aside0 (b = true → (op = 30 ∧ rd_ = 30 ∧ rx_ = true) ∨ (¬ op = 30 ∧ op = 35 ∧ rd_ = 30 ∧ rx_ = true) ∨ (¬ op = 30 ∧ ¬ op = 35 ∧ rd_ = d ∧ rx_ = true) ∨ (¬ op = 30 ∧ ¬ op = 35 ∧ rd_ = 0 ∧ rx_ = false)) := ⟨fun e => by
  subst e
  rw [hb, if_pos rfl] at hr
  rw [hr] at hF
  exact hF⟩
 have HO : Aside0 (b = true → ∀ x : Int, 0 ≤ x → x < l.length → 0 ≤ rd l x ∧ rd l x ≤ 31 ∧ (rd l x ∈ [d, n, m, a] ∨ (op = 37 ∧ rd l x = 0)) ∧ (0 < x → rd l (x - 1) < rd l x)) := ⟨fun e x h0 h1 => by
  subst e
  rw [hb, if_pos rfl] at hL
  subst hL
  obtain ⟨g1, g2, g3⟩ := readL_own hb (rd_mem _ x h0 h1)
  exact ⟨g1, g2, g3, fun hx => rd_rise (readL_sorted op d n m a) x hx h1⟩⟩
 have hl : l.length ≤ 5 := by
  rw [← hL]
  split
  ·exact readL_len _ _ _ _ _
  ·simp
 clear hW hI hR hF hr hL hb hu
 have W0 := Aside0.mk (below_alloc (Below.refl w.heap.size w) (.cells #[.int .i64 op, .int .i64 d, .int .i64 n, .int .i64 m, .int .i64 a, .int .i64 im, .int .u64 u, .int .i64 sh, .int .i64 am, .int .i64 co] 24))
 have T0 := tabs_of HT W0.out
 have K0 := Aside0.mk (blk_new w (.cells #[.int .i64 op, .int .i64 d, .int .i64 n, .int .i64 m, .int .i64 a, .int .i64 im, .int .u64 u, .int .i64 sh, .int .i64 am, .int .i64 co] 24))
 clear HT hv hvr
 go_enter Tryd.func4, Tryd.ntmps4
 obtain ⟨k0, k1, k2, k3, k4, k5, k6, k7, k8, k9⟩ := cells10 K0.out
 go_wp2_with (fail)
 refine (inst_Reads.calls 700 op d n m a im u sh am co l _ HR.out T0).mono ?_
 rintro e w1 ⟨v_, rfl, hR_, hb_⟩
 obtain ⟨A1, c1, rfl⟩ := Kd.R_slice hR_
 obtain ⟨_, hc_, hC_⟩ := Kd.R_reads' hR_
 have W1 := Aside0.mk (W0.out.trans (hb_.mono W0.out.size))
 have T1 := tabs_of T0 hb_
 have K1 := Aside0.mk (blk_grown K0.out (grown_of_below hb_ none) (by simp))
 clear hb_ W0 T0 K0 k0 k1 k2 k3 k4 k5 k6 k7 k8 k9
 have C1_1 := Aside0.mk hC_
 have HCC1 := Aside0.mk hc_
 clear hR_ hC_ hc_
 obtain ⟨k0, k1, k2, k3, k4, k5, k6, k7, k8, k9⟩ := cells10 K1.out
 go_wp2_with (fail)
 refine (inst_Writes.calls 700 op d n m a im u sh am co rd_ rx_ _ HW.out T1).mono ?_
 rintro e w2 ⟨rfl, hb_⟩
 have W2 := Aside0.mk (W1.out.trans (hb_.mono W1.out.size))
 have T2 := tabs_of T1 hb_
 have K2 := Aside0.mk (blk_grown K1.out (grown_of_below hb_ none) (by simp))
 have C1_2 := Aside0.mk (Kd.C_below C1_1.out hb_)
 clear C1_1
 clear hb_ W1 T1 K1 k0 k1 k2 k3 k4 k5 k6 k7 k8 k9
 obtain ⟨k0, k1, k2, k3, k4, k5, k6, k7, k8, k9⟩ := cells10 K2.out
 go_wp2_with (fail)
 refine (inst_Is.calls 700 op d n m a im u sh am co b _ HI.out T2).mono ?_
 rintro e w3 ⟨rfl, hb_⟩
 have W3 := Aside0.mk (W2.out.trans (hb_.mono W2.out.size))
 have T3 := tabs_of T2 hb_
 have K3 := Aside0.mk (blk_grown K2.out (grown_of_below hb_ none) (by simp))
 have C1_3 := Aside0.mk (Kd.C_below C1_2.out hb_)
 clear C1_2
 clear hb_ W2 T2 K2 k0 k1 k2 k3 k4 k5 k6 k7 k8 k9
 clear HW HR HI
 cases b
 ·obtain ⟨hz, rfl, rfl⟩ := HNo.out rfl
  clear HNo HF HO
  go_wp2_with (fail)
  refine (cleatlaw04_shaped.calls true w3 rfl T3).mono ?_
  rintro e w4 ⟨rfl, hb_⟩
  have W4 := Aside0.mk (W3.out.trans (hb_.mono W3.out.size))
  clear hb_ W3 T3 K3 C1_3
  go_wp2
  go_ret
  exact ⟨by simp, W4.out⟩
 ·have HF2 := Aside0.mk (HF.out (by trivial))
  have HO2 := Aside0.mk (HO.out (by trivial))
  clear HNo HF HO
  obtain ⟨k0, k1, k2, k3, k4, k5, k6, k7, k8, k9⟩ := cells10 K3.out
  have hL3 : (w3.heap.size : Nat) = w3.heap.size := rfl
  have C2 := Aside0.mk (lit_C w3 [d, n, m, a] (by simp))
  have A3 := below_alloc (Below.refl w3.heap.size w3) (.cells (nums .i64 [d, n, m, a]).toArray 3)
  have T4 := tabs_of T3 A3
  have K4 := Aside0.mk (blk_grown K3.out (grown_of_below A3 none) (by simp))
  have C4 := Aside0.mk (Kd.C_below C1_3.out A3)
  have W4 := Aside0.mk (W3.out.trans (A3.mono W3.out.size))
  clear A3 hL3
  go_wp2
  go_loopw [7] (fun v7 wr => ∃ x : Int, v7 = .int .i64 x ∧ 0 ≤ x ∧ x ≤ l.length ∧ Aside0 (Tabs wr) ∧ Aside0 (wr.heap[w.heap.size]? = some (.cells #[.int .i64 op, .int .i64 d, .int .i64 n, .int .i64 m, .int .i64 a, .int .i64 im, .int .u64 u, .int .i64 sh, .int .i64 am, .int .i64 co] 24 (0, 0))) ∧ Aside0 (Kd.C (Kd.int .i64) wr A1 l.length l) ∧ Aside0 (Kd.C (Kd.int .i64) wr (some ⟨w3.heap.size, 0, none⟩) 4 [d, n, m, a]) ∧ Aside0 (Below w.heap.size w wr)) (fun i _ => l.length - (intOf i).toNat)
  case atStart => exact ⟨0, rfl, by omega, by omega, T4, K4, C4, C2, W4⟩
  case round =>
   clear T4 K4 C4 C2 W4 T3 K3 C1_3 W3 k0 k1 k2 k3 k4 k5 k6 k7 k8 k9
   obtain ⟨x, rfl, hx0, hx1, HTT, HK, HC, HC2, HB⟩ := hrel
   obtain ⟨k0, k1, k2, k3, k4, k5, k6, k7, k8, k9⟩ := cells10 HK.out
   by_cases hlt : x < l.length
   ·obtain ⟨e0, e1, e2, e3⟩ := HO2.out x hx0 hlt
    obtain ⟨ad, he, a0⟩ := Kd.at_int HC.out x hx0 hlt
    cases he
    have hxz : wrap64 (x + 1) = x + 1 := w64_in ⟨by omega, by omega⟩
    have HX := Aside0.mk (And.intro hx0 (And.intro hx1 hlt))
    have p1 := eq_true hx0
    have q1 := eq_true hlt
    have f0 : decide (rd l x < 0) = false := decide_eq_false (by omega)
    have f1 : decide (31 < rd l x) = false := decide_eq_false (by omega)
    by_cases hxp : 0 < x
    ·obtain ⟨ad', he, a1⟩ := Kd.at_int HC.out (x - 1) (by omega) (by omega)
     cases he
     have e3 := e3 hxp
     have f2 : decide (rd l x ≤ rd l (x - 1)) = false := decide_eq_false (by omega)
     obtain ⟨j, hj⟩ : ∃ j, x - 1 = j := ⟨_, rfl⟩
     have hjw : IntKind.i64.wrap (x - 1) = j := (i64_w _).trans ((w64_in ⟨by omega, by omega⟩).trans hj)
     have p2 := eq_true (show 0 ≤ j by omega)
     have q2 := eq_true (show j < l.length by omega)
     have fx : decide (0 < x) = true := decide_eq_true hxp
     rw [hj] at a1 f2
     clear hj e0 e1 e3 hxp hx0 hx1 hlt
     generalize rd l x = e at *
     generalize rd l j = e' at *
     have HHAS : Aside0 (∀ W, Below wr.heap.size wr W → Calls Tryd.prog 17 #[.slice (some ⟨w3.heap.size, 0, none⟩) 4 4, .int .i64 e] W fun E w' => E = .returned (.bool (decide (e ∈ [d, n, m, a]))) ∧ Drawn0 W w') := ⟨fun W hW => cleatlaw04_has.calls 10 _ 4 [d, n, m, a] e _ _ (Kd.C_below HC2.out hW) (by simp) (has_f4 [d, n, m, a] e (by simp))⟩
     by_cases hin : e ∈ [d, n, m, a]
     ·rw [decide_eq_true hin] at HHAS
      clear e2 hin
      go_wp2_with (fail)
      go_quiet ((go_at_call 17; (with_reducible refine (HHAS.out _ (pw_below_drewN (Below.refl _ _) _)).mono ?_); rintro E w' ⟨rfl, ⟨nd, rfl⟩⟩; exact ⟨rfl, _, World.drewN_drewN _ _ _⟩))
      go_wp2
      obtain ⟨hx0, hx1, hlt⟩ := HX.out
      go_roundw
      case rel => exact ⟨x + 1, by simp [hxz], by omega, by omega, tabs_of HTT (pw_below_drewN (Below.refl _ _) _), ⟨HK.out⟩, ⟨Kd.C_drewN HC.out _⟩, ⟨Kd.C_drewN HC2.out _⟩, ⟨pw_below_drewN HB.out _⟩⟩
      case measure => rw [hxz]; show l.length - (x + 1).toNat < l.length - x.toNat; omega
     ·rw [decide_eq_false hin] at HHAS
      obtain ⟨o1, o2⟩ := e2.resolve_left hin
      clear e2 hin
      subst o1 o2
      go_wp2_with (fail)
      go_quiet ((go_at_call 17; (with_reducible refine (HHAS.out _ (pw_below_drewN (Below.refl _ _) _)).mono ?_); rintro E w' ⟨rfl, ⟨nd, rfl⟩⟩; exact ⟨rfl, _, World.drewN_drewN _ _ _⟩))
      go_wp2
      obtain ⟨hx0, hx1, hlt⟩ := HX.out
      go_roundw
      case rel => exact ⟨x + 1, by simp [hxz], by omega, by omega, tabs_of HTT (pw_below_drewN (Below.refl _ _) _), ⟨HK.out⟩, ⟨Kd.C_drewN HC.out _⟩, ⟨Kd.C_drewN HC2.out _⟩, ⟨pw_below_drewN HB.out _⟩⟩
      case measure => rw [hxz]; show l.length - (x + 1).toNat < l.length - x.toNat; omega
    ·have fx : decide (0 < x) = false := decide_eq_false hxp
     clear e0 e1 e3 hxp hx0 hx1 hlt
     generalize rd l x = e at *
     have HHAS : Aside0 (∀ W, Below wr.heap.size wr W → Calls Tryd.prog 17 #[.slice (some ⟨w3.heap.size, 0, none⟩) 4 4, .int .i64 e] W fun E w' => E = .returned (.bool (decide (e ∈ [d, n, m, a]))) ∧ Drawn0 W w') := ⟨fun W hW => cleatlaw04_has.calls 10 _ 4 [d, n, m, a] e _ _ (Kd.C_below HC2.out hW) (by simp) (has_f4 [d, n, m, a] e (by simp))⟩
     by_cases hin : e ∈ [d, n, m, a]
     ·rw [decide_eq_true hin] at HHAS
      clear e2 hin
      go_wp2_with (fail)
      go_quiet ((go_at_call 17; (with_reducible refine (HHAS.out _ (pw_below_drewN (Below.refl _ _) _)).mono ?_); rintro E w' ⟨rfl, ⟨nd, rfl⟩⟩; exact ⟨rfl, _, World.drewN_drewN _ _ _⟩))
      go_wp2
      obtain ⟨hx0, hx1, hlt⟩ := HX.out
      go_roundw
      case rel => exact ⟨x + 1, by simp [hxz], by omega, by omega, tabs_of HTT (pw_below_drewN (Below.refl _ _) _), ⟨HK.out⟩, ⟨Kd.C_drewN HC.out _⟩, ⟨Kd.C_drewN HC2.out _⟩, ⟨pw_below_drewN HB.out _⟩⟩
      case measure => rw [hxz]; show l.length - (x + 1).toNat < l.length - x.toNat; omega
     ·rw [decide_eq_false hin] at HHAS
      obtain ⟨o1, o2⟩ := e2.resolve_left hin
      clear e2 hin
      subst o1 o2
      go_wp2_with (fail)
      go_quiet ((go_at_call 17; (with_reducible refine (HHAS.out _ (pw_below_drewN (Below.refl _ _) _)).mono ?_); rintro E w' ⟨rfl, ⟨nd, rfl⟩⟩; exact ⟨rfl, _, World.drewN_drewN _ _ _⟩))
      go_wp2
      obtain ⟨hx0, hx1, hlt⟩ := HX.out
      go_roundw
      case rel => exact ⟨x + 1, by simp [hxz], by omega, by omega, tabs_of HTT (pw_below_drewN (Below.refl _ _) _), ⟨HK.out⟩, ⟨Kd.C_drewN HC.out _⟩, ⟨Kd.C_drewN HC2.out _⟩, ⟨pw_below_drewN HB.out _⟩⟩
      case measure => rw [hxz]; show l.length - (x + 1).toNat < l.length - x.toNat; omega
   ·rcases HF2.out with ⟨f1, rfl, rfl⟩ | ⟨f1, f2, rfl, rfl⟩ | ⟨f1, f2, rfl, rfl⟩ | ⟨f1, f2, rfl, rfl⟩
    all_goals
     go_wp2_with (fail)
     refine (cleatlaw04_shaped.calls true wr rfl HTT).mono ?_
     rintro e w5 ⟨rfl, hb_⟩
     have W5 := Aside0.mk (HB.out.trans (hb_.mono HB.out.size))
     have K5 := Aside0.mk (blk_grown HK.out (grown_of_below hb_ none) (by simp))
     clear hb_ HB HTT HK HC HC2 k0 k1 k2 k3 k4 k5 k6 k7 k8 k9
     obtain ⟨k0, k1, k2, k3, k4, k5, k6, k7, k8, k9⟩ := cells10 K5.out
     go_wp2
     go_ret
     exact ⟨by first | (simp; done) | (simp [f1]; done) | (simp [f1, f2]; done), W5.out⟩
end Go.Proofs.YtgonbeifaioheaaDoor.P
