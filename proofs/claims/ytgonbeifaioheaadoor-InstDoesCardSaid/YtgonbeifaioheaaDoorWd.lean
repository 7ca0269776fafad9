/- InstDoes, walked by hand over the contracts of its callees. -/
import Derived.Test.YtgonbeifaioheaaDoorIn4
import Derived.Test.YtgonbeifaioheaaDoorPx10
import Derived.Test.YtgonbeifaioheaaDoorPx11
import Derived.Test.YtgonbeifaioheaaDoorPx12
import Derived.Test.YtgonbeifaioheaaDoorPx4
import Derived.Test.YtgonbeifaioheaaDoorPx5
import Derived.Test.YtgonbeifaioheaaDoorPx9
namespace Go.Proofs.YtgonbeifaioheaaDoor.P
open Go.RowKit Go.Proofs.YtgonbeifaioheaaDoor.K Go.Proofs.YtgonbeifaioheaaDoor.In Go.Proofs.YtgonbeifaioheaaDoorW.PrintWords Go.Proofs.YtgonbeifaioheaaDoorW.PrintLast Go.Proofs.YtgonbeifaioheaaDoorW.PrintMore
set_option linter.unusedVariables false
set_option linter.unusedSimpArgs false
theorem same_l (l : List Int) : ∀ (d k i : Nat), i + d = l.length → d < k → l.length ≤ 1000000 → cleatref04_Same.l0 k l l (i : Int) = some true := by
 intro d
 induction d with
 | zero =>
  intro k i h hk hl
  obtain ⟨k, rfl⟩ : ∃ m, k = m + 1 := ⟨k - 1, by omega⟩
  simp only [cleatref04_Same.l0]
  rw [if_neg (by omega)]
 | succ d ih =>
  intro k i h hk hl
  obtain ⟨k, rfl⟩ : ∃ m, k = m + 1 := ⟨k - 1, by omega⟩
  simp only [cleatref04_Same.l0]
  rw [if_pos (by omega), if_pos (by omega), if_pos (by omega), if_pos trivial, w64_in ⟨by omega, by omega⟩]
  exact ih k (i + 1) (by omega) (by omega) hl
theorem same_f (l : List Int) (k : Nat) (hk : l.length < k) (hl : l.length ≤ 1000000) : cleatref04_Same.f k l l = some true := by
 unfold cleatref04_Same.f
 rw [if_pos rfl]
 exact same_l l l.length k 0 (by omega) hk hl
theorem readL_len (op d n m a : Int) : (readL op d n m a).length ≤ 5 := by
 unfold readL
 refine Nat.le_trans (addIf_len _ _ _) (Nat.succ_le_succ ?_)
 refine Nat.le_trans (addIf_len _ _ _) (Nat.succ_le_succ ?_)
 refine Nat.le_trans (addIf_len _ _ _) (Nat.succ_le_succ ?_)
 refine Nat.le_trans (addIf_len _ _ _) (Nat.succ_le_succ ?_)
 exact addIf_len _ _ _
set_option maxHeartbeats 8000000 in
theorem does_walk (op d n m a im v sh am co : Int) (w : World) (_ : (Lit.int .i64 op).wf = true) (_ : (Lit.int .i64 d).wf = true) (_ : (Lit.int .i64 n).wf = true) (_ : (Lit.int .i64 m).wf = true) (_ : (Lit.int .i64 a).wf = true) (_ : (Lit.int .i64 im).wf = true) (hv : (Lit.int .u64 v).wf = true) (_ : (Lit.int .i64 sh).wf = true) (_ : (Lit.int .i64 am).wf = true) (_ : (Lit.int .i64 co).wf = true) (HT : Aside0 (Tabs w)) :
  Calls Tryd.prog 3 #[.agg #[.int .i64 op, .int .i64 d, .int .i64 n, .int .i64 m, .int .i64 a, .int .i64 im, .int .u64 v, .int .i64 sh, .int .i64 am, .int .i64 co]] w fun e w' => e = .returned (.bool true) ∧ Below w.heap.size w w' := by
 have hvr := wf_u64 hv
 obtain ⟨u, rfl⟩ := Int.eq_ofNat_of_zero_le hvr.1
 have hu : u < 18446744073709551616 := by omega

 have hW := Writes_f op d n m a im u hu sh am co 700 (by decide)
 have hW' := rWrites_f op d n m a im u hu sh am co 700 (by decide)
 have hI := Is_f op d n m a im u hu sh am co 700 (by decide)
 have hI' := rIs_f op d n m a im u hu sh am co 700 (by decide)
 have hR := Reads_f op d n m a im u hu sh am co 700 (by decide)
 have hR' := rReads_f op d n m a im u hu sh am co 700 (by decide)
 have hl : (if isB op d n m a im u sh am co = true then readL op d n m a else []).length ≤ 5 := by
  split
  ·exact readL_len _ _ _ _ _
  ·simp
 generalize (if isB op d n m a im u sh am co = true then readL op d n m a else []) = l at *
 generalize (if isB op d n m a im u sh am co = true then writeR op d else (0, false)) = r at *
 generalize isB op d n m a im u sh am co = b at *
 obtain ⟨rd_, rx_⟩ := r
 have hS := same_f l 700 (by omega) (by omega)
 have HW := Aside0.mk hW
 have HW' := Aside0.mk hW'
 have HI := Aside0.mk hI
 have HI' := Aside0.mk hI'
 have HR := Aside0.mk hR
 have HR' := Aside0.mk hR'
 have HS := Aside0.mk hS
 clear hW hW' hI hI' hR hR' hS hl hu
 have W0 := Aside0.mk (below_alloc (Below.refl w.heap.size w) (.cells #[.int .i64 op, .int .i64 d, .int .i64 n, .int .i64 m, .int .i64 a, .int .i64 im, .int .u64 u, .int .i64 sh, .int .i64 am, .int .i64 co] 24))
 have T0 := tabs_of HT W0.out
 have K0 := Aside0.mk (blk_new w (.cells #[.int .i64 op, .int .i64 d, .int .i64 n, .int .i64 m, .int .i64 a, .int .i64 im, .int .u64 u, .int .i64 sh, .int .i64 am, .int .i64 co] 24))
 clear HT hv hvr
 go_enter Tryd.func3, Tryd.ntmps3
 obtain ⟨k0, k1, k2, k3, k4, k5, k6, k7, k8, k9⟩ := cells10 K0.out
 go_wp2_with (fail)
 refine (inst_Writes.calls 700 op d n m a im u sh am co rd_ rx_ _ HW.out T0).mono ?_
 rintro e w1 ⟨rfl, hb_⟩
 have W1 := Aside0.mk (W0.out.trans (hb_.mono W0.out.size))
 have T1 := tabs_of T0 hb_
 have K1 := Aside0.mk (blk_grown K0.out (grown_of_below hb_ none) (by simp))
 clear hb_ W0 T0 K0 k0 k1 k2 k3 k4 k5 k6 k7 k8 k9
 obtain ⟨k0, k1, k2, k3, k4, k5, k6, k7, k8, k9⟩ := cells10 K1.out
 go_wp2_with (fail)
 refine (cleatref04_Writes.calls 700 op d n m a im u sh am co rd_ rx_ _ HW'.out).mono ?_
 rintro e w2 ⟨rfl, hb_⟩
 have W2 := Aside0.mk (W1.out.trans (hb_.mono W1.out.size))
 have T2 := tabs_of T1 hb_
 have K2 := Aside0.mk (blk_grown K1.out (grown_of_below hb_ none) (by simp))
 clear hb_ W1 T1 K1 k0 k1 k2 k3 k4 k5 k6 k7 k8 k9
 obtain ⟨k0, k1, k2, k3, k4, k5, k6, k7, k8, k9⟩ := cells10 K2.out
 have TT := tabs_of T2 (below_drew (Below.refl _ w2))
 have WW := Aside0.mk (below_drew1 W2.out)
 clear T2 W2 K2
 go_wp2_with (fail)
 go_region_held3 (fun w' => w'.cell? ⟨w.heap.size, 0, none⟩ = some (.int .i64 op) ∧ w'.cell? ⟨w.heap.size, 1, none⟩ = some (.int .i64 d) ∧ w'.cell? ⟨w.heap.size, 2, none⟩ = some (.int .i64 n) ∧ w'.cell? ⟨w.heap.size, 3, none⟩ = some (.int .i64 m) ∧ w'.cell? ⟨w.heap.size, 4, none⟩ = some (.int .i64 a) ∧ w'.cell? ⟨w.heap.size, 5, none⟩ = some (.int .i64 im) ∧ w'.cell? ⟨w.heap.size, 6, none⟩ = some (.int .u64 u) ∧ w'.cell? ⟨w.heap.size, 7, none⟩ = some (.int .i64 sh) ∧ w'.cell? ⟨w.heap.size, 8, none⟩ = some (.int .i64 am) ∧ w'.cell? ⟨w.heap.size, 9, none⟩ = some (.int .i64 co))
  (go_keep)
  ((first | (go_at_call 11; (with_reducible refine (cleatlaw04_shaped.calls true _ rfl TT).mono ?_); rintro e wn ⟨rfl, hb⟩; replace k0 := pw_cell_below hb k0; replace k1 := pw_cell_below hb k1; replace k2 := pw_cell_below hb k2; replace k3 := pw_cell_below hb k3; replace k4 := pw_cell_below hb k4; replace k5 := pw_cell_below hb k5; replace k6 := pw_cell_below hb k6; replace k7 := pw_cell_below hb k7; replace k8 := pw_cell_below hb k8; replace k9 := pw_cell_below hb k9; replace WW := Aside0.mk (WW.out.trans (hb.mono WW.out.size)); replace TT := tabs_of TT hb; clear hb) | (go_at_call 12; (with_reducible refine (inst_Is.calls 700 op d n m a im u sh am co b _ HI.out TT).mono ?_); rintro e wn ⟨rfl, hb⟩; replace k0 := pw_cell_below hb k0; replace k1 := pw_cell_below hb k1; replace k2 := pw_cell_below hb k2; replace k3 := pw_cell_below hb k3; replace k4 := pw_cell_below hb k4; replace k5 := pw_cell_below hb k5; replace k6 := pw_cell_below hb k6; replace k7 := pw_cell_below hb k7; replace k8 := pw_cell_below hb k8; replace k9 := pw_cell_below hb k9; replace WW := Aside0.mk (WW.out.trans (hb.mono WW.out.size)); replace TT := tabs_of TT hb; clear hb) | (go_at_call 13; (with_reducible refine (cleatref04_Is.calls 700 op d n m a im u sh am co b _ HI'.out).mono ?_); rintro e wn ⟨rfl, hb⟩; replace k0 := pw_cell_below hb k0; replace k1 := pw_cell_below hb k1; replace k2 := pw_cell_below hb k2; replace k3 := pw_cell_below hb k3; replace k4 := pw_cell_below hb k4; replace k5 := pw_cell_below hb k5; replace k6 := pw_cell_below hb k6; replace k7 := pw_cell_below hb k7; replace k8 := pw_cell_below hb k8; replace k9 := pw_cell_below hb k9; replace WW := Aside0.mk (WW.out.trans (hb.mono WW.out.size)); replace TT := tabs_of TT hb; clear hb) | (go_at_call 15; (with_reducible refine (inst_Reads.calls 700 op d n m a im u sh am co l _ HR.out TT).mono ?_); rintro e wn ⟨v_, rfl, hR_, hb⟩; replace k0 := pw_cell_below hb k0; replace k1 := pw_cell_below hb k1; replace k2 := pw_cell_below hb k2; replace k3 := pw_cell_below hb k3; replace k4 := pw_cell_below hb k4; replace k5 := pw_cell_below hb k5; replace k6 := pw_cell_below hb k6; replace k7 := pw_cell_below hb k7; replace k8 := pw_cell_below hb k8; replace k9 := pw_cell_below hb k9; replace WW := Aside0.mk (WW.out.trans (hb.mono WW.out.size)); replace TT := tabs_of TT hb; obtain ⟨A6, c6, rfl⟩ := Kd.R_slice hR_; obtain ⟨_, hc6, hC6⟩ := Kd.R_reads' hR_; have HC6 := Aside0.mk hC6; have HCC6 := Aside0.mk hc6; clear hR_ hc6 hC6; clear hb) | (go_at_call 16; (with_reducible refine (cleatref04_Reads.calls 700 op d n m a im u sh am co l _ HR'.out).mono ?_); rintro e wn ⟨v_, rfl, hR_, hb⟩; replace k0 := pw_cell_below hb k0; replace k1 := pw_cell_below hb k1; replace k2 := pw_cell_below hb k2; replace k3 := pw_cell_below hb k3; replace k4 := pw_cell_below hb k4; replace k5 := pw_cell_below hb k5; replace k6 := pw_cell_below hb k6; replace k7 := pw_cell_below hb k7; replace k8 := pw_cell_below hb k8; replace k9 := pw_cell_below hb k9; replace WW := Aside0.mk (WW.out.trans (hb.mono WW.out.size)); replace TT := tabs_of TT hb; obtain ⟨A7, c7, rfl⟩ := Kd.R_slice hR_; obtain ⟨_, hc7, hC7⟩ := Kd.R_reads' hR_; have HC7 := Aside0.mk hC7; have HCC7 := Aside0.mk hc7; clear hR_ hc7 hC7; replace HC6 := Aside0.mk (Kd.C_below HC6.out hb); clear hb) | (go_at_call 14; (with_reducible refine (cleatref04_Same.calls 700 A6 c6 l A7 c7 l true _ HC6.out HCC6.out HC7.out HCC7.out HS.out).mono ?_); rintro e wn ⟨rfl, hd⟩; have hb := hd.below; clear hd; replace k0 := pw_cell_below hb k0; replace k1 := pw_cell_below hb k1; replace k2 := pw_cell_below hb k2; replace k3 := pw_cell_below hb k3; replace k4 := pw_cell_below hb k4; replace k5 := pw_cell_below hb k5; replace k6 := pw_cell_below hb k6; replace k7 := pw_cell_below hb k7; replace k8 := pw_cell_below hb k8; replace k9 := pw_cell_below hb k9; replace WW := Aside0.mk (WW.out.trans (hb.mono WW.out.size)); clear hb)))
 all_goals go_wp2
 all_goals
  go_ret
  exact ⟨by simp, WW.out⟩
end Go.Proofs.YtgonbeifaioheaaDoor.P
