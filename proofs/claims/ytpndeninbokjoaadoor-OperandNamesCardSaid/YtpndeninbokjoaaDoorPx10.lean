-- printed by wip/tools/myprint.py out of the translation. Not trusted: Lean checks it.
import Derived.Test.YtpndeninbokjoaaDoorPx0
import Derived.Test.YtpndeninbokjoaaDoorPx4
import Derived.Test.YtpndeninbokjoaaDoorPx5
import Derived.Test.YtpndeninbokjoaaDoorPx8
import Derived.Test.YtpndeninbokjoaaDoorPx9
namespace Go.Proofs.YtpndeninbokjoaaDoor.P
open Go.RowKit Go.Proofs.YtpndeninbokjoaaDoorW.PrintWords Go.Proofs.YtpndeninbokjoaaDoorW.PrintLast Go.Proofs.YtpndeninbokjoaaDoorW.PrintMore
attribute [local go_sem] max2_int min2_int max_two min_two max_three min_three max_four min_four   -- for this text's walks alone
set_option linter.unusedVariables false
set_option linter.unusedSimpArgs false

/-! ### operand_reader_operand: function 16 -/
def opOf : Ex → S44
  | .inl n => ⟨2, 0, false, n.1, n.2, ⟨#[]⟩, 0⟩
  | .inr s => ⟨3, 0, false, false, 0, s.1, s.2⟩
def opLit : Ex → S44
  | .inl n => ⟨5, 0, false, n.1, n.2, ⟨#[]⟩, 0⟩
  | .inr s => ⟨5, 0, false, false, 0, s.1, s.2⟩
def oprP (L : List S29) (p : Nat) (E : Int) : Option (S44 × Nat × Int) := match regP L p with
  | some (n, st) => some (⟨1, n, st, false, 0, ⟨#[]⟩, 0⟩, p + 1, E)
  | none =>
    if (tk L p).f0 = 1 ∧ 0 ≤ shS (tk L p).f1 then (valP true L (sgN L (p + 1) ⟨#[35]⟩) E).map fun x => (⟨7, shS (tk L p).f1, false, false, x.1, ⟨#[]⟩, 0⟩, x.2)
    else if sgB L p ⟨#[91]⟩ = true then memP L (p + 1) E
    else if sgB L p ⟨#[61]⟩ = true then (expP L (p + 1) E).map fun x => (opLit x.1, x.2)
    else if sgB L (sgN L p ⟨#[35]⟩) ⟨#[58]⟩ = true then (lowP L (sgN L p ⟨#[35]⟩ + 1) E).map fun x => (⟨6, 0, false, false, 0, x.1.1, x.1.2⟩, x.2)
    else if sgB L p ⟨#[35]⟩ = true then (numP L (p + 1) E).map fun x => (opOf (.inl x.1), x.2)
    else (expP L p E).map fun x => (opOf x.1, x.2)
set_option maxHeartbeats 16000000 in
set_option maxRecDepth 100000 in
theorem rd_operand (w0 w : World) (g : Nat) (A : Option Addr) (c : Nat) (L : List S29) (p : Nat) (E : Int) (H : Aside0 (Rd w0 w g A c L p E)) (hp : p ≤ L.length) (HT : Aside0 (Tabs w0)) :
    Calls Tryd.prog 16 #[.pointer (some ⟨g, 0, none⟩)] w (RdPost w0 w g A c L (oprP L p E) opV) := by
  have hz29 := Tryd.zeroValue29
  have hz44 := Tryd.zeroValue44
  obtain ⟨W, hW, hH, hK, hB, hne⟩ := H.out.box #[.int .i64 0, .int .i64 0, .bool false, .bool false, .int .u64 0, .string ⟨#[]⟩, .int .i64 0] 44
  have hwW : w0.heap.size ≤ w.heap.size := H.out.below.size
  unfold oprP
  cases hg : regP L p with
  | some ns =>
    obtain ⟨n, st⟩ := ns
    have hrg := regQ_some (E := E) hg
    go_enter Tryd.func16, Tryd.ntmps16
    go_wp2_with (fail)
    have HM := rd_register w0 W g A c L p E ⟨hH⟩ hp HT
    rw [hrg] at HM
    refine HM.mono ?_
    rintro e w1 ⟨k1, rfl, h1⟩
    have H1 := Aside0.mk h1
    have K1 := Aside0.mk (hK.trans k1 (Or.inl rfl))
    have R1 := Aside0.mk (k1.blk hB hne (by simp))
    clear h1 k1 HM hW hH hK hB
    have r0 : w1.cell? ⟨w.heap.size, 0, none⟩ = some (.int .i64 0) := (blk_cell R1.out 0).trans rfl
    have rf0 : w1.frozen? ⟨w.heap.size, 0, none⟩ = false := blk_frozen R1.out 0
    have r1 : w1.cell? ⟨w.heap.size, 1, none⟩ = some (.int .i64 0) := (blk_cell R1.out 1).trans rfl
    have rf1 : w1.frozen? ⟨w.heap.size, 1, none⟩ = false := blk_frozen R1.out 1
    have r2 : w1.cell? ⟨w.heap.size, 2, none⟩ = some (.bool false) := (blk_cell R1.out 2).trans rfl
    have rf2 : w1.frozen? ⟨w.heap.size, 2, none⟩ = false := blk_frozen R1.out 2
    have r3 : w1.cell? ⟨w.heap.size, 3, none⟩ = some (.bool false) := (blk_cell R1.out 3).trans rfl
    have rf3 : w1.frozen? ⟨w.heap.size, 3, none⟩ = false := blk_frozen R1.out 3
    have r4 : w1.cell? ⟨w.heap.size, 4, none⟩ = some (.int .u64 0) := (blk_cell R1.out 4).trans rfl
    have rf4 : w1.frozen? ⟨w.heap.size, 4, none⟩ = false := blk_frozen R1.out 4
    have r5 : w1.cell? ⟨w.heap.size, 5, none⟩ = some (.string ⟨#[]⟩) := (blk_cell R1.out 5).trans rfl
    have rf5 : w1.frozen? ⟨w.heap.size, 5, none⟩ = false := blk_frozen R1.out 5
    have r6 : w1.cell? ⟨w.heap.size, 6, none⟩ = some (.int .i64 0) := (blk_cell R1.out 6).trans rfl
    have rf6 : w1.frozen? ⟨w.heap.size, 6, none⟩ = false := blk_frozen R1.out 6
    go_wp2
    refine bodyPost_ret (results_cell_row rfl _ _ w.heap.size 44 #[_, _, _, _, _, _, _] (0, 0) _ rfl (blk_put (blk_put (blk_put (blk_put (blk_put (blk_put (blk_put R1.out 0 _ rfl) 1 _ rfl) 2 _ rfl) 3 _ rfl) 4 _ rfl) 5 _ rfl) 6 _ rfl) Tryd.underlying44 rfl (by kernel_rfl)) rfl ?_
    exact ⟨keep_set2 (keep_set2 (keep_set2 (keep_set2 (keep_set2 (keep_set2 (keep_set2 K1.out (Nat.le_refl _)) (Nat.le_refl _)) (Nat.le_refl _)) (Nat.le_refl _)) (Nat.le_refl _)) (Nat.le_refl _)) (Nat.le_refl _), rfl, (((((((H1.out).far _ hwW hne).far _ hwW hne).far _ hwW hne).far _ hwW hne).far _ hwW hne).far _ hwW hne).far _ hwW hne⟩
  | none =>
    have hrg := regQ_none (E := E) hg
    simp only
    obtain ⟨t, ht⟩ : ∃ t, tk L p = t := ⟨_, rfl⟩
    obtain ⟨sh, hsh⟩ : ∃ s, shS t.f1 = s := ⟨_, rfl⟩
    have HSH := Aside0.mk ((shS_f t.f1).trans (congrArg some hsh))
    rw [ht, hsh]
    by_cases hk : t.f0 = 1 ∧ 0 ≤ sh
    · rw [if_pos hk]
      have c1 : (t.f0 == 1) = true := beq_iff_eq.2 hk.1
      have c2 : decide (0 ≤ sh) = true := decide_eq_true hk.2
      have hp1 : p + 1 ≤ L.length := tk_lt (by rw [ht, hk.1]; decide)
      have hw : wrap64 ((p : Int) + 1) = ((p + 1 : Nat) : Int) := by have := H.out.len; unfold wrap64; omega
      obtain ⟨p5, hq5⟩ : ∃ q, (if sgB L (p + 1) ⟨#[35]⟩ = true then p + 1 + 1 else p + 1) = q := ⟨_, rfl⟩
      have hp5 : p5 ≤ L.length := by rw [← hq5]; exact sgN_le hp1
      rw [show sgN L (p + 1) ⟨#[35]⟩ = p5 from hq5]
      clear hk
      cases hr : valP true L p5 E with
      | none =>
        go_enter Tryd.func16, Tryd.ntmps16
        go_wp2_with (fail)
        have HM := rd_register w0 W g A c L p E ⟨hH⟩ hp HT
        rw [hrg] at HM
        refine HM.mono ?_
        rintro e w1 ⟨k1, rfl, h1⟩
        have H1 := Aside0.mk h1
        have K1 := Aside0.mk (hK.trans k1 (Or.inl rfl))
        have R1 := Aside0.mk (k1.blk hB hne (by simp))
        clear h1 k1 HM hW hH hK hB
        go_wp2_with (fail)
        have HP := rd_peek w0 w1 g A c L p E H1
        rw [ht] at HP
        refine HP.mono ?_
        rintro e w2 ⟨rfl, hb⟩
        have H2 := Aside0.mk ((H1.out.after hb).after (below_alloc (Below.refl _ _) (.cells #[.int .i64 t.f0, .string t.f1, .int .u64 t.f2] 29)))
        have K2 := Aside0.mk (keep_alloc (K1.out.trans (KeepBut.of_below hb g none) (Or.inl rfl)) (.cells #[.int .i64 t.f0, .string t.f1, .int .u64 t.f2] 29))
        have R2 := Aside0.mk (blk_alloc (blk_below R1.out hb) (.cells #[.int .i64 t.f0, .string t.f1, .int .u64 t.f2] 29))
        have T2 := Aside0.mk (blk_new w2 (.cells #[.int .i64 t.f0, .string t.f1, .int .u64 t.f2] 29))
        have hgT : w2.heap.size ≠ g := fun e => by have := Rd.keep (H1.out.after hb); omega
        clear hb HP H1 K1 R1
        go_wp2_with (fail)
        refine (operand_shift.calls t.f1 sh _ HSH.out).mono ?_
        rintro e w3 ⟨rfl, hd⟩
        have H3 := Aside0.mk (H2.out.after hd.below)
        have K3 := Aside0.mk (K2.out.trans (KeepBut.of_below hd.below g none) (Or.inl rfl))
        have R3 := Aside0.mk (blk_below R2.out hd.below)
        have T3 := Aside0.mk (blk_below T2.out hd.below)
        clear hd H2 K2 R2 T2
        obtain ⟨_, q1, _, f1, _⟩ := rd_cells H3.out
        have H4 := Aside0.mk (H3.out.setP (p + 1))
        have K4 := Aside0.mk (K3.out.set_ 1 (.int .i64 ((p + 1 : Nat) : Int)))
        have R4 := Aside0.mk (blk_far R3.out (p := ⟨g, 1, none⟩) hne (.int .i64 ((p + 1 : Nat) : Int)))
        have T4 := Aside0.mk (blk_far T3.out (p := ⟨g, 1, none⟩) hgT (.int .i64 ((p + 1 : Nat) : Int)))
        clear H3 K3 R3 T3
        go_wp2_with (fail)
        have HM := rd_sign w0 _ g A c L (p + 1) E ⟨#[35]⟩ H4
        rw [show (if sgB L (p + 1) ⟨#[35]⟩ = true then p + 1 + 1 else p + 1) = p5 from hq5] at HM
        refine HM.mono ?_
        rintro e w5 ⟨rfl, h5, k5⟩
        have H5 := Aside0.mk h5
        have K5 := Aside0.mk (K4.out.trans k5 (Or.inl rfl))
        have R5 := Aside0.mk (k5.blk R4.out hne (by simp))
        have T5 := k5.blk T4.out hgT (by simp)
        have t0 : w5.cell? ⟨w2.heap.size, 1, none⟩ = some (.string t.f1) := (blk_cell T5 1).trans rfl
        clear h5 k5 HM H4 K4 R4 T4 T5 q1 f1
        go_wp2_with (fail)
        refine (operand_shift.calls t.f1 sh _ HSH.out).mono ?_
        rintro e w6 ⟨rfl, hd⟩
        have H6 := Aside0.mk (H5.out.after hd.below)
        have K6 := Aside0.mk (K5.out.trans (KeepBut.of_below hd.below g none) (Or.inl rfl))
        have R6 := Aside0.mk (blk_below R5.out hd.below)
        clear hd H5 K5 R5 t0
        go_wp2_with (fail)
        have HM := rd_value w0 _ g A c L p5 E true H6 hp5
        rw [hr] at HM
        refine HM.mono ?_
        rintro e w7 ⟨k7, ⟨ty, v, rfl⟩, hb⟩
        go_wp2
        exact ⟨rfl, K6.out.trans k7 (Or.inl rfl), ⟨_, _, rfl⟩, hb⟩
      | some y =>
        obtain ⟨v, q, E'⟩ := y
        go_enter Tryd.func16, Tryd.ntmps16
        go_wp2_with (fail)
        have HM := rd_register w0 W g A c L p E ⟨hH⟩ hp HT
        rw [hrg] at HM
        refine HM.mono ?_
        rintro e w1 ⟨k1, rfl, h1⟩
        have H1 := Aside0.mk h1
        have K1 := Aside0.mk (hK.trans k1 (Or.inl rfl))
        have R1 := Aside0.mk (k1.blk hB hne (by simp))
        clear h1 k1 HM hW hH hK hB
        go_wp2_with (fail)
        have HP := rd_peek w0 w1 g A c L p E H1
        rw [ht] at HP
        refine HP.mono ?_
        rintro e w2 ⟨rfl, hb⟩
        have H2 := Aside0.mk ((H1.out.after hb).after (below_alloc (Below.refl _ _) (.cells #[.int .i64 t.f0, .string t.f1, .int .u64 t.f2] 29)))
        have K2 := Aside0.mk (keep_alloc (K1.out.trans (KeepBut.of_below hb g none) (Or.inl rfl)) (.cells #[.int .i64 t.f0, .string t.f1, .int .u64 t.f2] 29))
        have R2 := Aside0.mk (blk_alloc (blk_below R1.out hb) (.cells #[.int .i64 t.f0, .string t.f1, .int .u64 t.f2] 29))
        have T2 := Aside0.mk (blk_new w2 (.cells #[.int .i64 t.f0, .string t.f1, .int .u64 t.f2] 29))
        have hgT : w2.heap.size ≠ g := fun e => by have := Rd.keep (H1.out.after hb); omega
        clear hb HP H1 K1 R1
        go_wp2_with (fail)
        refine (operand_shift.calls t.f1 sh _ HSH.out).mono ?_
        rintro e w3 ⟨rfl, hd⟩
        have H3 := Aside0.mk (H2.out.after hd.below)
        have K3 := Aside0.mk (K2.out.trans (KeepBut.of_below hd.below g none) (Or.inl rfl))
        have R3 := Aside0.mk (blk_below R2.out hd.below)
        have T3 := Aside0.mk (blk_below T2.out hd.below)
        clear hd H2 K2 R2 T2
        obtain ⟨_, q1, _, f1, _⟩ := rd_cells H3.out
        have H4 := Aside0.mk (H3.out.setP (p + 1))
        have K4 := Aside0.mk (K3.out.set_ 1 (.int .i64 ((p + 1 : Nat) : Int)))
        have R4 := Aside0.mk (blk_far R3.out (p := ⟨g, 1, none⟩) hne (.int .i64 ((p + 1 : Nat) : Int)))
        have T4 := Aside0.mk (blk_far T3.out (p := ⟨g, 1, none⟩) hgT (.int .i64 ((p + 1 : Nat) : Int)))
        clear H3 K3 R3 T3
        go_wp2_with (fail)
        have HM := rd_sign w0 _ g A c L (p + 1) E ⟨#[35]⟩ H4
        rw [show (if sgB L (p + 1) ⟨#[35]⟩ = true then p + 1 + 1 else p + 1) = p5 from hq5] at HM
        refine HM.mono ?_
        rintro e w5 ⟨rfl, h5, k5⟩
        have H5 := Aside0.mk h5
        have K5 := Aside0.mk (K4.out.trans k5 (Or.inl rfl))
        have R5 := Aside0.mk (k5.blk R4.out hne (by simp))
        have T5 := k5.blk T4.out hgT (by simp)
        have t0 : w5.cell? ⟨w2.heap.size, 1, none⟩ = some (.string t.f1) := (blk_cell T5 1).trans rfl
        clear h5 k5 HM H4 K4 R4 T4 T5 q1 f1
        go_wp2_with (fail)
        refine (operand_shift.calls t.f1 sh _ HSH.out).mono ?_
        rintro e w6 ⟨rfl, hd⟩
        have H6 := Aside0.mk (H5.out.after hd.below)
        have K6 := Aside0.mk (K5.out.trans (KeepBut.of_below hd.below g none) (Or.inl rfl))
        have R6 := Aside0.mk (blk_below R5.out hd.below)
        clear hd H5 K5 R5 t0
        go_wp2_with (fail)
        have HM := rd_value w0 _ g A c L p5 E true H6 hp5
        rw [hr] at HM
        refine HM.mono ?_
        rintro e w7 ⟨k7, rfl, h7⟩
        have H7 := Aside0.mk h7
        have K7 := Aside0.mk (K6.out.trans k7 (Or.inl rfl))
        have R7 := Aside0.mk (k7.blk R6.out hne (by simp))
        clear h7 k7 HM H6 K6 R6
        have r0 : w7.cell? ⟨w.heap.size, 0, none⟩ = some (.int .i64 0) := (blk_cell R7.out 0).trans rfl
        have rf0 : w7.frozen? ⟨w.heap.size, 0, none⟩ = false := blk_frozen R7.out 0
        have r1 : w7.cell? ⟨w.heap.size, 1, none⟩ = some (.int .i64 0) := (blk_cell R7.out 1).trans rfl
        have rf1 : w7.frozen? ⟨w.heap.size, 1, none⟩ = false := blk_frozen R7.out 1
        have r2 : w7.cell? ⟨w.heap.size, 2, none⟩ = some (.bool false) := (blk_cell R7.out 2).trans rfl
        have rf2 : w7.frozen? ⟨w.heap.size, 2, none⟩ = false := blk_frozen R7.out 2
        have r3 : w7.cell? ⟨w.heap.size, 3, none⟩ = some (.bool false) := (blk_cell R7.out 3).trans rfl
        have rf3 : w7.frozen? ⟨w.heap.size, 3, none⟩ = false := blk_frozen R7.out 3
        have r4 : w7.cell? ⟨w.heap.size, 4, none⟩ = some (.int .u64 0) := (blk_cell R7.out 4).trans rfl
        have rf4 : w7.frozen? ⟨w.heap.size, 4, none⟩ = false := blk_frozen R7.out 4
        have r5 : w7.cell? ⟨w.heap.size, 5, none⟩ = some (.string ⟨#[]⟩) := (blk_cell R7.out 5).trans rfl
        have rf5 : w7.frozen? ⟨w.heap.size, 5, none⟩ = false := blk_frozen R7.out 5
        have r6 : w7.cell? ⟨w.heap.size, 6, none⟩ = some (.int .i64 0) := (blk_cell R7.out 6).trans rfl
        have rf6 : w7.frozen? ⟨w.heap.size, 6, none⟩ = false := blk_frozen R7.out 6
        go_wp2
        refine bodyPost_ret (results_cell_row rfl _ _ w.heap.size 44 #[_, _, _, _, _, _, _] (0, 0) _ rfl (blk_put (blk_put (blk_put (blk_put (blk_put (blk_put (blk_put R7.out 0 _ rfl) 1 _ rfl) 2 _ rfl) 3 _ rfl) 4 _ rfl) 5 _ rfl) 6 _ rfl) Tryd.underlying44 rfl (by kernel_rfl)) rfl ?_
        exact ⟨keep_set2 (keep_set2 (keep_set2 (keep_set2 (keep_set2 (keep_set2 (keep_set2 K7.out (Nat.le_refl _)) (Nat.le_refl _)) (Nat.le_refl _)) (Nat.le_refl _)) (Nat.le_refl _)) (Nat.le_refl _)) (Nat.le_refl _), rfl, (((((((H7.out).far _ hwW hne).far _ hwW hne).far _ hwW hne).far _ hwW hne).far _ hwW hne).far _ hwW hne).far _ hwW hne⟩
    · rw [if_neg hk]
      have key : (t.f0 == 1) = false ∨ ((t.f0 == 1) = true ∧ decide (0 ≤ sh) = false) := by
        by_cases h1 : t.f0 = 1
        · exact Or.inr ⟨beq_iff_eq.2 h1, decide_eq_false (fun h => hk ⟨h1, h⟩)⟩
        · exact Or.inl (beq_eq_false_iff_ne.2 h1)
      clear hk
      cases hs1 : sgB L p ⟨#[91]⟩
      · simp only [Bool.false_eq_true, if_false]
        cases hs2 : sgB L p ⟨#[61]⟩
        · simp only [Bool.false_eq_true, if_false]
          obtain ⟨p1, hq1⟩ : ∃ q, (if sgB L p ⟨#[35]⟩ = true then p + 1 else p) = q := ⟨_, rfl⟩
          have hp1 : p1 ≤ L.length := by rw [← hq1]; exact sgN_le hp
          rw [show sgN L p ⟨#[35]⟩ = p1 from hq1]
          cases hs4 : sgB L p1 ⟨#[58]⟩
          · simp only [Bool.false_eq_true, if_false]
            cases hs3 : sgB L p ⟨#[35]⟩
            · simp only [Bool.false_eq_true, if_false]
              rw [hs3, if_neg (by decide)] at hq1
              subst hq1
              cases hr : expP L p E with
              | none =>
                rcases key with c1 | ⟨c1, c2⟩
                all_goals
                  go_enter Tryd.func16, Tryd.ntmps16
                  go_wp2_with (fail)
                  have HM := rd_register w0 W g A c L p E ⟨hH⟩ hp HT
                  rw [hrg] at HM
                  refine HM.mono ?_
                  rintro e w1 ⟨k1, rfl, h1⟩
                  have H1 := Aside0.mk h1
                  have K1 := Aside0.mk (hK.trans k1 (Or.inl rfl))
                  have R1 := Aside0.mk (k1.blk hB hne (by simp))
                  clear h1 k1 HM hW hH hK hB
                  go_wp2_with (fail)
                  have HP := rd_peek w0 w1 g A c L p E H1
                  rw [ht] at HP
                  refine HP.mono ?_
                  rintro e w2 ⟨rfl, hb⟩
                  have H2 := Aside0.mk ((H1.out.after hb).after (below_alloc (Below.refl _ _) (.cells #[.int .i64 t.f0, .string t.f1, .int .u64 t.f2] 29)))
                  have K2 := Aside0.mk (keep_alloc (K1.out.trans (KeepBut.of_below hb g none) (Or.inl rfl)) (.cells #[.int .i64 t.f0, .string t.f1, .int .u64 t.f2] 29))
                  have R2 := Aside0.mk (blk_alloc (blk_below R1.out hb) (.cells #[.int .i64 t.f0, .string t.f1, .int .u64 t.f2] 29))
                  have T2 := Aside0.mk (blk_new w2 (.cells #[.int .i64 t.f0, .string t.f1, .int .u64 t.f2] 29))
                  have hgT : w2.heap.size ≠ g := fun e => by have := Rd.keep (H1.out.after hb); omega
                  clear hb HP H1 K1 R1
                  go_wp2_with (fail)
                  first
                    | (refine (operand_shift.calls t.f1 sh _ HSH.out).mono ?_; rintro e w3 ⟨rfl, hd⟩; have H3 := Aside0.mk (H2.out.after hd.below); have K3 := Aside0.mk (K2.out.trans (KeepBut.of_below hd.below g none) (Or.inl rfl)); have R3 := Aside0.mk (blk_below R2.out hd.below); clear hd H2 K2 R2 T2; go_wp2_with (fail))
                    | (have H3 := H2; have K3 := K2; have R3 := R2; clear H2 K2 R2 T2)
                  have HM := rd_sign w0 _ g A c L (p) E ⟨#[91]⟩ H3
                  rw [hs1, if_neg (by decide)] at HM
                  refine HM.mono ?_
                  rintro e w4 ⟨rfl, h4, k4⟩
                  have H4 := Aside0.mk h4
                  have K4 := Aside0.mk (K3.out.trans k4 (Or.inl rfl))
                  have R4 := Aside0.mk (k4.blk R3.out hne (by simp))
                  clear h4 k4 HM H3 K3 R3
                  go_wp2_with (fail)
                  have HM := rd_sign w0 _ g A c L (p) E ⟨#[61]⟩ H4
                  rw [hs2, if_neg (by decide)] at HM
                  refine HM.mono ?_
                  rintro e w5 ⟨rfl, h5, k5⟩
                  have H5 := Aside0.mk h5
                  have K5 := Aside0.mk (K4.out.trans k5 (Or.inl rfl))
                  have R5 := Aside0.mk (k5.blk R4.out hne (by simp))
                  clear h5 k5 HM H4 K4 R4
                  go_wp2_with (fail)
                  have HM := rd_sign w0 _ g A c L (p) E ⟨#[35]⟩ H5
                  rw [hs3, if_neg (by decide)] at HM
                  refine HM.mono ?_
                  rintro e w6 ⟨rfl, h6, k6⟩
                  have H6 := Aside0.mk h6
                  have K6 := Aside0.mk (K5.out.trans k6 (Or.inl rfl))
                  have R6 := Aside0.mk (k6.blk R5.out hne (by simp))
                  clear h6 k6 HM H5 K5 R5
                  go_wp2_with (fail)
                  have HM := rd_sign w0 _ g A c L (p) E ⟨#[58]⟩ H6
                  rw [hs4, if_neg (by decide)] at HM
                  refine HM.mono ?_
                  rintro e w7 ⟨rfl, h7, k7⟩
                  have H7 := Aside0.mk h7
                  have K7 := Aside0.mk (K6.out.trans k7 (Or.inl rfl))
                  have R7 := Aside0.mk (k7.blk R6.out hne (by simp))
                  clear h7 k7 HM H6 K6 R6
                  go_wp2_with (fail)
                  have HM := rd_expression w0 _ g A c L p E H7 hp HT
                  rw [hr] at HM
                  refine HM.mono ?_
                  rintro e w8 ⟨k8, ⟨ty, v, rfl⟩, hb⟩
                  go_wp2
                  exact ⟨rfl, K7.out.trans k8 (Or.inl rfl), ⟨_, _, rfl⟩, hb⟩
              | some y =>
                obtain ⟨ex, q, E'⟩ := y
                cases ex with
                | inl nn =>
                  obtain ⟨mi, v⟩ := nn
                  rcases key with c1 | ⟨c1, c2⟩
                  all_goals
                    go_enter Tryd.func16, Tryd.ntmps16
                    go_wp2_with (fail)
                    have HM := rd_register w0 W g A c L p E ⟨hH⟩ hp HT
                    rw [hrg] at HM
                    refine HM.mono ?_
                    rintro e w1 ⟨k1, rfl, h1⟩
                    have H1 := Aside0.mk h1
                    have K1 := Aside0.mk (hK.trans k1 (Or.inl rfl))
                    have R1 := Aside0.mk (k1.blk hB hne (by simp))
                    clear h1 k1 HM hW hH hK hB
                    go_wp2_with (fail)
                    have HP := rd_peek w0 w1 g A c L p E H1
                    rw [ht] at HP
                    refine HP.mono ?_
                    rintro e w2 ⟨rfl, hb⟩
                    have H2 := Aside0.mk ((H1.out.after hb).after (below_alloc (Below.refl _ _) (.cells #[.int .i64 t.f0, .string t.f1, .int .u64 t.f2] 29)))
                    have K2 := Aside0.mk (keep_alloc (K1.out.trans (KeepBut.of_below hb g none) (Or.inl rfl)) (.cells #[.int .i64 t.f0, .string t.f1, .int .u64 t.f2] 29))
                    have R2 := Aside0.mk (blk_alloc (blk_below R1.out hb) (.cells #[.int .i64 t.f0, .string t.f1, .int .u64 t.f2] 29))
                    have T2 := Aside0.mk (blk_new w2 (.cells #[.int .i64 t.f0, .string t.f1, .int .u64 t.f2] 29))
                    have hgT : w2.heap.size ≠ g := fun e => by have := Rd.keep (H1.out.after hb); omega
                    clear hb HP H1 K1 R1
                    go_wp2_with (fail)
                    first
                      | (refine (operand_shift.calls t.f1 sh _ HSH.out).mono ?_; rintro e w3 ⟨rfl, hd⟩; have H3 := Aside0.mk (H2.out.after hd.below); have K3 := Aside0.mk (K2.out.trans (KeepBut.of_below hd.below g none) (Or.inl rfl)); have R3 := Aside0.mk (blk_below R2.out hd.below); clear hd H2 K2 R2 T2; go_wp2_with (fail))
                      | (have H3 := H2; have K3 := K2; have R3 := R2; clear H2 K2 R2 T2)
                    have HM := rd_sign w0 _ g A c L (p) E ⟨#[91]⟩ H3
                    rw [hs1, if_neg (by decide)] at HM
                    refine HM.mono ?_
                    rintro e w4 ⟨rfl, h4, k4⟩
                    have H4 := Aside0.mk h4
                    have K4 := Aside0.mk (K3.out.trans k4 (Or.inl rfl))
                    have R4 := Aside0.mk (k4.blk R3.out hne (by simp))
                    clear h4 k4 HM H3 K3 R3
                    go_wp2_with (fail)
                    have HM := rd_sign w0 _ g A c L (p) E ⟨#[61]⟩ H4
                    rw [hs2, if_neg (by decide)] at HM
                    refine HM.mono ?_
                    rintro e w5 ⟨rfl, h5, k5⟩
                    have H5 := Aside0.mk h5
                    have K5 := Aside0.mk (K4.out.trans k5 (Or.inl rfl))
                    have R5 := Aside0.mk (k5.blk R4.out hne (by simp))
                    clear h5 k5 HM H4 K4 R4
                    go_wp2_with (fail)
                    have HM := rd_sign w0 _ g A c L (p) E ⟨#[35]⟩ H5
                    rw [hs3, if_neg (by decide)] at HM
                    refine HM.mono ?_
                    rintro e w6 ⟨rfl, h6, k6⟩
                    have H6 := Aside0.mk h6
                    have K6 := Aside0.mk (K5.out.trans k6 (Or.inl rfl))
                    have R6 := Aside0.mk (k6.blk R5.out hne (by simp))
                    clear h6 k6 HM H5 K5 R5
                    go_wp2_with (fail)
                    have HM := rd_sign w0 _ g A c L (p) E ⟨#[58]⟩ H6
                    rw [hs4, if_neg (by decide)] at HM
                    refine HM.mono ?_
                    rintro e w7 ⟨rfl, h7, k7⟩
                    have H7 := Aside0.mk h7
                    have K7 := Aside0.mk (K6.out.trans k7 (Or.inl rfl))
                    have R7 := Aside0.mk (k7.blk R6.out hne (by simp))
                    clear h7 k7 HM H6 K6 R6
                    go_wp2_with (fail)
                    have HM := rd_expression w0 _ g A c L p E H7 hp HT
                    rw [hr] at HM
                    refine HM.mono ?_
                    rintro e w8 ⟨k8, he, h8⟩
                    obtain rfl : e = .returned (.iface 64 (.agg #[.bool mi, .int .u64 v])) := he
                    have H8 := Aside0.mk h8
                    have K8 := Aside0.mk (K7.out.trans k8 (Or.inl rfl))
                    have R8 := Aside0.mk (k8.blk R7.out hne (by simp))
                    clear h8 k8 HM H7 K7 R7
                    go_wp2_with (fail)
                    refine (operand_number_operand.calls mi v 2 0 false mi v ⟨#[]⟩ 0 _ rfl).mono ?_
                    rintro e w9 ⟨rfl, hb⟩
                    have H9 := Aside0.mk (H8.out.after hb)
                    have K9 := Aside0.mk (K8.out.trans (KeepBut.of_below hb g none) (Or.inl rfl))
                    have R9 := Aside0.mk (blk_below R8.out hb)
                    clear hb H8 K8 R8
                    have r0 : w9.cell? ⟨w.heap.size, 0, none⟩ = some (.int .i64 0) := (blk_cell R9.out 0).trans rfl
                    have rf0 : w9.frozen? ⟨w.heap.size, 0, none⟩ = false := blk_frozen R9.out 0
                    have r1 : w9.cell? ⟨w.heap.size, 1, none⟩ = some (.int .i64 0) := (blk_cell R9.out 1).trans rfl
                    have rf1 : w9.frozen? ⟨w.heap.size, 1, none⟩ = false := blk_frozen R9.out 1
                    have r2 : w9.cell? ⟨w.heap.size, 2, none⟩ = some (.bool false) := (blk_cell R9.out 2).trans rfl
                    have rf2 : w9.frozen? ⟨w.heap.size, 2, none⟩ = false := blk_frozen R9.out 2
                    have r3 : w9.cell? ⟨w.heap.size, 3, none⟩ = some (.bool false) := (blk_cell R9.out 3).trans rfl
                    have rf3 : w9.frozen? ⟨w.heap.size, 3, none⟩ = false := blk_frozen R9.out 3
                    have r4 : w9.cell? ⟨w.heap.size, 4, none⟩ = some (.int .u64 0) := (blk_cell R9.out 4).trans rfl
                    have rf4 : w9.frozen? ⟨w.heap.size, 4, none⟩ = false := blk_frozen R9.out 4
                    have r5 : w9.cell? ⟨w.heap.size, 5, none⟩ = some (.string ⟨#[]⟩) := (blk_cell R9.out 5).trans rfl
                    have rf5 : w9.frozen? ⟨w.heap.size, 5, none⟩ = false := blk_frozen R9.out 5
                    have r6 : w9.cell? ⟨w.heap.size, 6, none⟩ = some (.int .i64 0) := (blk_cell R9.out 6).trans rfl
                    have rf6 : w9.frozen? ⟨w.heap.size, 6, none⟩ = false := blk_frozen R9.out 6
                    go_wp2
                    refine bodyPost_ret (results_cell_row rfl _ _ w.heap.size 44 #[_, _, _, _, _, _, _] (0, 0) _ rfl (blk_put (blk_put (blk_put (blk_put (blk_put (blk_put (blk_put R9.out 0 _ rfl) 1 _ rfl) 2 _ rfl) 3 _ rfl) 4 _ rfl) 5 _ rfl) 6 _ rfl) Tryd.underlying44 rfl (by kernel_rfl)) rfl ?_
                    exact ⟨keep_set2 (keep_set2 (keep_set2 (keep_set2 (keep_set2 (keep_set2 (keep_set2 K9.out (Nat.le_refl _)) (Nat.le_refl _)) (Nat.le_refl _)) (Nat.le_refl _)) (Nat.le_refl _)) (Nat.le_refl _)) (Nat.le_refl _), rfl, (((((((H9.out).far _ hwW hne).far _ hwW hne).far _ hwW hne).far _ hwW hne).far _ hwW hne).far _ hwW hne).far _ hwW hne⟩
                | inr ss =>
                  obtain ⟨nm, ad⟩ := ss
                  rcases key with c1 | ⟨c1, c2⟩
                  all_goals
                    go_enter Tryd.func16, Tryd.ntmps16
                    go_wp2_with (fail)
                    have HM := rd_register w0 W g A c L p E ⟨hH⟩ hp HT
                    rw [hrg] at HM
                    refine HM.mono ?_
                    rintro e w1 ⟨k1, rfl, h1⟩
                    have H1 := Aside0.mk h1
                    have K1 := Aside0.mk (hK.trans k1 (Or.inl rfl))
                    have R1 := Aside0.mk (k1.blk hB hne (by simp))
                    clear h1 k1 HM hW hH hK hB
                    go_wp2_with (fail)
                    have HP := rd_peek w0 w1 g A c L p E H1
                    rw [ht] at HP
                    refine HP.mono ?_
                    rintro e w2 ⟨rfl, hb⟩
                    have H2 := Aside0.mk ((H1.out.after hb).after (below_alloc (Below.refl _ _) (.cells #[.int .i64 t.f0, .string t.f1, .int .u64 t.f2] 29)))
                    have K2 := Aside0.mk (keep_alloc (K1.out.trans (KeepBut.of_below hb g none) (Or.inl rfl)) (.cells #[.int .i64 t.f0, .string t.f1, .int .u64 t.f2] 29))
                    have R2 := Aside0.mk (blk_alloc (blk_below R1.out hb) (.cells #[.int .i64 t.f0, .string t.f1, .int .u64 t.f2] 29))
                    have T2 := Aside0.mk (blk_new w2 (.cells #[.int .i64 t.f0, .string t.f1, .int .u64 t.f2] 29))
                    have hgT : w2.heap.size ≠ g := fun e => by have := Rd.keep (H1.out.after hb); omega
                    clear hb HP H1 K1 R1
                    go_wp2_with (fail)
                    first
                      | (refine (operand_shift.calls t.f1 sh _ HSH.out).mono ?_; rintro e w3 ⟨rfl, hd⟩; have H3 := Aside0.mk (H2.out.after hd.below); have K3 := Aside0.mk (K2.out.trans (KeepBut.of_below hd.below g none) (Or.inl rfl)); have R3 := Aside0.mk (blk_below R2.out hd.below); clear hd H2 K2 R2 T2; go_wp2_with (fail))
                      | (have H3 := H2; have K3 := K2; have R3 := R2; clear H2 K2 R2 T2)
                    have HM := rd_sign w0 _ g A c L (p) E ⟨#[91]⟩ H3
                    rw [hs1, if_neg (by decide)] at HM
                    refine HM.mono ?_
                    rintro e w4 ⟨rfl, h4, k4⟩
                    have H4 := Aside0.mk h4
                    have K4 := Aside0.mk (K3.out.trans k4 (Or.inl rfl))
                    have R4 := Aside0.mk (k4.blk R3.out hne (by simp))
                    clear h4 k4 HM H3 K3 R3
                    go_wp2_with (fail)
                    have HM := rd_sign w0 _ g A c L (p) E ⟨#[61]⟩ H4
                    rw [hs2, if_neg (by decide)] at HM
                    refine HM.mono ?_
                    rintro e w5 ⟨rfl, h5, k5⟩
                    have H5 := Aside0.mk h5
                    have K5 := Aside0.mk (K4.out.trans k5 (Or.inl rfl))
                    have R5 := Aside0.mk (k5.blk R4.out hne (by simp))
                    clear h5 k5 HM H4 K4 R4
                    go_wp2_with (fail)
                    have HM := rd_sign w0 _ g A c L (p) E ⟨#[35]⟩ H5
                    rw [hs3, if_neg (by decide)] at HM
                    refine HM.mono ?_
                    rintro e w6 ⟨rfl, h6, k6⟩
                    have H6 := Aside0.mk h6
                    have K6 := Aside0.mk (K5.out.trans k6 (Or.inl rfl))
                    have R6 := Aside0.mk (k6.blk R5.out hne (by simp))
                    clear h6 k6 HM H5 K5 R5
                    go_wp2_with (fail)
                    have HM := rd_sign w0 _ g A c L (p) E ⟨#[58]⟩ H6
                    rw [hs4, if_neg (by decide)] at HM
                    refine HM.mono ?_
                    rintro e w7 ⟨rfl, h7, k7⟩
                    have H7 := Aside0.mk h7
                    have K7 := Aside0.mk (K6.out.trans k7 (Or.inl rfl))
                    have R7 := Aside0.mk (k7.blk R6.out hne (by simp))
                    clear h7 k7 HM H6 K6 R6
                    go_wp2_with (fail)
                    have HM := rd_expression w0 _ g A c L p E H7 hp HT
                    rw [hr] at HM
                    refine HM.mono ?_
                    rintro e w8 ⟨k8, he, h8⟩
                    obtain rfl : e = .returned (.iface 61 (.agg #[.string nm, .int .i64 ad])) := he
                    have H8 := Aside0.mk h8
                    have K8 := Aside0.mk (K7.out.trans k8 (Or.inl rfl))
                    have R8 := Aside0.mk (k8.blk R7.out hne (by simp))
                    clear h8 k8 HM H7 K7 R7
                    go_wp2_with (fail)
                    refine (operand_symbol_operand.calls nm ad 3 0 false false 0 nm ad _ rfl).mono ?_
                    rintro e w9 ⟨rfl, hb⟩
                    have H9 := Aside0.mk (H8.out.after hb)
                    have K9 := Aside0.mk (K8.out.trans (KeepBut.of_below hb g none) (Or.inl rfl))
                    have R9 := Aside0.mk (blk_below R8.out hb)
                    clear hb H8 K8 R8
                    have r0 : w9.cell? ⟨w.heap.size, 0, none⟩ = some (.int .i64 0) := (blk_cell R9.out 0).trans rfl
                    have rf0 : w9.frozen? ⟨w.heap.size, 0, none⟩ = false := blk_frozen R9.out 0
                    have r1 : w9.cell? ⟨w.heap.size, 1, none⟩ = some (.int .i64 0) := (blk_cell R9.out 1).trans rfl
                    have rf1 : w9.frozen? ⟨w.heap.size, 1, none⟩ = false := blk_frozen R9.out 1
                    have r2 : w9.cell? ⟨w.heap.size, 2, none⟩ = some (.bool false) := (blk_cell R9.out 2).trans rfl
                    have rf2 : w9.frozen? ⟨w.heap.size, 2, none⟩ = false := blk_frozen R9.out 2
                    have r3 : w9.cell? ⟨w.heap.size, 3, none⟩ = some (.bool false) := (blk_cell R9.out 3).trans rfl
                    have rf3 : w9.frozen? ⟨w.heap.size, 3, none⟩ = false := blk_frozen R9.out 3
                    have r4 : w9.cell? ⟨w.heap.size, 4, none⟩ = some (.int .u64 0) := (blk_cell R9.out 4).trans rfl
                    have rf4 : w9.frozen? ⟨w.heap.size, 4, none⟩ = false := blk_frozen R9.out 4
                    have r5 : w9.cell? ⟨w.heap.size, 5, none⟩ = some (.string ⟨#[]⟩) := (blk_cell R9.out 5).trans rfl
                    have rf5 : w9.frozen? ⟨w.heap.size, 5, none⟩ = false := blk_frozen R9.out 5
                    have r6 : w9.cell? ⟨w.heap.size, 6, none⟩ = some (.int .i64 0) := (blk_cell R9.out 6).trans rfl
                    have rf6 : w9.frozen? ⟨w.heap.size, 6, none⟩ = false := blk_frozen R9.out 6
                    go_wp2
                    refine bodyPost_ret (results_cell_row rfl _ _ w.heap.size 44 #[_, _, _, _, _, _, _] (0, 0) _ rfl (blk_put (blk_put (blk_put (blk_put (blk_put (blk_put (blk_put R9.out 0 _ rfl) 1 _ rfl) 2 _ rfl) 3 _ rfl) 4 _ rfl) 5 _ rfl) 6 _ rfl) Tryd.underlying44 rfl (by kernel_rfl)) rfl ?_
                    exact ⟨keep_set2 (keep_set2 (keep_set2 (keep_set2 (keep_set2 (keep_set2 (keep_set2 K9.out (Nat.le_refl _)) (Nat.le_refl _)) (Nat.le_refl _)) (Nat.le_refl _)) (Nat.le_refl _)) (Nat.le_refl _)) (Nat.le_refl _), rfl, (((((((H9.out).far _ hwW hne).far _ hwW hne).far _ hwW hne).far _ hwW hne).far _ hwW hne).far _ hwW hne).far _ hwW hne⟩
            · simp only [if_true]
              rw [hs3, if_pos rfl] at hq1
              subst hq1
              cases hr : numP L (p + 1) E with
              | none =>
                rcases key with c1 | ⟨c1, c2⟩
                all_goals
                  go_enter Tryd.func16, Tryd.ntmps16
                  go_wp2_with (fail)
                  have HM := rd_register w0 W g A c L p E ⟨hH⟩ hp HT
                  rw [hrg] at HM
                  refine HM.mono ?_
                  rintro e w1 ⟨k1, rfl, h1⟩
                  have H1 := Aside0.mk h1
                  have K1 := Aside0.mk (hK.trans k1 (Or.inl rfl))
                  have R1 := Aside0.mk (k1.blk hB hne (by simp))
                  clear h1 k1 HM hW hH hK hB
                  go_wp2_with (fail)
                  have HP := rd_peek w0 w1 g A c L p E H1
                  rw [ht] at HP
                  refine HP.mono ?_
                  rintro e w2 ⟨rfl, hb⟩
                  have H2 := Aside0.mk ((H1.out.after hb).after (below_alloc (Below.refl _ _) (.cells #[.int .i64 t.f0, .string t.f1, .int .u64 t.f2] 29)))
                  have K2 := Aside0.mk (keep_alloc (K1.out.trans (KeepBut.of_below hb g none) (Or.inl rfl)) (.cells #[.int .i64 t.f0, .string t.f1, .int .u64 t.f2] 29))
                  have R2 := Aside0.mk (blk_alloc (blk_below R1.out hb) (.cells #[.int .i64 t.f0, .string t.f1, .int .u64 t.f2] 29))
                  have T2 := Aside0.mk (blk_new w2 (.cells #[.int .i64 t.f0, .string t.f1, .int .u64 t.f2] 29))
                  have hgT : w2.heap.size ≠ g := fun e => by have := Rd.keep (H1.out.after hb); omega
                  clear hb HP H1 K1 R1
                  go_wp2_with (fail)
                  first
                    | (refine (operand_shift.calls t.f1 sh _ HSH.out).mono ?_; rintro e w3 ⟨rfl, hd⟩; have H3 := Aside0.mk (H2.out.after hd.below); have K3 := Aside0.mk (K2.out.trans (KeepBut.of_below hd.below g none) (Or.inl rfl)); have R3 := Aside0.mk (blk_below R2.out hd.below); clear hd H2 K2 R2 T2; go_wp2_with (fail))
                    | (have H3 := H2; have K3 := K2; have R3 := R2; clear H2 K2 R2 T2)
                  have HM := rd_sign w0 _ g A c L (p) E ⟨#[91]⟩ H3
                  rw [hs1, if_neg (by decide)] at HM
                  refine HM.mono ?_
                  rintro e w4 ⟨rfl, h4, k4⟩
                  have H4 := Aside0.mk h4
                  have K4 := Aside0.mk (K3.out.trans k4 (Or.inl rfl))
                  have R4 := Aside0.mk (k4.blk R3.out hne (by simp))
                  clear h4 k4 HM H3 K3 R3
                  go_wp2_with (fail)
                  have HM := rd_sign w0 _ g A c L (p) E ⟨#[61]⟩ H4
                  rw [hs2, if_neg (by decide)] at HM
                  refine HM.mono ?_
                  rintro e w5 ⟨rfl, h5, k5⟩
                  have H5 := Aside0.mk h5
                  have K5 := Aside0.mk (K4.out.trans k5 (Or.inl rfl))
                  have R5 := Aside0.mk (k5.blk R4.out hne (by simp))
                  clear h5 k5 HM H4 K4 R4
                  go_wp2_with (fail)
                  have HM := rd_sign w0 _ g A c L (p) E ⟨#[35]⟩ H5
                  rw [hs3, if_pos rfl] at HM
                  refine HM.mono ?_
                  rintro e w6 ⟨rfl, h6, k6⟩
                  have H6 := Aside0.mk h6
                  have K6 := Aside0.mk (K5.out.trans k6 (Or.inl rfl))
                  have R6 := Aside0.mk (k6.blk R5.out hne (by simp))
                  clear h6 k6 HM H5 K5 R5
                  go_wp2_with (fail)
                  have HM := rd_sign w0 _ g A c L (p + 1) E ⟨#[58]⟩ H6
                  rw [hs4, if_neg (by decide)] at HM
                  refine HM.mono ?_
                  rintro e w7 ⟨rfl, h7, k7⟩
                  have H7 := Aside0.mk h7
                  have K7 := Aside0.mk (K6.out.trans k7 (Or.inl rfl))
                  have R7 := Aside0.mk (k7.blk R6.out hne (by simp))
                  clear h7 k7 HM H6 K6 R6
                  go_wp2_with (fail)
                  have HM := rd_number w0 _ g A c L (p + 1) E H7 hp1
                  rw [hr] at HM
                  refine HM.mono ?_
                  rintro e w8 ⟨k8, ⟨ty, v, rfl⟩, hb⟩
                  go_wp2
                  exact ⟨rfl, K7.out.trans k8 (Or.inl rfl), ⟨_, _, rfl⟩, hb⟩
              | some y =>
                obtain ⟨⟨mi, v⟩, q, E'⟩ := y
                rcases key with c1 | ⟨c1, c2⟩
                all_goals
                  go_enter Tryd.func16, Tryd.ntmps16
                  go_wp2_with (fail)
                  have HM := rd_register w0 W g A c L p E ⟨hH⟩ hp HT
                  rw [hrg] at HM
                  refine HM.mono ?_
                  rintro e w1 ⟨k1, rfl, h1⟩
                  have H1 := Aside0.mk h1
                  have K1 := Aside0.mk (hK.trans k1 (Or.inl rfl))
                  have R1 := Aside0.mk (k1.blk hB hne (by simp))
                  clear h1 k1 HM hW hH hK hB
                  go_wp2_with (fail)
                  have HP := rd_peek w0 w1 g A c L p E H1
                  rw [ht] at HP
                  refine HP.mono ?_
                  rintro e w2 ⟨rfl, hb⟩
                  have H2 := Aside0.mk ((H1.out.after hb).after (below_alloc (Below.refl _ _) (.cells #[.int .i64 t.f0, .string t.f1, .int .u64 t.f2] 29)))
                  have K2 := Aside0.mk (keep_alloc (K1.out.trans (KeepBut.of_below hb g none) (Or.inl rfl)) (.cells #[.int .i64 t.f0, .string t.f1, .int .u64 t.f2] 29))
                  have R2 := Aside0.mk (blk_alloc (blk_below R1.out hb) (.cells #[.int .i64 t.f0, .string t.f1, .int .u64 t.f2] 29))
                  have T2 := Aside0.mk (blk_new w2 (.cells #[.int .i64 t.f0, .string t.f1, .int .u64 t.f2] 29))
                  have hgT : w2.heap.size ≠ g := fun e => by have := Rd.keep (H1.out.after hb); omega
                  clear hb HP H1 K1 R1
                  go_wp2_with (fail)
                  first
                    | (refine (operand_shift.calls t.f1 sh _ HSH.out).mono ?_; rintro e w3 ⟨rfl, hd⟩; have H3 := Aside0.mk (H2.out.after hd.below); have K3 := Aside0.mk (K2.out.trans (KeepBut.of_below hd.below g none) (Or.inl rfl)); have R3 := Aside0.mk (blk_below R2.out hd.below); clear hd H2 K2 R2 T2; go_wp2_with (fail))
                    | (have H3 := H2; have K3 := K2; have R3 := R2; clear H2 K2 R2 T2)
                  have HM := rd_sign w0 _ g A c L (p) E ⟨#[91]⟩ H3
                  rw [hs1, if_neg (by decide)] at HM
                  refine HM.mono ?_
                  rintro e w4 ⟨rfl, h4, k4⟩
                  have H4 := Aside0.mk h4
                  have K4 := Aside0.mk (K3.out.trans k4 (Or.inl rfl))
                  have R4 := Aside0.mk (k4.blk R3.out hne (by simp))
                  clear h4 k4 HM H3 K3 R3
                  go_wp2_with (fail)
                  have HM := rd_sign w0 _ g A c L (p) E ⟨#[61]⟩ H4
                  rw [hs2, if_neg (by decide)] at HM
                  refine HM.mono ?_
                  rintro e w5 ⟨rfl, h5, k5⟩
                  have H5 := Aside0.mk h5
                  have K5 := Aside0.mk (K4.out.trans k5 (Or.inl rfl))
                  have R5 := Aside0.mk (k5.blk R4.out hne (by simp))
                  clear h5 k5 HM H4 K4 R4
                  go_wp2_with (fail)
                  have HM := rd_sign w0 _ g A c L (p) E ⟨#[35]⟩ H5
                  rw [hs3, if_pos rfl] at HM
                  refine HM.mono ?_
                  rintro e w6 ⟨rfl, h6, k6⟩
                  have H6 := Aside0.mk h6
                  have K6 := Aside0.mk (K5.out.trans k6 (Or.inl rfl))
                  have R6 := Aside0.mk (k6.blk R5.out hne (by simp))
                  clear h6 k6 HM H5 K5 R5
                  go_wp2_with (fail)
                  have HM := rd_sign w0 _ g A c L (p + 1) E ⟨#[58]⟩ H6
                  rw [hs4, if_neg (by decide)] at HM
                  refine HM.mono ?_
                  rintro e w7 ⟨rfl, h7, k7⟩
                  have H7 := Aside0.mk h7
                  have K7 := Aside0.mk (K6.out.trans k7 (Or.inl rfl))
                  have R7 := Aside0.mk (k7.blk R6.out hne (by simp))
                  clear h7 k7 HM H6 K6 R6
                  go_wp2_with (fail)
                  have HM := rd_number w0 _ g A c L (p + 1) E H7 hp1
                  rw [hr] at HM
                  refine HM.mono ?_
                  rintro e w8 ⟨k8, rfl, h8⟩
                  have H8 := Aside0.mk h8
                  have K8 := Aside0.mk (K7.out.trans k8 (Or.inl rfl))
                  have R8 := Aside0.mk (k8.blk R7.out hne (by simp))
                  clear h8 k8 HM H7 K7 R7
                  go_wp2_with (fail)
                  refine (operand_number_operand.calls mi v 2 0 false mi v ⟨#[]⟩ 0 _ rfl).mono ?_
                  rintro e w9 ⟨rfl, hb⟩
                  have H9 := Aside0.mk (H8.out.after hb)
                  have K9 := Aside0.mk (K8.out.trans (KeepBut.of_below hb g none) (Or.inl rfl))
                  have R9 := Aside0.mk (blk_below R8.out hb)
                  clear hb H8 K8 R8
                  have r0 : w9.cell? ⟨w.heap.size, 0, none⟩ = some (.int .i64 0) := (blk_cell R9.out 0).trans rfl
                  have rf0 : w9.frozen? ⟨w.heap.size, 0, none⟩ = false := blk_frozen R9.out 0
                  have r1 : w9.cell? ⟨w.heap.size, 1, none⟩ = some (.int .i64 0) := (blk_cell R9.out 1).trans rfl
                  have rf1 : w9.frozen? ⟨w.heap.size, 1, none⟩ = false := blk_frozen R9.out 1
                  have r2 : w9.cell? ⟨w.heap.size, 2, none⟩ = some (.bool false) := (blk_cell R9.out 2).trans rfl
                  have rf2 : w9.frozen? ⟨w.heap.size, 2, none⟩ = false := blk_frozen R9.out 2
                  have r3 : w9.cell? ⟨w.heap.size, 3, none⟩ = some (.bool false) := (blk_cell R9.out 3).trans rfl
                  have rf3 : w9.frozen? ⟨w.heap.size, 3, none⟩ = false := blk_frozen R9.out 3
                  have r4 : w9.cell? ⟨w.heap.size, 4, none⟩ = some (.int .u64 0) := (blk_cell R9.out 4).trans rfl
                  have rf4 : w9.frozen? ⟨w.heap.size, 4, none⟩ = false := blk_frozen R9.out 4
                  have r5 : w9.cell? ⟨w.heap.size, 5, none⟩ = some (.string ⟨#[]⟩) := (blk_cell R9.out 5).trans rfl
                  have rf5 : w9.frozen? ⟨w.heap.size, 5, none⟩ = false := blk_frozen R9.out 5
                  have r6 : w9.cell? ⟨w.heap.size, 6, none⟩ = some (.int .i64 0) := (blk_cell R9.out 6).trans rfl
                  have rf6 : w9.frozen? ⟨w.heap.size, 6, none⟩ = false := blk_frozen R9.out 6
                  go_wp2
                  refine bodyPost_ret (results_cell_row rfl _ _ w.heap.size 44 #[_, _, _, _, _, _, _] (0, 0) _ rfl (blk_put (blk_put (blk_put (blk_put (blk_put (blk_put (blk_put R9.out 0 _ rfl) 1 _ rfl) 2 _ rfl) 3 _ rfl) 4 _ rfl) 5 _ rfl) 6 _ rfl) Tryd.underlying44 rfl (by kernel_rfl)) rfl ?_
                  exact ⟨keep_set2 (keep_set2 (keep_set2 (keep_set2 (keep_set2 (keep_set2 (keep_set2 K9.out (Nat.le_refl _)) (Nat.le_refl _)) (Nat.le_refl _)) (Nat.le_refl _)) (Nat.le_refl _)) (Nat.le_refl _)) (Nat.le_refl _), rfl, (((((((H9.out).far _ hwW hne).far _ hwW hne).far _ hwW hne).far _ hwW hne).far _ hwW hne).far _ hwW hne).far _ hwW hne⟩
          · simp only [if_true]
            have hp2 : p1 + 1 ≤ L.length := by have := sgB_lt hs4; omega
            cases hr : lowP L (p1 + 1) E with
            | none =>
              rcases key with c1 | ⟨c1, c2⟩
              all_goals
                go_enter Tryd.func16, Tryd.ntmps16
                go_wp2_with (fail)
                have HM := rd_register w0 W g A c L p E ⟨hH⟩ hp HT
                rw [hrg] at HM
                refine HM.mono ?_
                rintro e w1 ⟨k1, rfl, h1⟩
                have H1 := Aside0.mk h1
                have K1 := Aside0.mk (hK.trans k1 (Or.inl rfl))
                have R1 := Aside0.mk (k1.blk hB hne (by simp))
                clear h1 k1 HM hW hH hK hB
                go_wp2_with (fail)
                have HP := rd_peek w0 w1 g A c L p E H1
                rw [ht] at HP
                refine HP.mono ?_
                rintro e w2 ⟨rfl, hb⟩
                have H2 := Aside0.mk ((H1.out.after hb).after (below_alloc (Below.refl _ _) (.cells #[.int .i64 t.f0, .string t.f1, .int .u64 t.f2] 29)))
                have K2 := Aside0.mk (keep_alloc (K1.out.trans (KeepBut.of_below hb g none) (Or.inl rfl)) (.cells #[.int .i64 t.f0, .string t.f1, .int .u64 t.f2] 29))
                have R2 := Aside0.mk (blk_alloc (blk_below R1.out hb) (.cells #[.int .i64 t.f0, .string t.f1, .int .u64 t.f2] 29))
                have T2 := Aside0.mk (blk_new w2 (.cells #[.int .i64 t.f0, .string t.f1, .int .u64 t.f2] 29))
                have hgT : w2.heap.size ≠ g := fun e => by have := Rd.keep (H1.out.after hb); omega
                clear hb HP H1 K1 R1
                go_wp2_with (fail)
                first
                  | (refine (operand_shift.calls t.f1 sh _ HSH.out).mono ?_; rintro e w3 ⟨rfl, hd⟩; have H3 := Aside0.mk (H2.out.after hd.below); have K3 := Aside0.mk (K2.out.trans (KeepBut.of_below hd.below g none) (Or.inl rfl)); have R3 := Aside0.mk (blk_below R2.out hd.below); clear hd H2 K2 R2 T2; go_wp2_with (fail))
                  | (have H3 := H2; have K3 := K2; have R3 := R2; clear H2 K2 R2 T2)
                have HM := rd_sign w0 _ g A c L (p) E ⟨#[91]⟩ H3
                rw [hs1, if_neg (by decide)] at HM
                refine HM.mono ?_
                rintro e w4 ⟨rfl, h4, k4⟩
                have H4 := Aside0.mk h4
                have K4 := Aside0.mk (K3.out.trans k4 (Or.inl rfl))
                have R4 := Aside0.mk (k4.blk R3.out hne (by simp))
                clear h4 k4 HM H3 K3 R3
                go_wp2_with (fail)
                have HM := rd_sign w0 _ g A c L (p) E ⟨#[61]⟩ H4
                rw [hs2, if_neg (by decide)] at HM
                refine HM.mono ?_
                rintro e w5 ⟨rfl, h5, k5⟩
                have H5 := Aside0.mk h5
                have K5 := Aside0.mk (K4.out.trans k5 (Or.inl rfl))
                have R5 := Aside0.mk (k5.blk R4.out hne (by simp))
                clear h5 k5 HM H4 K4 R4
                go_wp2_with (fail)
                have HM := rd_sign w0 _ g A c L (p) E ⟨#[35]⟩ H5
                rw [hq1] at HM
                refine HM.mono ?_
                rintro e w6 ⟨rfl, h6, k6⟩
                have H6 := Aside0.mk h6
                have K6 := Aside0.mk (K5.out.trans k6 (Or.inl rfl))
                have R6 := Aside0.mk (k6.blk R5.out hne (by simp))
                clear h6 k6 HM H5 K5 R5
                go_wp2_with (fail)
                have HM := rd_sign w0 _ g A c L (p1) E ⟨#[58]⟩ H6
                rw [hs4, if_pos rfl] at HM
                refine HM.mono ?_
                rintro e w7 ⟨rfl, h7, k7⟩
                have H7 := Aside0.mk h7
                have K7 := Aside0.mk (K6.out.trans k7 (Or.inl rfl))
                have R7 := Aside0.mk (k7.blk R6.out hne (by simp))
                clear h7 k7 HM H6 K6 R6
                go_wp2_with (fail)
                have HM := rd_low w0 _ g A c L (p1 + 1) E H7 hp2 HT
                rw [hr] at HM
                refine HM.mono ?_
                rintro e w8 ⟨k8, ⟨ty, v, rfl⟩, hb⟩
                go_wp2
                exact ⟨rfl, K7.out.trans k8 (Or.inl rfl), ⟨_, _, rfl⟩, hb⟩
            | some y =>
              obtain ⟨⟨nm, ad⟩, q, E'⟩ := y
              rcases key with c1 | ⟨c1, c2⟩
              all_goals
                go_enter Tryd.func16, Tryd.ntmps16
                go_wp2_with (fail)
                have HM := rd_register w0 W g A c L p E ⟨hH⟩ hp HT
                rw [hrg] at HM
                refine HM.mono ?_
                rintro e w1 ⟨k1, rfl, h1⟩
                have H1 := Aside0.mk h1
                have K1 := Aside0.mk (hK.trans k1 (Or.inl rfl))
                have R1 := Aside0.mk (k1.blk hB hne (by simp))
                clear h1 k1 HM hW hH hK hB
                go_wp2_with (fail)
                have HP := rd_peek w0 w1 g A c L p E H1
                rw [ht] at HP
                refine HP.mono ?_
                rintro e w2 ⟨rfl, hb⟩
                have H2 := Aside0.mk ((H1.out.after hb).after (below_alloc (Below.refl _ _) (.cells #[.int .i64 t.f0, .string t.f1, .int .u64 t.f2] 29)))
                have K2 := Aside0.mk (keep_alloc (K1.out.trans (KeepBut.of_below hb g none) (Or.inl rfl)) (.cells #[.int .i64 t.f0, .string t.f1, .int .u64 t.f2] 29))
                have R2 := Aside0.mk (blk_alloc (blk_below R1.out hb) (.cells #[.int .i64 t.f0, .string t.f1, .int .u64 t.f2] 29))
                have T2 := Aside0.mk (blk_new w2 (.cells #[.int .i64 t.f0, .string t.f1, .int .u64 t.f2] 29))
                have hgT : w2.heap.size ≠ g := fun e => by have := Rd.keep (H1.out.after hb); omega
                clear hb HP H1 K1 R1
                go_wp2_with (fail)
                first
                  | (refine (operand_shift.calls t.f1 sh _ HSH.out).mono ?_; rintro e w3 ⟨rfl, hd⟩; have H3 := Aside0.mk (H2.out.after hd.below); have K3 := Aside0.mk (K2.out.trans (KeepBut.of_below hd.below g none) (Or.inl rfl)); have R3 := Aside0.mk (blk_below R2.out hd.below); clear hd H2 K2 R2 T2; go_wp2_with (fail))
                  | (have H3 := H2; have K3 := K2; have R3 := R2; clear H2 K2 R2 T2)
                have HM := rd_sign w0 _ g A c L (p) E ⟨#[91]⟩ H3
                rw [hs1, if_neg (by decide)] at HM
                refine HM.mono ?_
                rintro e w4 ⟨rfl, h4, k4⟩
                have H4 := Aside0.mk h4
                have K4 := Aside0.mk (K3.out.trans k4 (Or.inl rfl))
                have R4 := Aside0.mk (k4.blk R3.out hne (by simp))
                clear h4 k4 HM H3 K3 R3
                go_wp2_with (fail)
                have HM := rd_sign w0 _ g A c L (p) E ⟨#[61]⟩ H4
                rw [hs2, if_neg (by decide)] at HM
                refine HM.mono ?_
                rintro e w5 ⟨rfl, h5, k5⟩
                have H5 := Aside0.mk h5
                have K5 := Aside0.mk (K4.out.trans k5 (Or.inl rfl))
                have R5 := Aside0.mk (k5.blk R4.out hne (by simp))
                clear h5 k5 HM H4 K4 R4
                go_wp2_with (fail)
                have HM := rd_sign w0 _ g A c L (p) E ⟨#[35]⟩ H5
                rw [hq1] at HM
                refine HM.mono ?_
                rintro e w6 ⟨rfl, h6, k6⟩
                have H6 := Aside0.mk h6
                have K6 := Aside0.mk (K5.out.trans k6 (Or.inl rfl))
                have R6 := Aside0.mk (k6.blk R5.out hne (by simp))
                clear h6 k6 HM H5 K5 R5
                go_wp2_with (fail)
                have HM := rd_sign w0 _ g A c L (p1) E ⟨#[58]⟩ H6
                rw [hs4, if_pos rfl] at HM
                refine HM.mono ?_
                rintro e w7 ⟨rfl, h7, k7⟩
                have H7 := Aside0.mk h7
                have K7 := Aside0.mk (K6.out.trans k7 (Or.inl rfl))
                have R7 := Aside0.mk (k7.blk R6.out hne (by simp))
                clear h7 k7 HM H6 K6 R6
                go_wp2_with (fail)
                have HM := rd_low w0 _ g A c L (p1 + 1) E H7 hp2 HT
                rw [hr] at HM
                refine HM.mono ?_
                rintro e w8 ⟨k8, rfl, h8⟩
                have H8 := Aside0.mk h8
                have K8 := Aside0.mk (K7.out.trans k8 (Or.inl rfl))
                have R8 := Aside0.mk (k8.blk R7.out hne (by simp))
                clear h8 k8 HM H7 K7 R7
                go_wp2_with (fail)
                refine (operand_symbol_operand.calls nm ad 3 0 false false 0 nm ad _ rfl).mono ?_
                rintro e w9 ⟨rfl, hb⟩
                have H9 := Aside0.mk (H8.out.after hb)
                have K9 := Aside0.mk (K8.out.trans (KeepBut.of_below hb g none) (Or.inl rfl))
                have R9 := Aside0.mk (blk_below R8.out hb)
                clear hb H8 K8 R8
                have HX := Aside0.mk (H9.out.after (below_alloc (Below.refl _ _) (.cells #[.int .i64 6, .int .i64 0, .bool false, .bool false, .int .u64 0, .string nm, .int .i64 ad] 44)))
                have KX := Aside0.mk (keep_alloc K9.out (.cells #[.int .i64 6, .int .i64 0, .bool false, .bool false, .int .u64 0, .string nm, .int .i64 ad] 44))
                have RX := Aside0.mk (blk_alloc R9.out (.cells #[.int .i64 6, .int .i64 0, .bool false, .bool false, .int .u64 0, .string nm, .int .i64 ad] 44))
                have r0 : ∀ o, (w9.alloc o).cell? ⟨w.heap.size, 0, none⟩ = some (.int .i64 0) := fun o => (blk_cell (blk_alloc R9.out o) 0).trans rfl
                have rf0 : ∀ o, (w9.alloc o).frozen? ⟨w.heap.size, 0, none⟩ = false := fun o => blk_frozen (blk_alloc R9.out o) 0
                have r1 : ∀ o, (w9.alloc o).cell? ⟨w.heap.size, 1, none⟩ = some (.int .i64 0) := fun o => (blk_cell (blk_alloc R9.out o) 1).trans rfl
                have rf1 : ∀ o, (w9.alloc o).frozen? ⟨w.heap.size, 1, none⟩ = false := fun o => blk_frozen (blk_alloc R9.out o) 1
                have r2 : ∀ o, (w9.alloc o).cell? ⟨w.heap.size, 2, none⟩ = some (.bool false) := fun o => (blk_cell (blk_alloc R9.out o) 2).trans rfl
                have rf2 : ∀ o, (w9.alloc o).frozen? ⟨w.heap.size, 2, none⟩ = false := fun o => blk_frozen (blk_alloc R9.out o) 2
                have r3 : ∀ o, (w9.alloc o).cell? ⟨w.heap.size, 3, none⟩ = some (.bool false) := fun o => (blk_cell (blk_alloc R9.out o) 3).trans rfl
                have rf3 : ∀ o, (w9.alloc o).frozen? ⟨w.heap.size, 3, none⟩ = false := fun o => blk_frozen (blk_alloc R9.out o) 3
                have r4 : ∀ o, (w9.alloc o).cell? ⟨w.heap.size, 4, none⟩ = some (.int .u64 0) := fun o => (blk_cell (blk_alloc R9.out o) 4).trans rfl
                have rf4 : ∀ o, (w9.alloc o).frozen? ⟨w.heap.size, 4, none⟩ = false := fun o => blk_frozen (blk_alloc R9.out o) 4
                have r5 : ∀ o, (w9.alloc o).cell? ⟨w.heap.size, 5, none⟩ = some (.string ⟨#[]⟩) := fun o => (blk_cell (blk_alloc R9.out o) 5).trans rfl
                have rf5 : ∀ o, (w9.alloc o).frozen? ⟨w.heap.size, 5, none⟩ = false := fun o => blk_frozen (blk_alloc R9.out o) 5
                have r6 : ∀ o, (w9.alloc o).cell? ⟨w.heap.size, 6, none⟩ = some (.int .i64 0) := fun o => (blk_cell (blk_alloc R9.out o) 6).trans rfl
                have rf6 : ∀ o, (w9.alloc o).frozen? ⟨w.heap.size, 6, none⟩ = false := fun o => blk_frozen (blk_alloc R9.out o) 6
                go_wp2
                refine bodyPost_ret (results_cell_row rfl _ _ w.heap.size 44 #[_, _, _, _, _, _, _] (0, 0) _ rfl (blk_put (blk_put (blk_put (blk_put (blk_put (blk_put (blk_put RX.out 0 _ rfl) 1 _ rfl) 2 _ rfl) 3 _ rfl) 4 _ rfl) 5 _ rfl) 6 _ rfl) Tryd.underlying44 rfl (by kernel_rfl)) rfl ?_
                exact ⟨keep_set2 (keep_set2 (keep_set2 (keep_set2 (keep_set2 (keep_set2 (keep_set2 KX.out (Nat.le_refl _)) (Nat.le_refl _)) (Nat.le_refl _)) (Nat.le_refl _)) (Nat.le_refl _)) (Nat.le_refl _)) (Nat.le_refl _), rfl, (((((((HX.out).far _ hwW hne).far _ hwW hne).far _ hwW hne).far _ hwW hne).far _ hwW hne).far _ hwW hne).far _ hwW hne⟩
        · simp only [if_true]
          have hp1 : p + 1 ≤ L.length := by have := sgB_lt hs2; omega
          cases hr : expP L (p + 1) E with
          | none =>
            rcases key with c1 | ⟨c1, c2⟩
            all_goals
              go_enter Tryd.func16, Tryd.ntmps16
              go_wp2_with (fail)
              have HM := rd_register w0 W g A c L p E ⟨hH⟩ hp HT
              rw [hrg] at HM
              refine HM.mono ?_
              rintro e w1 ⟨k1, rfl, h1⟩
              have H1 := Aside0.mk h1
              have K1 := Aside0.mk (hK.trans k1 (Or.inl rfl))
              have R1 := Aside0.mk (k1.blk hB hne (by simp))
              clear h1 k1 HM hW hH hK hB
              go_wp2_with (fail)
              have HP := rd_peek w0 w1 g A c L p E H1
              rw [ht] at HP
              refine HP.mono ?_
              rintro e w2 ⟨rfl, hb⟩
              have H2 := Aside0.mk ((H1.out.after hb).after (below_alloc (Below.refl _ _) (.cells #[.int .i64 t.f0, .string t.f1, .int .u64 t.f2] 29)))
              have K2 := Aside0.mk (keep_alloc (K1.out.trans (KeepBut.of_below hb g none) (Or.inl rfl)) (.cells #[.int .i64 t.f0, .string t.f1, .int .u64 t.f2] 29))
              have R2 := Aside0.mk (blk_alloc (blk_below R1.out hb) (.cells #[.int .i64 t.f0, .string t.f1, .int .u64 t.f2] 29))
              have T2 := Aside0.mk (blk_new w2 (.cells #[.int .i64 t.f0, .string t.f1, .int .u64 t.f2] 29))
              have hgT : w2.heap.size ≠ g := fun e => by have := Rd.keep (H1.out.after hb); omega
              clear hb HP H1 K1 R1
              go_wp2_with (fail)
              first
                | (refine (operand_shift.calls t.f1 sh _ HSH.out).mono ?_; rintro e w3 ⟨rfl, hd⟩; have H3 := Aside0.mk (H2.out.after hd.below); have K3 := Aside0.mk (K2.out.trans (KeepBut.of_below hd.below g none) (Or.inl rfl)); have R3 := Aside0.mk (blk_below R2.out hd.below); clear hd H2 K2 R2 T2; go_wp2_with (fail))
                | (have H3 := H2; have K3 := K2; have R3 := R2; clear H2 K2 R2 T2)
              have HM := rd_sign w0 _ g A c L (p) E ⟨#[91]⟩ H3
              rw [hs1, if_neg (by decide)] at HM
              refine HM.mono ?_
              rintro e w4 ⟨rfl, h4, k4⟩
              have H4 := Aside0.mk h4
              have K4 := Aside0.mk (K3.out.trans k4 (Or.inl rfl))
              have R4 := Aside0.mk (k4.blk R3.out hne (by simp))
              clear h4 k4 HM H3 K3 R3
              go_wp2_with (fail)
              have HM := rd_sign w0 _ g A c L (p) E ⟨#[61]⟩ H4
              rw [hs2, if_pos rfl] at HM
              refine HM.mono ?_
              rintro e w5 ⟨rfl, h5, k5⟩
              have H5 := Aside0.mk h5
              have K5 := Aside0.mk (K4.out.trans k5 (Or.inl rfl))
              have R5 := Aside0.mk (k5.blk R4.out hne (by simp))
              clear h5 k5 HM H4 K4 R4
              go_wp2_with (fail)
              have HM := rd_expression w0 _ g A c L (p + 1) E H5 hp1 HT
              rw [hr] at HM
              refine HM.mono ?_
              rintro e w6 ⟨k6, ⟨ty, v, rfl⟩, hb⟩
              go_wp2
              exact ⟨rfl, K5.out.trans k6 (Or.inl rfl), ⟨_, _, rfl⟩, hb⟩
          | some y =>
            obtain ⟨ex, q, E'⟩ := y
            cases ex with
            | inl nn =>
              obtain ⟨mi, v⟩ := nn
              rcases key with c1 | ⟨c1, c2⟩
              all_goals
                go_enter Tryd.func16, Tryd.ntmps16
                go_wp2_with (fail)
                have HM := rd_register w0 W g A c L p E ⟨hH⟩ hp HT
                rw [hrg] at HM
                refine HM.mono ?_
                rintro e w1 ⟨k1, rfl, h1⟩
                have H1 := Aside0.mk h1
                have K1 := Aside0.mk (hK.trans k1 (Or.inl rfl))
                have R1 := Aside0.mk (k1.blk hB hne (by simp))
                clear h1 k1 HM hW hH hK hB
                go_wp2_with (fail)
                have HP := rd_peek w0 w1 g A c L p E H1
                rw [ht] at HP
                refine HP.mono ?_
                rintro e w2 ⟨rfl, hb⟩
                have H2 := Aside0.mk ((H1.out.after hb).after (below_alloc (Below.refl _ _) (.cells #[.int .i64 t.f0, .string t.f1, .int .u64 t.f2] 29)))
                have K2 := Aside0.mk (keep_alloc (K1.out.trans (KeepBut.of_below hb g none) (Or.inl rfl)) (.cells #[.int .i64 t.f0, .string t.f1, .int .u64 t.f2] 29))
                have R2 := Aside0.mk (blk_alloc (blk_below R1.out hb) (.cells #[.int .i64 t.f0, .string t.f1, .int .u64 t.f2] 29))
                have T2 := Aside0.mk (blk_new w2 (.cells #[.int .i64 t.f0, .string t.f1, .int .u64 t.f2] 29))
                have hgT : w2.heap.size ≠ g := fun e => by have := Rd.keep (H1.out.after hb); omega
                clear hb HP H1 K1 R1
                go_wp2_with (fail)
                first
                  | (refine (operand_shift.calls t.f1 sh _ HSH.out).mono ?_; rintro e w3 ⟨rfl, hd⟩; have H3 := Aside0.mk (H2.out.after hd.below); have K3 := Aside0.mk (K2.out.trans (KeepBut.of_below hd.below g none) (Or.inl rfl)); have R3 := Aside0.mk (blk_below R2.out hd.below); clear hd H2 K2 R2 T2; go_wp2_with (fail))
                  | (have H3 := H2; have K3 := K2; have R3 := R2; clear H2 K2 R2 T2)
                have HM := rd_sign w0 _ g A c L (p) E ⟨#[91]⟩ H3
                rw [hs1, if_neg (by decide)] at HM
                refine HM.mono ?_
                rintro e w4 ⟨rfl, h4, k4⟩
                have H4 := Aside0.mk h4
                have K4 := Aside0.mk (K3.out.trans k4 (Or.inl rfl))
                have R4 := Aside0.mk (k4.blk R3.out hne (by simp))
                clear h4 k4 HM H3 K3 R3
                go_wp2_with (fail)
                have HM := rd_sign w0 _ g A c L (p) E ⟨#[61]⟩ H4
                rw [hs2, if_pos rfl] at HM
                refine HM.mono ?_
                rintro e w5 ⟨rfl, h5, k5⟩
                have H5 := Aside0.mk h5
                have K5 := Aside0.mk (K4.out.trans k5 (Or.inl rfl))
                have R5 := Aside0.mk (k5.blk R4.out hne (by simp))
                clear h5 k5 HM H4 K4 R4
                go_wp2_with (fail)
                have HM := rd_expression w0 _ g A c L (p + 1) E H5 hp1 HT
                rw [hr] at HM
                refine HM.mono ?_
                rintro e w6 ⟨k6, he, h6⟩
                obtain rfl : e = .returned (.iface 64 (.agg #[.bool mi, .int .u64 v])) := he
                have H6 := Aside0.mk h6
                have K6 := Aside0.mk (K5.out.trans k6 (Or.inl rfl))
                have R6 := Aside0.mk (k6.blk R5.out hne (by simp))
                clear h6 k6 HM H5 K5 R5
                go_wp2_with (fail)
                refine (operand_number_operand.calls mi v 2 0 false mi v ⟨#[]⟩ 0 _ rfl).mono ?_
                rintro e w7 ⟨rfl, hb⟩
                have H7 := Aside0.mk (H6.out.after hb)
                have K7 := Aside0.mk (K6.out.trans (KeepBut.of_below hb g none) (Or.inl rfl))
                have R7 := Aside0.mk (blk_below R6.out hb)
                clear hb H6 K6 R6
                have HX := Aside0.mk (H7.out.after (below_alloc (Below.refl _ _) (.cells #[.int .i64 5, .int .i64 0, .bool false, .bool mi, .int .u64 v, .string ⟨#[]⟩, .int .i64 0] 44)))
                have KX := Aside0.mk (keep_alloc K7.out (.cells #[.int .i64 5, .int .i64 0, .bool false, .bool mi, .int .u64 v, .string ⟨#[]⟩, .int .i64 0] 44))
                have RX := Aside0.mk (blk_alloc R7.out (.cells #[.int .i64 5, .int .i64 0, .bool false, .bool mi, .int .u64 v, .string ⟨#[]⟩, .int .i64 0] 44))
                have r0 : ∀ o, (w7.alloc o).cell? ⟨w.heap.size, 0, none⟩ = some (.int .i64 0) := fun o => (blk_cell (blk_alloc R7.out o) 0).trans rfl
                have rf0 : ∀ o, (w7.alloc o).frozen? ⟨w.heap.size, 0, none⟩ = false := fun o => blk_frozen (blk_alloc R7.out o) 0
                have r1 : ∀ o, (w7.alloc o).cell? ⟨w.heap.size, 1, none⟩ = some (.int .i64 0) := fun o => (blk_cell (blk_alloc R7.out o) 1).trans rfl
                have rf1 : ∀ o, (w7.alloc o).frozen? ⟨w.heap.size, 1, none⟩ = false := fun o => blk_frozen (blk_alloc R7.out o) 1
                have r2 : ∀ o, (w7.alloc o).cell? ⟨w.heap.size, 2, none⟩ = some (.bool false) := fun o => (blk_cell (blk_alloc R7.out o) 2).trans rfl
                have rf2 : ∀ o, (w7.alloc o).frozen? ⟨w.heap.size, 2, none⟩ = false := fun o => blk_frozen (blk_alloc R7.out o) 2
                have r3 : ∀ o, (w7.alloc o).cell? ⟨w.heap.size, 3, none⟩ = some (.bool false) := fun o => (blk_cell (blk_alloc R7.out o) 3).trans rfl
                have rf3 : ∀ o, (w7.alloc o).frozen? ⟨w.heap.size, 3, none⟩ = false := fun o => blk_frozen (blk_alloc R7.out o) 3
                have r4 : ∀ o, (w7.alloc o).cell? ⟨w.heap.size, 4, none⟩ = some (.int .u64 0) := fun o => (blk_cell (blk_alloc R7.out o) 4).trans rfl
                have rf4 : ∀ o, (w7.alloc o).frozen? ⟨w.heap.size, 4, none⟩ = false := fun o => blk_frozen (blk_alloc R7.out o) 4
                have r5 : ∀ o, (w7.alloc o).cell? ⟨w.heap.size, 5, none⟩ = some (.string ⟨#[]⟩) := fun o => (blk_cell (blk_alloc R7.out o) 5).trans rfl
                have rf5 : ∀ o, (w7.alloc o).frozen? ⟨w.heap.size, 5, none⟩ = false := fun o => blk_frozen (blk_alloc R7.out o) 5
                have r6 : ∀ o, (w7.alloc o).cell? ⟨w.heap.size, 6, none⟩ = some (.int .i64 0) := fun o => (blk_cell (blk_alloc R7.out o) 6).trans rfl
                have rf6 : ∀ o, (w7.alloc o).frozen? ⟨w.heap.size, 6, none⟩ = false := fun o => blk_frozen (blk_alloc R7.out o) 6
                go_wp2
                refine bodyPost_ret (results_cell_row rfl _ _ w.heap.size 44 #[_, _, _, _, _, _, _] (0, 0) _ rfl (blk_put (blk_put (blk_put (blk_put (blk_put (blk_put (blk_put RX.out 0 _ rfl) 1 _ rfl) 2 _ rfl) 3 _ rfl) 4 _ rfl) 5 _ rfl) 6 _ rfl) Tryd.underlying44 rfl (by kernel_rfl)) rfl ?_
                exact ⟨keep_set2 (keep_set2 (keep_set2 (keep_set2 (keep_set2 (keep_set2 (keep_set2 KX.out (Nat.le_refl _)) (Nat.le_refl _)) (Nat.le_refl _)) (Nat.le_refl _)) (Nat.le_refl _)) (Nat.le_refl _)) (Nat.le_refl _), rfl, (((((((HX.out).far _ hwW hne).far _ hwW hne).far _ hwW hne).far _ hwW hne).far _ hwW hne).far _ hwW hne).far _ hwW hne⟩
            | inr ss =>
              obtain ⟨nm, ad⟩ := ss
              rcases key with c1 | ⟨c1, c2⟩
              all_goals
                go_enter Tryd.func16, Tryd.ntmps16
                go_wp2_with (fail)
                have HM := rd_register w0 W g A c L p E ⟨hH⟩ hp HT
                rw [hrg] at HM
                refine HM.mono ?_
                rintro e w1 ⟨k1, rfl, h1⟩
                have H1 := Aside0.mk h1
                have K1 := Aside0.mk (hK.trans k1 (Or.inl rfl))
                have R1 := Aside0.mk (k1.blk hB hne (by simp))
                clear h1 k1 HM hW hH hK hB
                go_wp2_with (fail)
                have HP := rd_peek w0 w1 g A c L p E H1
                rw [ht] at HP
                refine HP.mono ?_
                rintro e w2 ⟨rfl, hb⟩
                have H2 := Aside0.mk ((H1.out.after hb).after (below_alloc (Below.refl _ _) (.cells #[.int .i64 t.f0, .string t.f1, .int .u64 t.f2] 29)))
                have K2 := Aside0.mk (keep_alloc (K1.out.trans (KeepBut.of_below hb g none) (Or.inl rfl)) (.cells #[.int .i64 t.f0, .string t.f1, .int .u64 t.f2] 29))
                have R2 := Aside0.mk (blk_alloc (blk_below R1.out hb) (.cells #[.int .i64 t.f0, .string t.f1, .int .u64 t.f2] 29))
                have T2 := Aside0.mk (blk_new w2 (.cells #[.int .i64 t.f0, .string t.f1, .int .u64 t.f2] 29))
                have hgT : w2.heap.size ≠ g := fun e => by have := Rd.keep (H1.out.after hb); omega
                clear hb HP H1 K1 R1
                go_wp2_with (fail)
                first
                  | (refine (operand_shift.calls t.f1 sh _ HSH.out).mono ?_; rintro e w3 ⟨rfl, hd⟩; have H3 := Aside0.mk (H2.out.after hd.below); have K3 := Aside0.mk (K2.out.trans (KeepBut.of_below hd.below g none) (Or.inl rfl)); have R3 := Aside0.mk (blk_below R2.out hd.below); clear hd H2 K2 R2 T2; go_wp2_with (fail))
                  | (have H3 := H2; have K3 := K2; have R3 := R2; clear H2 K2 R2 T2)
                have HM := rd_sign w0 _ g A c L (p) E ⟨#[91]⟩ H3
                rw [hs1, if_neg (by decide)] at HM
                refine HM.mono ?_
                rintro e w4 ⟨rfl, h4, k4⟩
                have H4 := Aside0.mk h4
                have K4 := Aside0.mk (K3.out.trans k4 (Or.inl rfl))
                have R4 := Aside0.mk (k4.blk R3.out hne (by simp))
                clear h4 k4 HM H3 K3 R3
                go_wp2_with (fail)
                have HM := rd_sign w0 _ g A c L (p) E ⟨#[61]⟩ H4
                rw [hs2, if_pos rfl] at HM
                refine HM.mono ?_
                rintro e w5 ⟨rfl, h5, k5⟩
                have H5 := Aside0.mk h5
                have K5 := Aside0.mk (K4.out.trans k5 (Or.inl rfl))
                have R5 := Aside0.mk (k5.blk R4.out hne (by simp))
                clear h5 k5 HM H4 K4 R4
                go_wp2_with (fail)
                have HM := rd_expression w0 _ g A c L (p + 1) E H5 hp1 HT
                rw [hr] at HM
                refine HM.mono ?_
                rintro e w6 ⟨k6, he, h6⟩
                obtain rfl : e = .returned (.iface 61 (.agg #[.string nm, .int .i64 ad])) := he
                have H6 := Aside0.mk h6
                have K6 := Aside0.mk (K5.out.trans k6 (Or.inl rfl))
                have R6 := Aside0.mk (k6.blk R5.out hne (by simp))
                clear h6 k6 HM H5 K5 R5
                go_wp2_with (fail)
                refine (operand_symbol_operand.calls nm ad 3 0 false false 0 nm ad _ rfl).mono ?_
                rintro e w7 ⟨rfl, hb⟩
                have H7 := Aside0.mk (H6.out.after hb)
                have K7 := Aside0.mk (K6.out.trans (KeepBut.of_below hb g none) (Or.inl rfl))
                have R7 := Aside0.mk (blk_below R6.out hb)
                clear hb H6 K6 R6
                have HX := Aside0.mk (H7.out.after (below_alloc (Below.refl _ _) (.cells #[.int .i64 5, .int .i64 0, .bool false, .bool false, .int .u64 0, .string nm, .int .i64 ad] 44)))
                have KX := Aside0.mk (keep_alloc K7.out (.cells #[.int .i64 5, .int .i64 0, .bool false, .bool false, .int .u64 0, .string nm, .int .i64 ad] 44))
                have RX := Aside0.mk (blk_alloc R7.out (.cells #[.int .i64 5, .int .i64 0, .bool false, .bool false, .int .u64 0, .string nm, .int .i64 ad] 44))
                have r0 : ∀ o, (w7.alloc o).cell? ⟨w.heap.size, 0, none⟩ = some (.int .i64 0) := fun o => (blk_cell (blk_alloc R7.out o) 0).trans rfl
                have rf0 : ∀ o, (w7.alloc o).frozen? ⟨w.heap.size, 0, none⟩ = false := fun o => blk_frozen (blk_alloc R7.out o) 0
                have r1 : ∀ o, (w7.alloc o).cell? ⟨w.heap.size, 1, none⟩ = some (.int .i64 0) := fun o => (blk_cell (blk_alloc R7.out o) 1).trans rfl
                have rf1 : ∀ o, (w7.alloc o).frozen? ⟨w.heap.size, 1, none⟩ = false := fun o => blk_frozen (blk_alloc R7.out o) 1
                have r2 : ∀ o, (w7.alloc o).cell? ⟨w.heap.size, 2, none⟩ = some (.bool false) := fun o => (blk_cell (blk_alloc R7.out o) 2).trans rfl
                have rf2 : ∀ o, (w7.alloc o).frozen? ⟨w.heap.size, 2, none⟩ = false := fun o => blk_frozen (blk_alloc R7.out o) 2
                have r3 : ∀ o, (w7.alloc o).cell? ⟨w.heap.size, 3, none⟩ = some (.bool false) := fun o => (blk_cell (blk_alloc R7.out o) 3).trans rfl
                have rf3 : ∀ o, (w7.alloc o).frozen? ⟨w.heap.size, 3, none⟩ = false := fun o => blk_frozen (blk_alloc R7.out o) 3
                have r4 : ∀ o, (w7.alloc o).cell? ⟨w.heap.size, 4, none⟩ = some (.int .u64 0) := fun o => (blk_cell (blk_alloc R7.out o) 4).trans rfl
                have rf4 : ∀ o, (w7.alloc o).frozen? ⟨w.heap.size, 4, none⟩ = false := fun o => blk_frozen (blk_alloc R7.out o) 4
                have r5 : ∀ o, (w7.alloc o).cell? ⟨w.heap.size, 5, none⟩ = some (.string ⟨#[]⟩) := fun o => (blk_cell (blk_alloc R7.out o) 5).trans rfl
                have rf5 : ∀ o, (w7.alloc o).frozen? ⟨w.heap.size, 5, none⟩ = false := fun o => blk_frozen (blk_alloc R7.out o) 5
                have r6 : ∀ o, (w7.alloc o).cell? ⟨w.heap.size, 6, none⟩ = some (.int .i64 0) := fun o => (blk_cell (blk_alloc R7.out o) 6).trans rfl
                have rf6 : ∀ o, (w7.alloc o).frozen? ⟨w.heap.size, 6, none⟩ = false := fun o => blk_frozen (blk_alloc R7.out o) 6
                go_wp2
                refine bodyPost_ret (results_cell_row rfl _ _ w.heap.size 44 #[_, _, _, _, _, _, _] (0, 0) _ rfl (blk_put (blk_put (blk_put (blk_put (blk_put (blk_put (blk_put RX.out 0 _ rfl) 1 _ rfl) 2 _ rfl) 3 _ rfl) 4 _ rfl) 5 _ rfl) 6 _ rfl) Tryd.underlying44 rfl (by kernel_rfl)) rfl ?_
                exact ⟨keep_set2 (keep_set2 (keep_set2 (keep_set2 (keep_set2 (keep_set2 (keep_set2 KX.out (Nat.le_refl _)) (Nat.le_refl _)) (Nat.le_refl _)) (Nat.le_refl _)) (Nat.le_refl _)) (Nat.le_refl _)) (Nat.le_refl _), rfl, (((((((HX.out).far _ hwW hne).far _ hwW hne).far _ hwW hne).far _ hwW hne).far _ hwW hne).far _ hwW hne).far _ hwW hne⟩
      · simp only [if_true]
        have hp1 : p + 1 ≤ L.length := by have := sgB_lt hs1; omega
        cases hr : memP L (p + 1) E with
        | none =>
          rcases key with c1 | ⟨c1, c2⟩
          all_goals
            go_enter Tryd.func16, Tryd.ntmps16
            go_wp2_with (fail)
            have HM := rd_register w0 W g A c L p E ⟨hH⟩ hp HT
            rw [hrg] at HM
            refine HM.mono ?_
            rintro e w1 ⟨k1, rfl, h1⟩
            have H1 := Aside0.mk h1
            have K1 := Aside0.mk (hK.trans k1 (Or.inl rfl))
            have R1 := Aside0.mk (k1.blk hB hne (by simp))
            clear h1 k1 HM hW hH hK hB
            go_wp2_with (fail)
            have HP := rd_peek w0 w1 g A c L p E H1
            rw [ht] at HP
            refine HP.mono ?_
            rintro e w2 ⟨rfl, hb⟩
            have H2 := Aside0.mk ((H1.out.after hb).after (below_alloc (Below.refl _ _) (.cells #[.int .i64 t.f0, .string t.f1, .int .u64 t.f2] 29)))
            have K2 := Aside0.mk (keep_alloc (K1.out.trans (KeepBut.of_below hb g none) (Or.inl rfl)) (.cells #[.int .i64 t.f0, .string t.f1, .int .u64 t.f2] 29))
            have R2 := Aside0.mk (blk_alloc (blk_below R1.out hb) (.cells #[.int .i64 t.f0, .string t.f1, .int .u64 t.f2] 29))
            have T2 := Aside0.mk (blk_new w2 (.cells #[.int .i64 t.f0, .string t.f1, .int .u64 t.f2] 29))
            have hgT : w2.heap.size ≠ g := fun e => by have := Rd.keep (H1.out.after hb); omega
            clear hb HP H1 K1 R1
            go_wp2_with (fail)
            first
              | (refine (operand_shift.calls t.f1 sh _ HSH.out).mono ?_; rintro e w3 ⟨rfl, hd⟩; have H3 := Aside0.mk (H2.out.after hd.below); have K3 := Aside0.mk (K2.out.trans (KeepBut.of_below hd.below g none) (Or.inl rfl)); have R3 := Aside0.mk (blk_below R2.out hd.below); clear hd H2 K2 R2 T2; go_wp2_with (fail))
              | (have H3 := H2; have K3 := K2; have R3 := R2; clear H2 K2 R2 T2)
            have HM := rd_sign w0 _ g A c L (p) E ⟨#[91]⟩ H3
            rw [hs1, if_pos rfl] at HM
            refine HM.mono ?_
            rintro e w4 ⟨rfl, h4, k4⟩
            have H4 := Aside0.mk h4
            have K4 := Aside0.mk (K3.out.trans k4 (Or.inl rfl))
            have R4 := Aside0.mk (k4.blk R3.out hne (by simp))
            clear h4 k4 HM H3 K3 R3
            go_wp2_with (fail)
            have HM := rd_memory w0 _ g A c L (p + 1) E H4 hp1 HT
            rw [hr] at HM
            refine HM.mono ?_
            rintro e w5 ⟨k5, ⟨ty, v, rfl⟩, hb⟩
            go_wp2
            exact ⟨rfl, K4.out.trans k5 (Or.inl rfl), ⟨_, _, rfl⟩, hb⟩
        | some y =>
          obtain ⟨o, q, E'⟩ := y
          rcases key with c1 | ⟨c1, c2⟩
          all_goals
            go_enter Tryd.func16, Tryd.ntmps16
            go_wp2_with (fail)
            have HM := rd_register w0 W g A c L p E ⟨hH⟩ hp HT
            rw [hrg] at HM
            refine HM.mono ?_
            rintro e w1 ⟨k1, rfl, h1⟩
            have H1 := Aside0.mk h1
            have K1 := Aside0.mk (hK.trans k1 (Or.inl rfl))
            have R1 := Aside0.mk (k1.blk hB hne (by simp))
            clear h1 k1 HM hW hH hK hB
            go_wp2_with (fail)
            have HP := rd_peek w0 w1 g A c L p E H1
            rw [ht] at HP
            refine HP.mono ?_
            rintro e w2 ⟨rfl, hb⟩
            have H2 := Aside0.mk ((H1.out.after hb).after (below_alloc (Below.refl _ _) (.cells #[.int .i64 t.f0, .string t.f1, .int .u64 t.f2] 29)))
            have K2 := Aside0.mk (keep_alloc (K1.out.trans (KeepBut.of_below hb g none) (Or.inl rfl)) (.cells #[.int .i64 t.f0, .string t.f1, .int .u64 t.f2] 29))
            have R2 := Aside0.mk (blk_alloc (blk_below R1.out hb) (.cells #[.int .i64 t.f0, .string t.f1, .int .u64 t.f2] 29))
            have T2 := Aside0.mk (blk_new w2 (.cells #[.int .i64 t.f0, .string t.f1, .int .u64 t.f2] 29))
            have hgT : w2.heap.size ≠ g := fun e => by have := Rd.keep (H1.out.after hb); omega
            clear hb HP H1 K1 R1
            go_wp2_with (fail)
            first
              | (refine (operand_shift.calls t.f1 sh _ HSH.out).mono ?_; rintro e w3 ⟨rfl, hd⟩; have H3 := Aside0.mk (H2.out.after hd.below); have K3 := Aside0.mk (K2.out.trans (KeepBut.of_below hd.below g none) (Or.inl rfl)); have R3 := Aside0.mk (blk_below R2.out hd.below); clear hd H2 K2 R2 T2; go_wp2_with (fail))
              | (have H3 := H2; have K3 := K2; have R3 := R2; clear H2 K2 R2 T2)
            have HM := rd_sign w0 _ g A c L (p) E ⟨#[91]⟩ H3
            rw [hs1, if_pos rfl] at HM
            refine HM.mono ?_
            rintro e w4 ⟨rfl, h4, k4⟩
            have H4 := Aside0.mk h4
            have K4 := Aside0.mk (K3.out.trans k4 (Or.inl rfl))
            have R4 := Aside0.mk (k4.blk R3.out hne (by simp))
            clear h4 k4 HM H3 K3 R3
            go_wp2_with (fail)
            have HM := rd_memory w0 _ g A c L (p + 1) E H4 hp1 HT
            rw [hr] at HM
            refine HM.mono ?_
            rintro e w5 ⟨k5, he, h5⟩
            obtain rfl : e = .returned (.agg #[.int .i64 o.f0, .int .i64 o.f1, .bool o.f2, .bool o.f3, .int .u64 o.f4, .string o.f5, .int .i64 o.f6]) := he
            have H5 := Aside0.mk h5
            have K5 := Aside0.mk (K4.out.trans k5 (Or.inl rfl))
            have R5 := Aside0.mk (k5.blk R4.out hne (by simp))
            clear h5 k5 HM H4 K4 R4
            have r0 : w5.cell? ⟨w.heap.size, 0, none⟩ = some (.int .i64 0) := (blk_cell R5.out 0).trans rfl
            have rf0 : w5.frozen? ⟨w.heap.size, 0, none⟩ = false := blk_frozen R5.out 0
            have r1 : w5.cell? ⟨w.heap.size, 1, none⟩ = some (.int .i64 0) := (blk_cell R5.out 1).trans rfl
            have rf1 : w5.frozen? ⟨w.heap.size, 1, none⟩ = false := blk_frozen R5.out 1
            have r2 : w5.cell? ⟨w.heap.size, 2, none⟩ = some (.bool false) := (blk_cell R5.out 2).trans rfl
            have rf2 : w5.frozen? ⟨w.heap.size, 2, none⟩ = false := blk_frozen R5.out 2
            have r3 : w5.cell? ⟨w.heap.size, 3, none⟩ = some (.bool false) := (blk_cell R5.out 3).trans rfl
            have rf3 : w5.frozen? ⟨w.heap.size, 3, none⟩ = false := blk_frozen R5.out 3
            have r4 : w5.cell? ⟨w.heap.size, 4, none⟩ = some (.int .u64 0) := (blk_cell R5.out 4).trans rfl
            have rf4 : w5.frozen? ⟨w.heap.size, 4, none⟩ = false := blk_frozen R5.out 4
            have r5 : w5.cell? ⟨w.heap.size, 5, none⟩ = some (.string ⟨#[]⟩) := (blk_cell R5.out 5).trans rfl
            have rf5 : w5.frozen? ⟨w.heap.size, 5, none⟩ = false := blk_frozen R5.out 5
            have r6 : w5.cell? ⟨w.heap.size, 6, none⟩ = some (.int .i64 0) := (blk_cell R5.out 6).trans rfl
            have rf6 : w5.frozen? ⟨w.heap.size, 6, none⟩ = false := blk_frozen R5.out 6
            go_wp2
            refine bodyPost_ret (results_cell_row rfl _ _ w.heap.size 44 #[_, _, _, _, _, _, _] (0, 0) _ rfl (blk_put (blk_put (blk_put (blk_put (blk_put (blk_put (blk_put R5.out 0 _ rfl) 1 _ rfl) 2 _ rfl) 3 _ rfl) 4 _ rfl) 5 _ rfl) 6 _ rfl) Tryd.underlying44 rfl (by kernel_rfl)) rfl ?_
            exact ⟨keep_set2 (keep_set2 (keep_set2 (keep_set2 (keep_set2 (keep_set2 (keep_set2 K5.out (Nat.le_refl _)) (Nat.le_refl _)) (Nat.le_refl _)) (Nat.le_refl _)) (Nat.le_refl _)) (Nat.le_refl _)) (Nat.le_refl _), rfl, (((((((H5.out).far _ hwW hne).far _ hwW hne).far _ hwW hne).far _ hwW hne).far _ hwW hne).far _ hwW hne).far _ hwW hne⟩

end Go.Proofs.YtpndeninbokjoaaDoor.P
