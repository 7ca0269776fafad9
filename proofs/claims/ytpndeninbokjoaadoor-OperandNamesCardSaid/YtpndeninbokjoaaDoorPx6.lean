-- printed by wip/tools/myprint.py out of the translation. Not trusted: Lean checks it.
import Derived.Test.YtpndeninbokjoaaDoorPx0
import Derived.Test.YtpndeninbokjoaaDoorPx4
import Derived.Test.YtpndeninbokjoaaDoorPx5
namespace Go.Proofs.YtpndeninbokjoaaDoor.P
open Go.RowKit Go.Proofs.YtpndeninbokjoaaDoorW.PrintWords Go.Proofs.YtpndeninbokjoaaDoorW.PrintLast Go.Proofs.YtpndeninbokjoaaDoorW.PrintMore
attribute [local go_sem] max2_int min2_int max_two min_two max_three min_three max_four min_four   -- for this text's walks alone
set_option linter.unusedVariables false
set_option linter.unusedSimpArgs false

/-! ### operand_reader_symbol: function 42 -/
def sigS (m : Bool) (v : Int) : Int × Int := (num_Signed.f m v).getD (0, 4)
theorem sigS_f (m : Bool) (v : Int) : num_Signed.f m v = some (sigS m v) := by
  unfold sigS num_Signed.f
  repeat' split
  all_goals rfl
/-- What is added to a symbol: its number, and whether one stands there at all. -/
def addP (mi : Bool) (L : List S29) (p : Nat) (E : Int) : Option (Int × Nat × Int) :=
  (valP false L p E).bind fun x => if (sigS mi x.1).2 = 0 then some ((sigS mi x.1).1, x.2) else (wrE (sigS mi x.1).2 x.2.2).map fun E' => ((sigS mi x.1).1, x.2.1, E')
def symP (L : List S29) (p : Nat) (E : Int) : Option ((ByteArray × Int) × Nat × Int) :=
  if sgB L (p + 1) ⟨#[45]⟩ = true then (addP true L (p + 2) E).map fun x => (((tk L p).f1, x.1), x.2)
  else if sgB L (p + 1) ⟨#[43]⟩ = true then (addP false L (p + 2) E).map fun x => (((tk L p).f1, x.1), x.2)
  else some (((tk L p).f1, 0), p + 1, E)
abbrev symV (x : ByteArray × Int) : Value := .agg #[.string x.1, .int .i64 x.2]
set_option maxHeartbeats 4000000 in
set_option maxRecDepth 100000 in
theorem rd_symbol (w0 w : World) (g : Nat) (A : Option Addr) (c : Nat) (L : List S29) (p : Nat) (E : Int) (H : Aside0 (Rd w0 w g A c L p E)) (hp : p < L.length) :
    Calls Tryd.prog 42 #[.pointer (some ⟨g, 0, none⟩)] w (RdPost w0 w g A c L (symP L p E) symV) := by
  have hz29 := Tryd.zeroValue29
  have hu29 := Tryd.underlying29
  have hz61 := Tryd.zeroValue61
  have hu61 := Tryd.underlying61
  obtain ⟨W, hW, hH, hK, hB, hne⟩ := H.out.box #[.string ⟨#[]⟩, .int .i64 0] 61
  have hwW : w0.heap.size ≤ w.heap.size := H.out.below.size
  have HP := Aside0.mk (rd_peek w0 W g A c L p E ⟨hH⟩)
  have hw : wrap64 ((p : Int) + 1) = ((p + 1 : Nat) : Int) := by have := H.out.len; unfold wrap64; omega
  have hp1 : p + 1 ≤ L.length := hp
  unfold symP
  cases hm : sgB L (p + 1) ⟨#[45]⟩
  · rw [if_neg (by decide)]
    cases hq : sgB L (p + 1) ⟨#[43]⟩
    · rw [if_neg (by decide)]
      generalize tk L p = t at *
      have hfd : ∀ w : World, (Instr.field 29 (.agg #[.int .i64 t.f0, .string t.f1, .int .u64 t.f2]) 1).run Tryd.prog w = .ok (.string t.f1) w := fun _ => by kernel_rfl
      go_enter Tryd.func42, Tryd.ntmps42
      go_wp2_with (fail)
      refine HP.out.mono ?_
      rintro e w1 ⟨rfl, hb⟩
      obtain ⟨_, rfl, hH1, hK1, hS1, hneS⟩ := (hH.after hb).box #[.string t.f1, .int .i64 0] 61
      have hws : w0.heap.size ≤ w1.heap.size := (hH.after hb).below.size
      have hwR : w.heap.size < w1.heap.size := Nat.lt_of_lt_of_le (blk_lt hB) hb.size
      have R1 := Aside0.mk (blk_far (blk_below (blk_below hB hb) (below_alloc (Below.refl _ _) (.cells #[.string t.f1, .int .i64 0] 61))) (p := ⟨g, 1, none⟩) hne (.int .i64 ((p + 1 : Nat) : Int)))
      have S1 := Aside0.mk (blk_far hS1 (p := ⟨g, 1, none⟩) hneS (.int .i64 ((p + 1 : Nat) : Int)))
      have K1 := Aside0.mk (((hK.trans (KeepBut.of_below hb g none) (Or.inl rfl)).trans hK1 (Or.inl rfl)).set_ 1 (.int .i64 ((p + 1 : Nat) : Int)))
      have H1 := Aside0.mk (hH1.setP (p + 1))
      have h1 : ∀ o, (w1.alloc o).cell? ⟨g, 1, none⟩ = some (.int .i64 (p : Int)) := fun o => (rd_cells ((hH.after hb).after (below_alloc (Below.refl _ _) o))).2.1
      have f1 : ∀ o, (w1.alloc o).frozen? ⟨g, 1, none⟩ = false := fun o => (rd_cells ((hH.after hb).after (below_alloc (Below.refl _ _) o))).2.2.2.1
      clear hb HP hW hH hK hB hH1 hK1 hS1
      go_wp2_with (fail)
      have HM := rd_sign w0 _ g A c L (p + 1) E ⟨#[45]⟩ H1
      rw [hm] at HM
      refine HM.mono ?_
      rintro e w2 ⟨rfl, h2, k2⟩
      have H2 := Aside0.mk h2
      have K2 := Aside0.mk (K1.out.trans k2 (Or.inl rfl))
      have R2 := Aside0.mk (k2.blk R1.out hne (by simp))
      have S2 := Aside0.mk (k2.blk S1.out hneS (by simp))
      clear h2 k2 HM H1 K1 R1 S1 h1 f1
      go_wp2_with (fail)
      have HM := rd_sign w0 _ g A c L (p + 1) E ⟨#[43]⟩ H2
      rw [hq] at HM
      refine HM.mono ?_
      rintro e w3 ⟨rfl, h3, k3⟩
      have H3 := Aside0.mk h3
      have K3 := Aside0.mk (K2.out.trans k3 (Or.inl rfl))
      have R3 := Aside0.mk (k3.blk R2.out hne (by simp))
      have S3 := Aside0.mk (k3.blk S2.out hneS (by simp))
      clear h3 k3 HM H2 K2 R2 S2
      have q0 : w3.cell? ⟨w1.heap.size, 0, none⟩ = some (.string t.f1) := (blk_cell S3.out 0).trans rfl
      have q1 : w3.cell? ⟨w1.heap.size, 1, none⟩ = some (.int .i64 0) := (blk_cell S3.out 1).trans rfl
      have qf : w3.frozen? ⟨w1.heap.size, 1, none⟩ = false := blk_frozen S3.out 1
      have r0 : w3.cell? ⟨w.heap.size, 0, none⟩ = some (.string ⟨#[]⟩) := (blk_cell R3.out 0).trans rfl
      have r1 : w3.cell? ⟨w.heap.size, 1, none⟩ = some (.int .i64 0) := (blk_cell R3.out 1).trans rfl
      have rf0 : w3.frozen? ⟨w.heap.size, 0, none⟩ = false := blk_frozen R3.out 0
      have rf1 : w3.frozen? ⟨w.heap.size, 1, none⟩ = false := blk_frozen R3.out 1
      have hRS : w.heap.size ≠ w1.heap.size := by omega
      go_wp2
      refine bodyPost_ret (results_cell_row rfl _ _ w.heap.size 61 #[_, _] (0, 0) _ rfl (blk_put (blk_put R3.out 0 _ rfl) 1 _ rfl) Tryd.underlying61 rfl (by kernel_rfl)) rfl ?_
      exact ⟨keep_set2 (keep_set2 K3.out (Nat.le_refl _)) (Nat.le_refl _), rfl, (H3.out.far _ hwW hne).far _ hwW hne⟩
    · rw [if_pos rfl]
      have hp2 : p + 2 ≤ L.length := by have := sgB_lt hq; omega
      generalize tk L p = t at *
      unfold addP
      cases hr : valP false L (p + 2) E with
      | none =>
        have hfd : ∀ w : World, (Instr.field 29 (.agg #[.int .i64 t.f0, .string t.f1, .int .u64 t.f2]) 1).run Tryd.prog w = .ok (.string t.f1) w := fun _ => by kernel_rfl
        go_enter Tryd.func42, Tryd.ntmps42
        go_wp2_with (fail)
        refine HP.out.mono ?_
        rintro e w1 ⟨rfl, hb⟩
        obtain ⟨_, rfl, hH1, hK1, hS1, hneS⟩ := (hH.after hb).box #[.string t.f1, .int .i64 0] 61
        have hws : w0.heap.size ≤ w1.heap.size := (hH.after hb).below.size
        have hwR : w.heap.size < w1.heap.size := Nat.lt_of_lt_of_le (blk_lt hB) hb.size
        have R1 := Aside0.mk (blk_far (blk_below (blk_below hB hb) (below_alloc (Below.refl _ _) (.cells #[.string t.f1, .int .i64 0] 61))) (p := ⟨g, 1, none⟩) hne (.int .i64 ((p + 1 : Nat) : Int)))
        have S1 := Aside0.mk (blk_far hS1 (p := ⟨g, 1, none⟩) hneS (.int .i64 ((p + 1 : Nat) : Int)))
        have K1 := Aside0.mk (((hK.trans (KeepBut.of_below hb g none) (Or.inl rfl)).trans hK1 (Or.inl rfl)).set_ 1 (.int .i64 ((p + 1 : Nat) : Int)))
        have H1 := Aside0.mk (hH1.setP (p + 1))
        have h1 : ∀ o, (w1.alloc o).cell? ⟨g, 1, none⟩ = some (.int .i64 (p : Int)) := fun o => (rd_cells ((hH.after hb).after (below_alloc (Below.refl _ _) o))).2.1
        have f1 : ∀ o, (w1.alloc o).frozen? ⟨g, 1, none⟩ = false := fun o => (rd_cells ((hH.after hb).after (below_alloc (Below.refl _ _) o))).2.2.2.1
        clear hb HP hW hH hK hB hH1 hK1 hS1
        go_wp2_with (fail)
        have HM := rd_sign w0 _ g A c L (p + 1) E ⟨#[45]⟩ H1
        rw [hm] at HM
        refine HM.mono ?_
        rintro e w2 ⟨rfl, h2, k2⟩
        have H2 := Aside0.mk h2
        have K2 := Aside0.mk (K1.out.trans k2 (Or.inl rfl))
        have R2 := Aside0.mk (k2.blk R1.out hne (by simp))
        have S2 := Aside0.mk (k2.blk S1.out hneS (by simp))
        clear h2 k2 HM H1 K1 R1 S1 h1 f1
        go_wp2_with (fail)
        have HM := rd_sign w0 _ g A c L (p + 1) E ⟨#[43]⟩ H2
        rw [hq] at HM
        refine HM.mono ?_
        rintro e w3 ⟨rfl, h3, k3⟩
        have H3 := Aside0.mk h3
        have K3 := Aside0.mk (K2.out.trans k3 (Or.inl rfl))
        have R3 := Aside0.mk (k3.blk R2.out hne (by simp))
        have S3 := Aside0.mk (k3.blk S2.out hneS (by simp))
        clear h3 k3 HM H2 K2 R2 S2
        go_wp2_with (fail)
        have HV := rd_value w0 _ g A c L (p + 2) E false H3 (by omega)
        rw [hr] at HV
        refine HV.mono ?_
        rintro e w4 ⟨k4, ⟨ty, v, rfl⟩, hb⟩
        go_wp2
        exact ⟨rfl, K3.out.trans k4 (Or.inl rfl), ⟨_, _, rfl⟩, hb⟩
      | some y =>
        obtain ⟨v, q, E'⟩ := y
        obtain ⟨⟨x, er⟩, hx⟩ : ∃ z, sigS false v = z := ⟨_, rfl⟩
        have hsig := (sigS_f false v).trans (congrArg some hx)
        rw [Option.bind_some]
        simp only [hx]
        by_cases he : er = 0
        · rw [if_pos he]
          have c3 : (er != 0) = false := by rw [he]; rfl
          have hfd : ∀ w : World, (Instr.field 29 (.agg #[.int .i64 t.f0, .string t.f1, .int .u64 t.f2]) 1).run Tryd.prog w = .ok (.string t.f1) w := fun _ => by kernel_rfl
          go_enter Tryd.func42, Tryd.ntmps42
          go_wp2_with (fail)
          refine HP.out.mono ?_
          rintro e w1 ⟨rfl, hb⟩
          obtain ⟨_, rfl, hH1, hK1, hS1, hneS⟩ := (hH.after hb).box #[.string t.f1, .int .i64 0] 61
          have hws : w0.heap.size ≤ w1.heap.size := (hH.after hb).below.size
          have hwR : w.heap.size < w1.heap.size := Nat.lt_of_lt_of_le (blk_lt hB) hb.size
          have R1 := Aside0.mk (blk_far (blk_below (blk_below hB hb) (below_alloc (Below.refl _ _) (.cells #[.string t.f1, .int .i64 0] 61))) (p := ⟨g, 1, none⟩) hne (.int .i64 ((p + 1 : Nat) : Int)))
          have S1 := Aside0.mk (blk_far hS1 (p := ⟨g, 1, none⟩) hneS (.int .i64 ((p + 1 : Nat) : Int)))
          have K1 := Aside0.mk (((hK.trans (KeepBut.of_below hb g none) (Or.inl rfl)).trans hK1 (Or.inl rfl)).set_ 1 (.int .i64 ((p + 1 : Nat) : Int)))
          have H1 := Aside0.mk (hH1.setP (p + 1))
          have h1 : ∀ o, (w1.alloc o).cell? ⟨g, 1, none⟩ = some (.int .i64 (p : Int)) := fun o => (rd_cells ((hH.after hb).after (below_alloc (Below.refl _ _) o))).2.1
          have f1 : ∀ o, (w1.alloc o).frozen? ⟨g, 1, none⟩ = false := fun o => (rd_cells ((hH.after hb).after (below_alloc (Below.refl _ _) o))).2.2.2.1
          clear hb HP hW hH hK hB hH1 hK1 hS1
          go_wp2_with (fail)
          have HM := rd_sign w0 _ g A c L (p + 1) E ⟨#[45]⟩ H1
          rw [hm] at HM
          refine HM.mono ?_
          rintro e w2 ⟨rfl, h2, k2⟩
          have H2 := Aside0.mk h2
          have K2 := Aside0.mk (K1.out.trans k2 (Or.inl rfl))
          have R2 := Aside0.mk (k2.blk R1.out hne (by simp))
          have S2 := Aside0.mk (k2.blk S1.out hneS (by simp))
          clear h2 k2 HM H1 K1 R1 S1 h1 f1
          go_wp2_with (fail)
          have HM := rd_sign w0 _ g A c L (p + 1) E ⟨#[43]⟩ H2
          rw [hq] at HM
          refine HM.mono ?_
          rintro e w3 ⟨rfl, h3, k3⟩
          have H3 := Aside0.mk h3
          have K3 := Aside0.mk (K2.out.trans k3 (Or.inl rfl))
          have R3 := Aside0.mk (k3.blk R2.out hne (by simp))
          have S3 := Aside0.mk (k3.blk S2.out hneS (by simp))
          clear h3 k3 HM H2 K2 R2 S2
          go_wp2_with (fail)
          have HV := rd_value w0 _ g A c L (p + 2) E false H3 (by omega)
          rw [hr] at HV
          refine HV.mono ?_
          rintro e w4 ⟨k4, rfl, h4⟩
          have H4 := Aside0.mk h4
          have K4 := Aside0.mk (K3.out.trans k4 (Or.inl rfl))
          have R4 := Aside0.mk (k4.blk R3.out hne (by simp))
          have S4 := Aside0.mk (k4.blk S3.out hneS (by simp))
          clear h4 k4 HV H3 K3 R3 S3
          go_wp2_with (fail)
          refine (num_Signed.calls false v x er _ hsig).mono ?_
          rintro e w5 ⟨rfl, hd⟩
          have H5 := Aside0.mk (H4.out.after hd.below)
          have K5 := Aside0.mk (K4.out.trans (KeepBut.of_below hd.below g none) (Or.inl rfl))
          have R5 := Aside0.mk (blk_below R4.out hd.below)
          have S5 := Aside0.mk (blk_below S4.out hd.below)
          clear hd H4 K4 R4 S4
          have q0 : w5.cell? ⟨w1.heap.size, 0, none⟩ = some (.string t.f1) := (blk_cell S5.out 0).trans rfl
          have q1 : w5.cell? ⟨w1.heap.size, 1, none⟩ = some (.int .i64 0) := (blk_cell S5.out 1).trans rfl
          have qf : w5.frozen? ⟨w1.heap.size, 1, none⟩ = false := blk_frozen S5.out 1
          have r0 : w5.cell? ⟨w.heap.size, 0, none⟩ = some (.string ⟨#[]⟩) := (blk_cell R5.out 0).trans rfl
          have r1 : w5.cell? ⟨w.heap.size, 1, none⟩ = some (.int .i64 0) := (blk_cell R5.out 1).trans rfl
          have rf0 : w5.frozen? ⟨w.heap.size, 0, none⟩ = false := blk_frozen R5.out 0
          have rf1 : w5.frozen? ⟨w.heap.size, 1, none⟩ = false := blk_frozen R5.out 1
          have hRS : w.heap.size ≠ w1.heap.size := by omega
          have RS := Aside0.mk (blk_far R5.out (p := ⟨w1.heap.size, 1, none⟩) hRS (.int .i64 x))
          have KS := Aside0.mk (keep_set2 (b := w1.heap.size) (j := 1) (u := .int .i64 x) K5.out (by omega))
          have HS := Aside0.mk (H5.out.far (b := w1.heap.size) (j := 1) (.int .i64 x) hws hneS)
          go_wp2
          refine bodyPost_ret (results_cell_row rfl _ _ w.heap.size 61 #[_, _] (0, 0) _ rfl (blk_put (blk_put RS.out 0 _ rfl) 1 _ rfl) Tryd.underlying61 rfl (by kernel_rfl)) rfl ?_
          exact ⟨keep_set2 (keep_set2 KS.out (Nat.le_refl _)) (Nat.le_refl _), rfl, (HS.out.far _ hwW hne).far _ hwW hne⟩
        · rw [if_neg he]
          have c3 : (er != 0) = true := bne_iff_ne.2 he
          cases hw3 : wrE er E' with
          | none =>
            have hfd : ∀ w : World, (Instr.field 29 (.agg #[.int .i64 t.f0, .string t.f1, .int .u64 t.f2]) 1).run Tryd.prog w = .ok (.string t.f1) w := fun _ => by kernel_rfl
            go_enter Tryd.func42, Tryd.ntmps42
            go_wp2_with (fail)
            refine HP.out.mono ?_
            rintro e w1 ⟨rfl, hb⟩
            obtain ⟨_, rfl, hH1, hK1, hS1, hneS⟩ := (hH.after hb).box #[.string t.f1, .int .i64 0] 61
            have hws : w0.heap.size ≤ w1.heap.size := (hH.after hb).below.size
            have hwR : w.heap.size < w1.heap.size := Nat.lt_of_lt_of_le (blk_lt hB) hb.size
            have R1 := Aside0.mk (blk_far (blk_below (blk_below hB hb) (below_alloc (Below.refl _ _) (.cells #[.string t.f1, .int .i64 0] 61))) (p := ⟨g, 1, none⟩) hne (.int .i64 ((p + 1 : Nat) : Int)))
            have S1 := Aside0.mk (blk_far hS1 (p := ⟨g, 1, none⟩) hneS (.int .i64 ((p + 1 : Nat) : Int)))
            have K1 := Aside0.mk (((hK.trans (KeepBut.of_below hb g none) (Or.inl rfl)).trans hK1 (Or.inl rfl)).set_ 1 (.int .i64 ((p + 1 : Nat) : Int)))
            have H1 := Aside0.mk (hH1.setP (p + 1))
            have h1 : ∀ o, (w1.alloc o).cell? ⟨g, 1, none⟩ = some (.int .i64 (p : Int)) := fun o => (rd_cells ((hH.after hb).after (below_alloc (Below.refl _ _) o))).2.1
            have f1 : ∀ o, (w1.alloc o).frozen? ⟨g, 1, none⟩ = false := fun o => (rd_cells ((hH.after hb).after (below_alloc (Below.refl _ _) o))).2.2.2.1
            clear hb HP hW hH hK hB hH1 hK1 hS1
            go_wp2_with (fail)
            have HM := rd_sign w0 _ g A c L (p + 1) E ⟨#[45]⟩ H1
            rw [hm] at HM
            refine HM.mono ?_
            rintro e w2 ⟨rfl, h2, k2⟩
            have H2 := Aside0.mk h2
            have K2 := Aside0.mk (K1.out.trans k2 (Or.inl rfl))
            have R2 := Aside0.mk (k2.blk R1.out hne (by simp))
            have S2 := Aside0.mk (k2.blk S1.out hneS (by simp))
            clear h2 k2 HM H1 K1 R1 S1 h1 f1
            go_wp2_with (fail)
            have HM := rd_sign w0 _ g A c L (p + 1) E ⟨#[43]⟩ H2
            rw [hq] at HM
            refine HM.mono ?_
            rintro e w3 ⟨rfl, h3, k3⟩
            have H3 := Aside0.mk h3
            have K3 := Aside0.mk (K2.out.trans k3 (Or.inl rfl))
            have R3 := Aside0.mk (k3.blk R2.out hne (by simp))
            have S3 := Aside0.mk (k3.blk S2.out hneS (by simp))
            clear h3 k3 HM H2 K2 R2 S2
            go_wp2_with (fail)
            have HV := rd_value w0 _ g A c L (p + 2) E false H3 (by omega)
            rw [hr] at HV
            refine HV.mono ?_
            rintro e w4 ⟨k4, rfl, h4⟩
            have H4 := Aside0.mk h4
            have K4 := Aside0.mk (K3.out.trans k4 (Or.inl rfl))
            have R4 := Aside0.mk (k4.blk R3.out hne (by simp))
            have S4 := Aside0.mk (k4.blk S3.out hneS (by simp))
            clear h4 k4 HV H3 K3 R3 S3
            go_wp2_with (fail)
            refine (num_Signed.calls false v x er _ hsig).mono ?_
            rintro e w5 ⟨rfl, hd⟩
            have H5 := Aside0.mk (H4.out.after hd.below)
            have K5 := Aside0.mk (K4.out.trans (KeepBut.of_below hd.below g none) (Or.inl rfl))
            have R5 := Aside0.mk (blk_below R4.out hd.below)
            have S5 := Aside0.mk (blk_below S4.out hd.below)
            clear hd H4 K4 R4 S4
            go_wp2_with (fail)
            have HW := rd_wrong w0 _ g A c L q E' er H5
            rw [hw3] at HW
            refine HW.mono ?_
            rintro e w9 ⟨⟨ty, v, rfl⟩, rfl⟩
            go_wp2
            exact ⟨rfl, K5.out, ⟨_, _, rfl⟩, H5.out.below⟩
          | some E2 =>
            have hfd : ∀ w : World, (Instr.field 29 (.agg #[.int .i64 t.f0, .string t.f1, .int .u64 t.f2]) 1).run Tryd.prog w = .ok (.string t.f1) w := fun _ => by kernel_rfl
            go_enter Tryd.func42, Tryd.ntmps42
            go_wp2_with (fail)
            refine HP.out.mono ?_
            rintro e w1 ⟨rfl, hb⟩
            obtain ⟨_, rfl, hH1, hK1, hS1, hneS⟩ := (hH.after hb).box #[.string t.f1, .int .i64 0] 61
            have hws : w0.heap.size ≤ w1.heap.size := (hH.after hb).below.size
            have hwR : w.heap.size < w1.heap.size := Nat.lt_of_lt_of_le (blk_lt hB) hb.size
            have R1 := Aside0.mk (blk_far (blk_below (blk_below hB hb) (below_alloc (Below.refl _ _) (.cells #[.string t.f1, .int .i64 0] 61))) (p := ⟨g, 1, none⟩) hne (.int .i64 ((p + 1 : Nat) : Int)))
            have S1 := Aside0.mk (blk_far hS1 (p := ⟨g, 1, none⟩) hneS (.int .i64 ((p + 1 : Nat) : Int)))
            have K1 := Aside0.mk (((hK.trans (KeepBut.of_below hb g none) (Or.inl rfl)).trans hK1 (Or.inl rfl)).set_ 1 (.int .i64 ((p + 1 : Nat) : Int)))
            have H1 := Aside0.mk (hH1.setP (p + 1))
            have h1 : ∀ o, (w1.alloc o).cell? ⟨g, 1, none⟩ = some (.int .i64 (p : Int)) := fun o => (rd_cells ((hH.after hb).after (below_alloc (Below.refl _ _) o))).2.1
            have f1 : ∀ o, (w1.alloc o).frozen? ⟨g, 1, none⟩ = false := fun o => (rd_cells ((hH.after hb).after (below_alloc (Below.refl _ _) o))).2.2.2.1
            clear hb HP hW hH hK hB hH1 hK1 hS1
            go_wp2_with (fail)
            have HM := rd_sign w0 _ g A c L (p + 1) E ⟨#[45]⟩ H1
            rw [hm] at HM
            refine HM.mono ?_
            rintro e w2 ⟨rfl, h2, k2⟩
            have H2 := Aside0.mk h2
            have K2 := Aside0.mk (K1.out.trans k2 (Or.inl rfl))
            have R2 := Aside0.mk (k2.blk R1.out hne (by simp))
            have S2 := Aside0.mk (k2.blk S1.out hneS (by simp))
            clear h2 k2 HM H1 K1 R1 S1 h1 f1
            go_wp2_with (fail)
            have HM := rd_sign w0 _ g A c L (p + 1) E ⟨#[43]⟩ H2
            rw [hq] at HM
            refine HM.mono ?_
            rintro e w3 ⟨rfl, h3, k3⟩
            have H3 := Aside0.mk h3
            have K3 := Aside0.mk (K2.out.trans k3 (Or.inl rfl))
            have R3 := Aside0.mk (k3.blk R2.out hne (by simp))
            have S3 := Aside0.mk (k3.blk S2.out hneS (by simp))
            clear h3 k3 HM H2 K2 R2 S2
            go_wp2_with (fail)
            have HV := rd_value w0 _ g A c L (p + 2) E false H3 (by omega)
            rw [hr] at HV
            refine HV.mono ?_
            rintro e w4 ⟨k4, rfl, h4⟩
            have H4 := Aside0.mk h4
            have K4 := Aside0.mk (K3.out.trans k4 (Or.inl rfl))
            have R4 := Aside0.mk (k4.blk R3.out hne (by simp))
            have S4 := Aside0.mk (k4.blk S3.out hneS (by simp))
            clear h4 k4 HV H3 K3 R3 S3
            go_wp2_with (fail)
            refine (num_Signed.calls false v x er _ hsig).mono ?_
            rintro e w5 ⟨rfl, hd⟩
            have H5 := Aside0.mk (H4.out.after hd.below)
            have K5 := Aside0.mk (K4.out.trans (KeepBut.of_below hd.below g none) (Or.inl rfl))
            have R5 := Aside0.mk (blk_below R4.out hd.below)
            have S5 := Aside0.mk (blk_below S4.out hd.below)
            clear hd H4 K4 R4 S4
            go_wp2_with (fail)
            have HW := rd_wrong w0 _ g A c L q E' er H5
            rw [hw3] at HW
            refine HW.mono ?_
            rintro e w6 ⟨rfl, h6, k6⟩
            have H6 := Aside0.mk h6
            have K6 := Aside0.mk (K5.out.trans k6 (Or.inl rfl))
            have R6 := Aside0.mk (k6.blk R5.out hne (by simp))
            have S6 := Aside0.mk (k6.blk S5.out hneS (by simp))
            clear h6 k6 HW H5 K5 R5 S5
            have q0 : w6.cell? ⟨w1.heap.size, 0, none⟩ = some (.string t.f1) := (blk_cell S6.out 0).trans rfl
            have q1 : w6.cell? ⟨w1.heap.size, 1, none⟩ = some (.int .i64 0) := (blk_cell S6.out 1).trans rfl
            have qf : w6.frozen? ⟨w1.heap.size, 1, none⟩ = false := blk_frozen S6.out 1
            have r0 : w6.cell? ⟨w.heap.size, 0, none⟩ = some (.string ⟨#[]⟩) := (blk_cell R6.out 0).trans rfl
            have r1 : w6.cell? ⟨w.heap.size, 1, none⟩ = some (.int .i64 0) := (blk_cell R6.out 1).trans rfl
            have rf0 : w6.frozen? ⟨w.heap.size, 0, none⟩ = false := blk_frozen R6.out 0
            have rf1 : w6.frozen? ⟨w.heap.size, 1, none⟩ = false := blk_frozen R6.out 1
            have hRS : w.heap.size ≠ w1.heap.size := by omega
            have RS := Aside0.mk (blk_far R6.out (p := ⟨w1.heap.size, 1, none⟩) hRS (.int .i64 x))
            have KS := Aside0.mk (keep_set2 (b := w1.heap.size) (j := 1) (u := .int .i64 x) K6.out (by omega))
            have HS := Aside0.mk (H6.out.far (b := w1.heap.size) (j := 1) (.int .i64 x) hws hneS)
            go_wp2
            refine bodyPost_ret (results_cell_row rfl _ _ w.heap.size 61 #[_, _] (0, 0) _ rfl (blk_put (blk_put RS.out 0 _ rfl) 1 _ rfl) Tryd.underlying61 rfl (by kernel_rfl)) rfl ?_
            exact ⟨keep_set2 (keep_set2 KS.out (Nat.le_refl _)) (Nat.le_refl _), rfl, (HS.out.far _ hwW hne).far _ hwW hne⟩
  · rw [if_pos rfl]
    have hp2 : p + 2 ≤ L.length := by have := sgB_lt hm; omega
    generalize tk L p = t at *
    unfold addP
    cases hr : valP false L (p + 2) E with
    | none =>
      have hfd : ∀ w : World, (Instr.field 29 (.agg #[.int .i64 t.f0, .string t.f1, .int .u64 t.f2]) 1).run Tryd.prog w = .ok (.string t.f1) w := fun _ => by kernel_rfl
      go_enter Tryd.func42, Tryd.ntmps42
      go_wp2_with (fail)
      refine HP.out.mono ?_
      rintro e w1 ⟨rfl, hb⟩
      obtain ⟨_, rfl, hH1, hK1, hS1, hneS⟩ := (hH.after hb).box #[.string t.f1, .int .i64 0] 61
      have hws : w0.heap.size ≤ w1.heap.size := (hH.after hb).below.size
      have hwR : w.heap.size < w1.heap.size := Nat.lt_of_lt_of_le (blk_lt hB) hb.size
      have R1 := Aside0.mk (blk_far (blk_below (blk_below hB hb) (below_alloc (Below.refl _ _) (.cells #[.string t.f1, .int .i64 0] 61))) (p := ⟨g, 1, none⟩) hne (.int .i64 ((p + 1 : Nat) : Int)))
      have S1 := Aside0.mk (blk_far hS1 (p := ⟨g, 1, none⟩) hneS (.int .i64 ((p + 1 : Nat) : Int)))
      have K1 := Aside0.mk (((hK.trans (KeepBut.of_below hb g none) (Or.inl rfl)).trans hK1 (Or.inl rfl)).set_ 1 (.int .i64 ((p + 1 : Nat) : Int)))
      have H1 := Aside0.mk (hH1.setP (p + 1))
      have h1 : ∀ o, (w1.alloc o).cell? ⟨g, 1, none⟩ = some (.int .i64 (p : Int)) := fun o => (rd_cells ((hH.after hb).after (below_alloc (Below.refl _ _) o))).2.1
      have f1 : ∀ o, (w1.alloc o).frozen? ⟨g, 1, none⟩ = false := fun o => (rd_cells ((hH.after hb).after (below_alloc (Below.refl _ _) o))).2.2.2.1
      clear hb HP hW hH hK hB hH1 hK1 hS1
      go_wp2_with (fail)
      have HM := rd_sign w0 _ g A c L (p + 1) E ⟨#[45]⟩ H1
      rw [hm] at HM
      refine HM.mono ?_
      rintro e w2 ⟨rfl, h2, k2⟩
      have H2 := Aside0.mk h2
      have K2 := Aside0.mk (K1.out.trans k2 (Or.inl rfl))
      have R2 := Aside0.mk (k2.blk R1.out hne (by simp))
      have S2 := Aside0.mk (k2.blk S1.out hneS (by simp))
      clear h2 k2 HM H1 K1 R1 S1 h1 f1
      go_wp2_with (fail)
      have HV := rd_value w0 _ g A c L (p + 2) E false H2 (by omega)
      rw [hr] at HV
      refine HV.mono ?_
      rintro e w3 ⟨k3, ⟨ty, v, rfl⟩, hb⟩
      go_wp2
      exact ⟨rfl, K2.out.trans k3 (Or.inl rfl), ⟨_, _, rfl⟩, hb⟩
    | some y =>
      obtain ⟨v, q, E'⟩ := y
      obtain ⟨⟨x, er⟩, hx⟩ : ∃ z, sigS true v = z := ⟨_, rfl⟩
      have hsig := (sigS_f true v).trans (congrArg some hx)
      rw [Option.bind_some]
      simp only [hx]
      by_cases he : er = 0
      · rw [if_pos he]
        have c3 : (er != 0) = false := by rw [he]; rfl
        have hfd : ∀ w : World, (Instr.field 29 (.agg #[.int .i64 t.f0, .string t.f1, .int .u64 t.f2]) 1).run Tryd.prog w = .ok (.string t.f1) w := fun _ => by kernel_rfl
        go_enter Tryd.func42, Tryd.ntmps42
        go_wp2_with (fail)
        refine HP.out.mono ?_
        rintro e w1 ⟨rfl, hb⟩
        obtain ⟨_, rfl, hH1, hK1, hS1, hneS⟩ := (hH.after hb).box #[.string t.f1, .int .i64 0] 61
        have hws : w0.heap.size ≤ w1.heap.size := (hH.after hb).below.size
        have hwR : w.heap.size < w1.heap.size := Nat.lt_of_lt_of_le (blk_lt hB) hb.size
        have R1 := Aside0.mk (blk_far (blk_below (blk_below hB hb) (below_alloc (Below.refl _ _) (.cells #[.string t.f1, .int .i64 0] 61))) (p := ⟨g, 1, none⟩) hne (.int .i64 ((p + 1 : Nat) : Int)))
        have S1 := Aside0.mk (blk_far hS1 (p := ⟨g, 1, none⟩) hneS (.int .i64 ((p + 1 : Nat) : Int)))
        have K1 := Aside0.mk (((hK.trans (KeepBut.of_below hb g none) (Or.inl rfl)).trans hK1 (Or.inl rfl)).set_ 1 (.int .i64 ((p + 1 : Nat) : Int)))
        have H1 := Aside0.mk (hH1.setP (p + 1))
        have h1 : ∀ o, (w1.alloc o).cell? ⟨g, 1, none⟩ = some (.int .i64 (p : Int)) := fun o => (rd_cells ((hH.after hb).after (below_alloc (Below.refl _ _) o))).2.1
        have f1 : ∀ o, (w1.alloc o).frozen? ⟨g, 1, none⟩ = false := fun o => (rd_cells ((hH.after hb).after (below_alloc (Below.refl _ _) o))).2.2.2.1
        clear hb HP hW hH hK hB hH1 hK1 hS1
        go_wp2_with (fail)
        have HM := rd_sign w0 _ g A c L (p + 1) E ⟨#[45]⟩ H1
        rw [hm] at HM
        refine HM.mono ?_
        rintro e w2 ⟨rfl, h2, k2⟩
        have H2 := Aside0.mk h2
        have K2 := Aside0.mk (K1.out.trans k2 (Or.inl rfl))
        have R2 := Aside0.mk (k2.blk R1.out hne (by simp))
        have S2 := Aside0.mk (k2.blk S1.out hneS (by simp))
        clear h2 k2 HM H1 K1 R1 S1 h1 f1
        go_wp2_with (fail)
        have HV := rd_value w0 _ g A c L (p + 2) E false H2 (by omega)
        rw [hr] at HV
        refine HV.mono ?_
        rintro e w3 ⟨k3, rfl, h3⟩
        have H3 := Aside0.mk h3
        have K3 := Aside0.mk (K2.out.trans k3 (Or.inl rfl))
        have R3 := Aside0.mk (k3.blk R2.out hne (by simp))
        have S3 := Aside0.mk (k3.blk S2.out hneS (by simp))
        clear h3 k3 HV H2 K2 R2 S2
        go_wp2_with (fail)
        refine (num_Signed.calls true v x er _ hsig).mono ?_
        rintro e w4 ⟨rfl, hd⟩
        have H4 := Aside0.mk (H3.out.after hd.below)
        have K4 := Aside0.mk (K3.out.trans (KeepBut.of_below hd.below g none) (Or.inl rfl))
        have R4 := Aside0.mk (blk_below R3.out hd.below)
        have S4 := Aside0.mk (blk_below S3.out hd.below)
        clear hd H3 K3 R3 S3
        have q0 : w4.cell? ⟨w1.heap.size, 0, none⟩ = some (.string t.f1) := (blk_cell S4.out 0).trans rfl
        have q1 : w4.cell? ⟨w1.heap.size, 1, none⟩ = some (.int .i64 0) := (blk_cell S4.out 1).trans rfl
        have qf : w4.frozen? ⟨w1.heap.size, 1, none⟩ = false := blk_frozen S4.out 1
        have r0 : w4.cell? ⟨w.heap.size, 0, none⟩ = some (.string ⟨#[]⟩) := (blk_cell R4.out 0).trans rfl
        have r1 : w4.cell? ⟨w.heap.size, 1, none⟩ = some (.int .i64 0) := (blk_cell R4.out 1).trans rfl
        have rf0 : w4.frozen? ⟨w.heap.size, 0, none⟩ = false := blk_frozen R4.out 0
        have rf1 : w4.frozen? ⟨w.heap.size, 1, none⟩ = false := blk_frozen R4.out 1
        have hRS : w.heap.size ≠ w1.heap.size := by omega
        have RS := Aside0.mk (blk_far R4.out (p := ⟨w1.heap.size, 1, none⟩) hRS (.int .i64 x))
        have KS := Aside0.mk (keep_set2 (b := w1.heap.size) (j := 1) (u := .int .i64 x) K4.out (by omega))
        have HS := Aside0.mk (H4.out.far (b := w1.heap.size) (j := 1) (.int .i64 x) hws hneS)
        go_wp2
        refine bodyPost_ret (results_cell_row rfl _ _ w.heap.size 61 #[_, _] (0, 0) _ rfl (blk_put (blk_put RS.out 0 _ rfl) 1 _ rfl) Tryd.underlying61 rfl (by kernel_rfl)) rfl ?_
        exact ⟨keep_set2 (keep_set2 KS.out (Nat.le_refl _)) (Nat.le_refl _), rfl, (HS.out.far _ hwW hne).far _ hwW hne⟩
      · rw [if_neg he]
        have c3 : (er != 0) = true := bne_iff_ne.2 he
        cases hw3 : wrE er E' with
        | none =>
          have hfd : ∀ w : World, (Instr.field 29 (.agg #[.int .i64 t.f0, .string t.f1, .int .u64 t.f2]) 1).run Tryd.prog w = .ok (.string t.f1) w := fun _ => by kernel_rfl
          go_enter Tryd.func42, Tryd.ntmps42
          go_wp2_with (fail)
          refine HP.out.mono ?_
          rintro e w1 ⟨rfl, hb⟩
          obtain ⟨_, rfl, hH1, hK1, hS1, hneS⟩ := (hH.after hb).box #[.string t.f1, .int .i64 0] 61
          have hws : w0.heap.size ≤ w1.heap.size := (hH.after hb).below.size
          have hwR : w.heap.size < w1.heap.size := Nat.lt_of_lt_of_le (blk_lt hB) hb.size
          have R1 := Aside0.mk (blk_far (blk_below (blk_below hB hb) (below_alloc (Below.refl _ _) (.cells #[.string t.f1, .int .i64 0] 61))) (p := ⟨g, 1, none⟩) hne (.int .i64 ((p + 1 : Nat) : Int)))
          have S1 := Aside0.mk (blk_far hS1 (p := ⟨g, 1, none⟩) hneS (.int .i64 ((p + 1 : Nat) : Int)))
          have K1 := Aside0.mk (((hK.trans (KeepBut.of_below hb g none) (Or.inl rfl)).trans hK1 (Or.inl rfl)).set_ 1 (.int .i64 ((p + 1 : Nat) : Int)))
          have H1 := Aside0.mk (hH1.setP (p + 1))
          have h1 : ∀ o, (w1.alloc o).cell? ⟨g, 1, none⟩ = some (.int .i64 (p : Int)) := fun o => (rd_cells ((hH.after hb).after (below_alloc (Below.refl _ _) o))).2.1
          have f1 : ∀ o, (w1.alloc o).frozen? ⟨g, 1, none⟩ = false := fun o => (rd_cells ((hH.after hb).after (below_alloc (Below.refl _ _) o))).2.2.2.1
          clear hb HP hW hH hK hB hH1 hK1 hS1
          go_wp2_with (fail)
          have HM := rd_sign w0 _ g A c L (p + 1) E ⟨#[45]⟩ H1
          rw [hm] at HM
          refine HM.mono ?_
          rintro e w2 ⟨rfl, h2, k2⟩
          have H2 := Aside0.mk h2
          have K2 := Aside0.mk (K1.out.trans k2 (Or.inl rfl))
          have R2 := Aside0.mk (k2.blk R1.out hne (by simp))
          have S2 := Aside0.mk (k2.blk S1.out hneS (by simp))
          clear h2 k2 HM H1 K1 R1 S1 h1 f1
          go_wp2_with (fail)
          have HV := rd_value w0 _ g A c L (p + 2) E false H2 (by omega)
          rw [hr] at HV
          refine HV.mono ?_
          rintro e w3 ⟨k3, rfl, h3⟩
          have H3 := Aside0.mk h3
          have K3 := Aside0.mk (K2.out.trans k3 (Or.inl rfl))
          have R3 := Aside0.mk (k3.blk R2.out hne (by simp))
          have S3 := Aside0.mk (k3.blk S2.out hneS (by simp))
          clear h3 k3 HV H2 K2 R2 S2
          go_wp2_with (fail)
          refine (num_Signed.calls true v x er _ hsig).mono ?_
          rintro e w4 ⟨rfl, hd⟩
          have H4 := Aside0.mk (H3.out.after hd.below)
          have K4 := Aside0.mk (K3.out.trans (KeepBut.of_below hd.below g none) (Or.inl rfl))
          have R4 := Aside0.mk (blk_below R3.out hd.below)
          have S4 := Aside0.mk (blk_below S3.out hd.below)
          clear hd H3 K3 R3 S3
          go_wp2_with (fail)
          have HW := rd_wrong w0 _ g A c L q E' er H4
          rw [hw3] at HW
          refine HW.mono ?_
          rintro e w9 ⟨⟨ty, v, rfl⟩, rfl⟩
          go_wp2
          exact ⟨rfl, K4.out, ⟨_, _, rfl⟩, H4.out.below⟩
        | some E2 =>
          have hfd : ∀ w : World, (Instr.field 29 (.agg #[.int .i64 t.f0, .string t.f1, .int .u64 t.f2]) 1).run Tryd.prog w = .ok (.string t.f1) w := fun _ => by kernel_rfl
          go_enter Tryd.func42, Tryd.ntmps42
          go_wp2_with (fail)
          refine HP.out.mono ?_
          rintro e w1 ⟨rfl, hb⟩
          obtain ⟨_, rfl, hH1, hK1, hS1, hneS⟩ := (hH.after hb).box #[.string t.f1, .int .i64 0] 61
          have hws : w0.heap.size ≤ w1.heap.size := (hH.after hb).below.size
          have hwR : w.heap.size < w1.heap.size := Nat.lt_of_lt_of_le (blk_lt hB) hb.size
          have R1 := Aside0.mk (blk_far (blk_below (blk_below hB hb) (below_alloc (Below.refl _ _) (.cells #[.string t.f1, .int .i64 0] 61))) (p := ⟨g, 1, none⟩) hne (.int .i64 ((p + 1 : Nat) : Int)))
          have S1 := Aside0.mk (blk_far hS1 (p := ⟨g, 1, none⟩) hneS (.int .i64 ((p + 1 : Nat) : Int)))
          have K1 := Aside0.mk (((hK.trans (KeepBut.of_below hb g none) (Or.inl rfl)).trans hK1 (Or.inl rfl)).set_ 1 (.int .i64 ((p + 1 : Nat) : Int)))
          have H1 := Aside0.mk (hH1.setP (p + 1))
          have h1 : ∀ o, (w1.alloc o).cell? ⟨g, 1, none⟩ = some (.int .i64 (p : Int)) := fun o => (rd_cells ((hH.after hb).after (below_alloc (Below.refl _ _) o))).2.1
          have f1 : ∀ o, (w1.alloc o).frozen? ⟨g, 1, none⟩ = false := fun o => (rd_cells ((hH.after hb).after (below_alloc (Below.refl _ _) o))).2.2.2.1
          clear hb HP hW hH hK hB hH1 hK1 hS1
          go_wp2_with (fail)
          have HM := rd_sign w0 _ g A c L (p + 1) E ⟨#[45]⟩ H1
          rw [hm] at HM
          refine HM.mono ?_
          rintro e w2 ⟨rfl, h2, k2⟩
          have H2 := Aside0.mk h2
          have K2 := Aside0.mk (K1.out.trans k2 (Or.inl rfl))
          have R2 := Aside0.mk (k2.blk R1.out hne (by simp))
          have S2 := Aside0.mk (k2.blk S1.out hneS (by simp))
          clear h2 k2 HM H1 K1 R1 S1 h1 f1
          go_wp2_with (fail)
          have HV := rd_value w0 _ g A c L (p + 2) E false H2 (by omega)
          rw [hr] at HV
          refine HV.mono ?_
          rintro e w3 ⟨k3, rfl, h3⟩
          have H3 := Aside0.mk h3
          have K3 := Aside0.mk (K2.out.trans k3 (Or.inl rfl))
          have R3 := Aside0.mk (k3.blk R2.out hne (by simp))
          have S3 := Aside0.mk (k3.blk S2.out hneS (by simp))
          clear h3 k3 HV H2 K2 R2 S2
          go_wp2_with (fail)
          refine (num_Signed.calls true v x er _ hsig).mono ?_
          rintro e w4 ⟨rfl, hd⟩
          have H4 := Aside0.mk (H3.out.after hd.below)
          have K4 := Aside0.mk (K3.out.trans (KeepBut.of_below hd.below g none) (Or.inl rfl))
          have R4 := Aside0.mk (blk_below R3.out hd.below)
          have S4 := Aside0.mk (blk_below S3.out hd.below)
          clear hd H3 K3 R3 S3
          go_wp2_with (fail)
          have HW := rd_wrong w0 _ g A c L q E' er H4
          rw [hw3] at HW
          refine HW.mono ?_
          rintro e w5 ⟨rfl, h5, k5⟩
          have H5 := Aside0.mk h5
          have K5 := Aside0.mk (K4.out.trans k5 (Or.inl rfl))
          have R5 := Aside0.mk (k5.blk R4.out hne (by simp))
          have S5 := Aside0.mk (k5.blk S4.out hneS (by simp))
          clear h5 k5 HW H4 K4 R4 S4
          have q0 : w5.cell? ⟨w1.heap.size, 0, none⟩ = some (.string t.f1) := (blk_cell S5.out 0).trans rfl
          have q1 : w5.cell? ⟨w1.heap.size, 1, none⟩ = some (.int .i64 0) := (blk_cell S5.out 1).trans rfl
          have qf : w5.frozen? ⟨w1.heap.size, 1, none⟩ = false := blk_frozen S5.out 1
          have r0 : w5.cell? ⟨w.heap.size, 0, none⟩ = some (.string ⟨#[]⟩) := (blk_cell R5.out 0).trans rfl
          have r1 : w5.cell? ⟨w.heap.size, 1, none⟩ = some (.int .i64 0) := (blk_cell R5.out 1).trans rfl
          have rf0 : w5.frozen? ⟨w.heap.size, 0, none⟩ = false := blk_frozen R5.out 0
          have rf1 : w5.frozen? ⟨w.heap.size, 1, none⟩ = false := blk_frozen R5.out 1
          have hRS : w.heap.size ≠ w1.heap.size := by omega
          have RS := Aside0.mk (blk_far R5.out (p := ⟨w1.heap.size, 1, none⟩) hRS (.int .i64 x))
          have KS := Aside0.mk (keep_set2 (b := w1.heap.size) (j := 1) (u := .int .i64 x) K5.out (by omega))
          have HS := Aside0.mk (H5.out.far (b := w1.heap.size) (j := 1) (.int .i64 x) hws hneS)
          go_wp2
          refine bodyPost_ret (results_cell_row rfl _ _ w.heap.size 61 #[_, _] (0, 0) _ rfl (blk_put (blk_put RS.out 0 _ rfl) 1 _ rfl) Tryd.underlying61 rfl (by kernel_rfl)) rfl ?_
          exact ⟨keep_set2 (keep_set2 KS.out (Nat.le_refl _)) (Nat.le_refl _), rfl, (HS.out.far _ hwW hne).far _ hwW hne⟩

-- NOT PRINTED: function 58 (strconv_small)

-- NOT PRINTED: function 67 (strconv_log10Pow2)

-- NOT PRINTED: function 68 (bits_Len64)

-- NOT PRINTED: function 69 (strconv_bool2_int)

-- NOT PRINTED: function 59 (strconv_numDigits)

-- NOT PRINTED: function 60 (strconv_formatBase10)

/-! ### strconv_isPowerOfTwo: function 70 -/
def strconv_isPowerOfTwo.f (a0 : Int) : Option (Bool) := some ((Go.bits .and .i64 a0 (wrap64 (a0 - 1))) == 0)
set_option maxHeartbeats 8000000 in
set_option maxRecDepth 100000 in
theorem strconv_isPowerOfTwo.calls (a0 : Int) (r : Bool) (w : World) (h : strconv_isPowerOfTwo.f a0 = some r) :
  Calls Tryd.prog 70 #[.int .i64 a0] w fun e w' => e = .returned (.bool r) ∧ Drawn0 w w' := by
 have H : (some ((Go.bits .and .i64 a0 (wrap64 (a0 - 1))) == 0)) = some r := h
 clear h
 obtain rfl := Option.some.inj H
 go_enter Tryd.func70, Tryd.ntmps70
 go_wp2
 go_ret
 exact ⟨by first | rfl | (simp; done) | (simp [*]; done), by repeat (first | exact Drawn0.refl _ | apply Drawn0.step)⟩

-- NOT PRINTED: function 79 (bits_TrailingZeros32)

/-! ### bits_TrailingZeros64: function 80 -/
def bits_TrailingZeros64.f (a0 : Int) : Option Int := if a0 = 16 then some 4 else none
theorem bits_TrailingZeros64.calls (a0 : Int) (r : Int) (w : World) (h : bits_TrailingZeros64.f a0 = some r) (HT : Aside0 (Tabs w)) :
    Calls Tryd.prog 80 #[.int .u64 a0] w fun e w' => e = .returned (.int .i64 r) ∧ Drawn0 w w' := by
  unfold bits_TrailingZeros64.f at h
  by_cases hb : a0 = 16
  · rw [if_pos hb] at h
    obtain rfl := Option.some.inj h
    subst hb
    have hc : w.cell? ⟨5, 15, none⟩ = some (.int .u8 4) := HT.out.db64 15 (by decide)
    clear h
    have hx : IntKind.u64.wrap (Go.bits BinOp.and IntKind.u64 16 (IntKind.u64.wrap (-16)) * 285870213051353865) / 288230376151711744 = 15 := by decide +kernel
    go_enter Tryd.func80, Tryd.ntmps80
    go_wp2
    go_ret
    exact ⟨rfl, Drawn0.refl _⟩
  · rw [if_neg hb] at h
    cases h

/-! ### bits_TrailingZeros: function 71 -/
def bits_TrailingZeros.f (a0 : Int) : Option Int := if a0 = 16 then some 4 else none
theorem bits_TrailingZeros.calls (a0 : Int) (r : Int) (w : World) (h : bits_TrailingZeros.f a0 = some r) (HT : Aside0 (Tabs w)) :
    Calls Tryd.prog 71 #[.int .u64 a0] w fun e w' => e = .returned (.int .i64 r) ∧ Drawn0 w w' := by
  have hx := bits_TrailingZeros64.calls a0 r w (by exact h) HT
  have HX := Aside0.mk hx
  clear hx h HT
  go_enter Tryd.func71, Tryd.ntmps71
  go_wp2_with (fail)
  refine HX.out.mono ?_
  rintro e w' ⟨rfl, ⟨nd, rfl⟩⟩
  go_wp2
  go_ret
  exact ⟨rfl, ⟨⟨_, rfl⟩⟩⟩

-- NOT PRINTED: function 61 (strconv_formatBits)

/-! ### strconv_FormatUint_46: function 46 -/
/-! ### digits of ten and of sixteen -/
def hexC (n : Nat) : UInt8 := ([48, 49, 50, 51, 52, 53, 54, 55, 56, 57, 97, 98, 99, 100, 101, 102] : List UInt8).getD n 0
def hexL : Nat → Nat → List UInt8
  | 0, _ => []
  | f + 1, n => if n < 16 then [hexC n] else hexL f (n / 16) ++ [hexC (n % 16)]
def digC : ByteArray := ⟨#[48, 49, 50, 51, 52, 53, 54, 55, 56, 57, 97, 98, 99, 100, 101, 102, 103, 104, 105, 106, 107, 108, 109, 110, 111, 112, 113, 114, 115, 116, 117, 118, 119, 120, 121, 122]⟩
theorem digC_at : ∀ n : Fin 16, digC.data.toList.getD n.val 0 = hexC n.val := by decide +kernel
theorem idx_digC (n : Nat) (k : IntKind) (z : Int) (hz : z = (n : Int)) (hn : n < 16) (w : World) : (Instr.index 9 (.string (⟨#[48, 49, 50, 51, 52, 53, 54, 55, 56, 57, 97, 98, 99, 100, 101, 102, 103, 104, 105, 106, 107, 108, 109, 110, 111, 112, 113, 114, 115, 116, 117, 118, 119, 120, 121, 122]⟩ : ByteArray)) (.int k z)).run Tryd.prog w = .ok (.int .u8 ((hexC n).toNat : Int)) w := by
  subst hz
  have hs : n < digC.size := by show n < 36; omega
  have h := digC_at ⟨n, hn⟩
  show (Instr.index 9 (.string digC) (.int k (n : Int))).run Tryd.prog w = _
  rw [run_index_string w 9 digC k _ Tryd.underlying9, dif_pos ⟨by omega, by omega⟩]
  have e : ((n : Int)).toNat = n := by omega
  simp only [e]
  rw [Go.Lib.getD_at digC n hs, h]
/-! ### the buffer of formatBits -/
abbrev encB : UInt8 → Value := fun (b : UInt8) => Value.int .u8 (b.toNat : Int)
abbrev bufW (w : World) (dk : Array UInt8) (n : Nat) : World := (Go.Sort.putRow encB (w.alloc (.cells (Array.replicate 65 (.int .u8 0)) 121)) w.heap.size 0 dk).drewN n
theorem buf_holds (w : World) : Go.Sort.Holds encB (w.alloc (.cells (Array.replicate 65 (.int .u8 0)) 121)) w.heap.size 0 (Array.replicate 65 (0 : UInt8)) := fun j hj => by
  have hj' : j < 65 := by simpa using hj
  refine ⟨?_, World.frozen?_alloc_new _ _ _ _⟩
  rw [World.cell?_alloc_new, getElem!_pos _ j hj, Array.getElem?_replicate, if_pos (by omega)]
  simp
/-- What holds at the loop's head. -/
structure BufI (v u i : Nat) (dk : Array UInt8) : Prop where
  size : dk.size = 65
  lo : 50 ≤ i
  hi : i ≤ 65
  lt : u < 16 ^ (i - 49)
  eq : hexL (i - 49) u ++ dk.toList.drop i = hexL 16 v
theorem BufI.start (v : Nat) (hv : v < 18446744073709551616) : BufI v v 65 (Array.replicate 65 0) :=
  ⟨by simp, by omega, by omega, hv, by simp⟩
theorem BufI.facts {v u i : Nat} {dk : Array UInt8} (h : BufI v u i dk) : dk.size = 65 ∧ 50 ≤ i ∧ i ≤ 65 ∧ u < 18446744073709551616 := by
  refine ⟨h.size, h.lo, h.hi, Nat.lt_of_lt_of_le h.lt ?_⟩
  have : 16 ^ (i - 49) ≤ 16 ^ 16 := Nat.pow_le_pow_right (by omega) (by have := h.hi; omega)
  exact this
theorem hexL_lt (n : Nat) (h : n < 16) : ∀ f, 0 < f → hexL f n = [hexC n]
  | 0, h0 => absurd h0 (by omega)
  | f + 1, _ => by rw [hexL, if_pos h]
theorem drop_set (dk : Array UInt8) (j : Nat) (x : UInt8) (h : j < dk.size) : (dk.setIfInBounds j x).toList.drop j = x :: dk.toList.drop (j + 1) := by
  rw [Array.toList_setIfInBounds, List.drop_eq_getElem_cons (by simpa using h)]
  simp [List.drop_set_of_lt]
theorem BufI.step {v u j : Nat} {dk : Array UInt8} (h : BufI v u (j + 1) dk) (h16 : 16 ≤ u) : BufI v (u / 16) j (dk.setIfInBounds j (hexC (u % 16))) := by
  have h1 := h.lo
  have h2 := h.hi
  have h3 := h.size
  obtain ⟨f, hf⟩ : ∃ f, j + 1 - 49 = f + 1 := ⟨j - 49, by omega⟩
  have hf' : j - 49 = f := by omega
  have hlt := h.lt
  have heq := h.eq
  rw [hf] at hlt heq
  have hf0 : f ≠ 0 := fun e => by subst e; simp at hlt; omega
  refine ⟨by simpa using h3, by omega, by omega, ?_, ?_⟩
  · rw [hf']
    rw [Nat.pow_succ] at hlt
    exact Nat.div_lt_of_lt_mul (by rw [Nat.mul_comm]; exact hlt)
  · rw [hf', drop_set dk j _ (by omega), ← heq, hexL, if_neg (by omega), List.append_assoc]
    rfl
theorem BufI.last {v u j : Nat} {dk : Array UInt8} (h : BufI v u (j + 1) dk) (h16 : u < 16) : hexL 16 v = hexC u :: dk.toList.drop (j + 1) := by
  have h1 := h.lo
  have heq := h.eq
  rw [hexL_lt u h16 _ (by omega)] at heq
  exact heq.symm
theorem BufI.length {v u j : Nat} {dk : Array UInt8} (h : BufI v u (j + 1) dk) (h16 : u < 16) : (hexL 16 v).length = 65 - j := by
  have h1 := h.lo
  have h2 := h.hi
  have h3 := h.size
  rw [h.last h16]
  simp [h3]
  omega
theorem bufW_store (w : World) (dk : Array UInt8) (n j : Nat) (x : UInt8) (h : j < dk.size) : (bufW w dk n).setCell ⟨w.heap.size, j, none⟩ (.int .u8 (x.toNat : Int)) = bufW w (dk.setIfInBounds j x) n := by
  have e := Go.Lib.store1_world (w.alloc (.cells (Array.replicate 65 (.int .u8 0)) 121)) w.heap.size 0 dk n j x h
  rw [Nat.zero_add] at e
  exact e
theorem bufW_below (w : World) (dk : Array UInt8) (n : Nat) : Below w.heap.size w (bufW w dk n) := by
  obtain ⟨os, e⟩ := Go.Lib.fin_at w (.cells (Array.replicate 65 (.int .u8 0)) 121) dk n 0
  unfold bufW
  rw [e]
  exact Go.Lib.below_grow _ w (Nat.le_refl _) n os
set_option maxHeartbeats 4000000 in
set_option maxRecDepth 100000 in
theorem strconv_formatBits16 (v : Nat) (w : World) (hv : v < 18446744073709551616) (HT : Aside0 (Tabs w)) :
    Calls Tryd.prog 61 #[.slice none 0 0, .int .u64 (v : Int), .int .i64 16, .bool false, .bool false] w fun e w' => e = .returned (.tuple #[.slice none 0 0, .string ⟨(hexL 16 v).toArray⟩]) ∧ Below w.heap.size w w' := by
  have hz : ∀ W : World, Sem.run Tryd.prog (zeroValue 121) W = .ok (.agg (Array.replicate 65 (.int .u8 0))) W := fun W => by rfl
  have HP := Aside0.mk (strconv_isPowerOfTwo.calls 16 true (w.alloc (.cells (Array.replicate 65 (.int .u8 0)) 121)) (by decide +kernel))
  have HZ := Aside0.mk (fun W (h : Aside0 (Tabs W)) => bits_TrailingZeros.calls 16 4 W rfl h)
  have HT1 : Aside0 (Tabs (w.alloc (.cells (Array.replicate 65 (.int .u8 0)) 121))) := tabs_of HT (below_alloc (Below.refl _ _) _)
  go_enter Tryd.func61, Tryd.ntmps61
  go_wp2_with (fail)
  refine (HP.out).mono ?_
  rintro e w1 ⟨rfl, ⟨nd, rfl⟩⟩
  go_wp2_with (fail)
  refine (HZ.out _ (tabs_of HT1 (pw_below_drewN (Below.refl _ _) _))).mono ?_
  rintro e w1 ⟨rfl, ⟨nd2, rfl⟩⟩
  clear HP HZ HT HT1
  go_wp2
  have HB0 := Aside0.mk (buf_holds w)
  go_loopw [1, 13] (fun vu vi wr => ∃ (u i n : Nat) (dk : Array UInt8), vu = .int .u64 (u : Int) ∧ vi = .int .i64 (i : Int) ∧ Aside0 (wr = bufW w dk n) ∧ Aside0 (BufI v u i dk)) (fun _ vi _ => (intOf vi).toNat)
  case atStart => exact ⟨v, 65, nd + nd2, Array.replicate 65 0, rfl, rfl, ⟨by unfold bufW; rw [Go.Sort.putRow_self _ _ _ _ _ HB0.out]⟩, ⟨BufI.start v hv⟩⟩
  case round =>
    obtain ⟨u, i, n, dk, rfl, rfl, HW, HI⟩ := hrel
    rename World => W0
    obtain ⟨hs, hi1, hi2, hu⟩ := HI.out.facts
    obtain ⟨j, rfl⟩ : ∃ j, i = j + 1 := ⟨i - 1, by omega⟩
    have hH : Go.Sort.Holds encB W0 w.heap.size 0 dk := by rw [HW.out]; exact Go.Sort.holds_putRow _ _ _ _ _ dk HB0.out (by rw [hs]; simp)
    obtain ⟨g, hg⟩ : ∃ g : Int, g = (dk[j]!.toNat : Int) := ⟨_, rfl⟩
    have hcell : W0.cell? ⟨w.heap.size, j, none⟩ = some (.int .u8 g) := by have := (hH j (by omega)).1; rw [Nat.zero_add] at this; rw [this, hg]
    have hfz : W0.frozen? ⟨w.heap.size, j, none⟩ = false := by have := (hH j (by omega)).2; rw [Nat.zero_add] at this; exact this
    have hal : (Tryd.prog.arrayLen 121) = 65 := by kernel_rfl
    have HS := Aside0.mk hs
    clear hs hg hH
    by_cases h16 : u < 16
    · have hX : ∀ w, _ := idx_digC u .u64 _ rfl (by omega)
      have hlo : (0 : Int) ≤ (u : Int) := by omega
      have hhi : (u : Int) < 36 := by omega
      have c1 : decide ((16 : Int) ≤ (u : Int)) = false := decide_eq_false (by omega)
      have hsl : ∀ W, (Instr.sliceAt 121 (.pointer (some ⟨w.heap.size, 0, none⟩)) (some (.int .i64 (j : Int))) none none).run Tryd.prog W = .ok (.slice (some ⟨w.heap.size, j, none⟩) (hexL 16 v).length (65 - j)) W := fun W => by
        rw [run_sliceAt_array_l W 121 ⟨w.heap.size, 0, none⟩ (by simp [Program.arrayLen, Program.elem, Tryd.underlying121]) .i64 (j : Int) (by omega) (by rw [hal]; omega)]
        rw [HI.out.length (by omega)]
        go_simp
        omega
      have hcv := run_convert_bytes_back (P := Tryd.prog) (W0.setCell ⟨w.heap.size, j, none⟩ (.int .u8 ((hexC u).toNat : Int))) 99 9 5 ⟨w.heap.size, j, none⟩ (65 - j) (hexL 16 v) Tryd.underlying99 Tryd.underlying5 Tryd.underlying9 (fun q hq => by
        rw [Go.Lib.add_plain]
        have hl := HI.out.last (by omega)
        rw [HI.out.length (by omega)] at hq
        cases q with
        | zero =>
          rw [Nat.add_zero, World.cell?_setCell_same _ _ _ hcell]
          simp only [hl, List.getElem_cons_zero]
        | succ q =>
          rw [World.cell?_setCell_other _ _ _ _ (by simp), HW.out, World.cell?_drewN]
          have := Go.Sort.cell?_putRow encB (w.alloc (.cells (Array.replicate 65 (.int .u8 0)) 121)) w.heap.size 0 _ dk HB0.out (by rw [HS.out]; simp) (j + (q + 1)) (by rw [HS.out]; omega)
          rw [Nat.zero_add] at this
          rw [this]
          simp only [hl, List.getElem_cons_succ, List.getElem_drop]
          rw [getElem!_pos _ _ (by rw [HS.out]; omega)]
          simp [show j + (q + 1) = j + 1 + q by omega])
      have HBl : Aside0 (Below w.heap.size w (W0.setCell ⟨w.heap.size, j, none⟩ (.int .u8 ((hexC u).toNat : Int)))) := ⟨by
        rw [HW.out, bufW_store w dk n j _ (by rw [HS.out]; omega)]
        exact bufW_below w _ n⟩
      clear h16
      go_wp2
      go_ret2
      exact ⟨rfl, HBl.out⟩
    · obtain ⟨x, hx'⟩ : ∃ x, u % 16 = x := ⟨_, rfl⟩
      have hx : Go.bits .and .u64 (u : Int) 15 = (x : Int) := by
        have := (K.b64 u 15 (by omega) (by decide)).1
        rw [Nat.and_two_pow_sub_one_eq_mod u 4] at this
        rw [← hx']
        exact this
      have hX : ∀ w, _ := idx_digC x .u64 _ rfl (by omega)
      have hlo : (0 : Int) ≤ (x : Int) := by omega
      have hhi : (x : Int) < 36 := by omega
      have HS2 : Aside0 (BufI v (u / 16) j (dk.setIfInBounds j (hexC x))) := ⟨hx' ▸ HI.out.step (by omega)⟩
      clear hx'
      have c1 : decide ((16 : Int) ≤ (u : Int)) = true := decide_eq_true (by omega)
      clear h16
      go_wp2
      go_roundw
      case rel => exact ⟨u / 16, j, n, dk.setIfInBounds j (hexC x), by congr 1 <;> omega, by go_num, ⟨by rw [HW.out]; exact bufW_store w dk n j _ (by rw [HS.out]; omega)⟩, HS2⟩
      case measure => simp [intOf]

def decS (n : Nat) : ByteArray := ⟨(Go.Lib.decDigits n).toArray⟩
def hexT (n : Nat) : ByteArray := ⟨(hexL 16 n).toArray⟩
def strconv_FormatUint_46.f (a0 a1 : Int) : Option ByteArray := if 0 ≤ a0 ∧ a0 < 18446744073709551616 ∧ (a1 = 10 ∨ a1 = 16) then some (if a1 = 10 then decS a0.toNat else hexT a0.toNat) else none
theorem strconv_FormatUint_46.calls16 (v : Nat) (w : World) (hv : v < 18446744073709551616) (HT : Aside0 (Tabs w)) :
    Calls Tryd.prog 46 #[.int .u64 (v : Int), .int .i64 16] w fun e w' => e = .returned (.string (hexT v)) ∧ Below w.heap.size w w' := by
  have HC := Aside0.mk (strconv_formatBits16 v w hv HT)
  clear HT hv
  go_enter Tryd.func46, Tryd.ntmps46
  go_wp2_with (fail)
  refine HC.out.mono ?_
  rintro e w1 ⟨rfl, hb⟩
  have HB := Aside0.mk hb
  clear hb
  go_wp2
  go_ret
  exact ⟨rfl, HB.out⟩
theorem strconv_FormatUint_46.calls10s (v : Nat) (w : World) (hv : v < 100) :
    Calls Tryd.prog 46 #[.int .u64 (v : Int), .int .i64 10] w fun e w' => e = .returned (.string (decS v)) ∧ Below w.heap.size w w' := by
  have HC := Aside0.mk (Tryd.internal_strconv_small v hv w)
  have c1 : decide ((v : Int) < 100) = true := decide_eq_true (by omega)
  have c2 : (0 : Int) ≤ (v : Int) := by omega
  have c3 : (v : Int) ≤ 99 := by omega
  clear hv
  go_enter Tryd.func46, Tryd.ntmps46
  go_wp2_with (fail)
  refine HC.out.mono ?_
  rintro e w1 ⟨rfl, rfl⟩
  go_wp2
  go_ret
  exact ⟨rfl, Below.refl _ _⟩
set_option maxHeartbeats 4000000 in
set_option maxRecDepth 100000 in
theorem strconv_FormatUint_46.calls10 (v : Nat) (w : World) (h100 : 100 ≤ v) (hv : v < 18446744073709551616) (HT : Aside0 (Tabs w)) :
    Calls Tryd.prog 46 #[.int .u64 (v : Int), .int .i64 10] w fun e w' => e = .returned (.string (decS v)) ∧ Below w.heap.size w w' := by
  have hu1 : 1 ≤ v := by omega
  have hnd20 : Go.Lib.nDigits v ≤ 20 := by have := Go.Lib.numDigits_eq v hu1 hv; split at this <;> omega
  have hal : Tryd.prog.arrayLen 96 = 24 := by kernel_rfl
  have hsl : ∀ W, (Instr.sliceAt 96 (.pointer (some ⟨w.heap.size, 0, none⟩)) none (some (.int .i64 (Go.Lib.nDigits v : Int))) none).run Tryd.prog W = .ok (.slice (some ⟨w.heap.size, 0, none⟩) (Go.Lib.nDigits v) 24) W := fun W => by
    rw [run_sliceAt_array_h W 96 ⟨w.heap.size, 0, none⟩ (by simp [Program.arrayLen, Program.elem, Tryd.underlying96]) .i64 (Go.Lib.nDigits v : Int) (by omega) (by rw [hal]; omega)]
    go_simp
  have hH0 := Go.Lib.holds_zero0 w 96 (Go.Lib.nDigits v) (by omega)
  have hfmt := Tryd.internal_strconv_formatBase10 w.heap.size 0 24 v (Array.replicate (Go.Lib.nDigits v) 0) (w.alloc (.cells Go.Lib.zeros24 96)) hH0 (by rw [Array.size_replicate]; exact Go.Lib.lt_pow_nDigits v) hv (by rw [Array.size_replicate]; omega)
  rw [Array.size_replicate] at hfmt
  have HH0 := Aside0.mk hH0
  have HF := Aside0.mk hfmt
  have HN := Aside0.mk (Tryd.internal_strconv_numDigits v hu1 hv (w.alloc (.cells Go.Lib.zeros24 96)) (Go.Lib.tabIs_alloc HT.out.pow10is _))
  have c1 : decide ((v : Int) < 100) = false := decide_eq_false (by omega)
  clear hH0 hal hfmt HT hu1
  go_enter Tryd.func46, Tryd.ntmps46
  go_wp2_with (fail)
  refine HN.out.mono ?_
  rintro e w1 ⟨rfl, rfl⟩
  go_wp2_with (fail)
  refine HF.out.mono ?_
  rintro e w' ⟨rfl, k, v', dk, rfl, hF⟩
  have HFI := Aside0.mk hF
  clear hF
  have hcv := run_convert_bytes_back (P := Tryd.prog) ((Go.Sort.putRow encB (w.alloc (.cells Go.Lib.zeros24 96)) w.heap.size 0 dk).drewN k) 99 9 5 ⟨w.heap.size, 0, none⟩ 24 (Go.Lib.decDigits v) Tryd.underlying99 Tryd.underlying5 Tryd.underlying9 (fun j hj => by
    rw [Go.Lib.row_is_numeral HFI.out j hj, Go.Lib.add_plain, World.cell?_drewN]
    exact Go.Sort.cell?_putRow encB _ w.heap.size 0 _ dk HH0.out (by rw [HFI.out.size, Array.size_replicate]) j (by rw [HFI.out.size]; rw [Go.Lib.decDigits_length] at hj; exact hj))
  rw [Go.Lib.decDigits_length] at hcv
  have HB : Aside0 (Below w.heap.size w ((Go.Sort.putRow encB (w.alloc (.cells Go.Lib.zeros24 96)) w.heap.size 0 dk).drewN k)) := ⟨by
    obtain ⟨os, e⟩ := Go.Lib.fin_at w (.cells Go.Lib.zeros24 96) dk k 0
    rw [e]
    exact Go.Lib.below_grow _ w (Nat.le_refl _) k os⟩
  generalize (Go.Sort.putRow encB (w.alloc (.cells Go.Lib.zeros24 96)) w.heap.size 0 dk).drewN k = W2 at *
  clear HFI HH0 HF
  go_wp2
  go_ret
  exact ⟨rfl, HB.out⟩
theorem strconv_FormatUint_46.calls (a0 a1 : Int) (r : ByteArray) (w : World) (h : strconv_FormatUint_46.f a0 a1 = some r) (HT : Aside0 (Tabs w)) :
    Calls Tryd.prog 46 #[.int .u64 a0, .int .i64 a1] w fun e w' => e = .returned (.string r) ∧ Below w.heap.size w w' := by
  unfold strconv_FormatUint_46.f at h
  by_cases hb : 0 ≤ a0 ∧ a0 < 18446744073709551616 ∧ (a1 = 10 ∨ a1 = 16)
  · rw [if_pos hb] at h
    obtain ⟨h0, h1, h2⟩ := hb
    obtain ⟨n, rfl⟩ := Int.eq_ofNat_of_zero_le h0
    have hn : n < 18446744073709551616 := by omega
    rcases h2 with rfl | rfl
    · rw [if_pos rfl] at h
      obtain rfl := Option.some.inj h
      by_cases hs : n < 100
      · exact strconv_FormatUint_46.calls10s n w hs
      · exact strconv_FormatUint_46.calls10 n w (by omega) hn HT
    · rw [if_neg (by decide)] at h
      obtain rfl := Option.some.inj h
      exact strconv_FormatUint_46.calls16 n w hn HT
  · rw [if_neg hb] at h
    cases h

/-! ### strconv_FormatUint_39: function 39 -/
def strconv_FormatUint_39.f (a0 : Int) (a1 : Int) : Option (ByteArray) := (strconv_FormatUint_46.f a0 a1).bind fun t154 => (some t154)
set_option maxHeartbeats 8000000 in
set_option maxRecDepth 100000 in
theorem strconv_FormatUint_39.calls (a0 : Int) (a1 : Int) (r : ByteArray) (w : World) (h : strconv_FormatUint_39.f a0 a1 = some r) (HT : Aside0 (Tabs w)) :
  Calls Tryd.prog 39 #[.int .u64 a0, .int .i64 a1] w fun e w' => e = .returned (.string r) ∧ Below w.heap.size w w' := by
 have HB := Aside0.mk (Below.refl w.heap.size w)
 have H : ((strconv_FormatUint_46.f a0 a1).bind fun t154 => (some t154)) = some r := h
 clear h
 replace H := Option.bind_eq_some_iff.mp H
 obtain ⟨t154, A30, H⟩ := H
 replace H : (some t154) = some r := H
 have A3 := Aside0.mk A30
 clear A30
 obtain rfl := Option.some.inj H
 go_enter Tryd.func39, Tryd.ntmps39
 go_wp2_with (first | ((with_reducible refine gate_callee (f := 46) rfl ?_); refine goesL_ (some 7) rfl rfl Tryd.func46 (by kernel_rfl) rfl #[.int .u64 a0, .int .i64 a1] rfl (by (try simp only [List.map_toArray, List.map_cons, List.map_nil]); first | done | rfl | (simp only [List.length_drop, List.length_take]; rfl)) ?_; (with_reducible refine (strconv_FormatUint_46.calls a0 a1 t154 _ A3.out ?tabs).mono ?_); (case tabs => (first | exact HT | (refine tabs_of HT ?_; repeat (first | (with_reducible first | exact Below.refl _ _ | exact (Aside0.out (by assumption)) | exact (Drawn0.below (by assumption)) | apply below_alloc | apply pw_below_drewN | apply below_drew1 | assumption) | exact HB.out)))); rintro e w4 ⟨rfl, hb⟩; refine ⟨_, rfl, ?_⟩; have n0_ := Aside0.mk (below_step (by repeat (first | (with_reducible first | exact HB.out | apply below_alloc | apply pw_below_drewN | apply below_drew1) | exact HB.out)) hb); clear HB; have HB := n0_; clear n0_; (try clear hb); (try clear hb2); (try clear hk); (try clear hi)))
 go_ret
 exact ⟨by first | rfl | (simp [errW_none, errW_some] <;> rfl) | (simp [*, errW_none, errW_some] <;> rfl), by repeat (first | (with_reducible first | exact HB.out | apply below_alloc | apply pw_below_drewN | apply below_drew1) | exact HB.out)⟩

end Go.Proofs.YtpndeninbokjoaaDoor.P
