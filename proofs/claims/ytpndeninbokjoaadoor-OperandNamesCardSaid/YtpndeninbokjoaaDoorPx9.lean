-- printed by wip/tools/myprint.py out of the translation. Not trusted: Lean checks it.
import Derived.Test.YtpndeninbokjoaaDoorPx0
import Derived.Test.YtpndeninbokjoaaDoorPx4
import Derived.Test.YtpndeninbokjoaaDoorPx5
import Derived.Test.YtpndeninbokjoaaDoorPx8
namespace Go.Proofs.YtpndeninbokjoaaDoor.P
open Go.RowKit Go.Proofs.YtpndeninbokjoaaDoorW.PrintWords Go.Proofs.YtpndeninbokjoaaDoorW.PrintLast Go.Proofs.YtpndeninbokjoaaDoorW.PrintMore
attribute [local go_sem] max2_int min2_int max_two min_two max_three min_three max_four min_four   -- for this text's walks alone
set_option linter.unusedVariables false
set_option linter.unusedSimpArgs false

/-! ### operand_reader_memory: function 28 -/
def memP (L : List S29) (p : Nat) (E : Int) : Option (S44 × Nat × Int) := match regP L p with
  | none => none
  | some (n, st) =>
    if sgB L (p + 1) ⟨#[93]⟩ = true then some (⟨4, n, st, false, 0, ⟨#[]⟩, 0⟩, p + 2, E)
    else if sgB L (p + 1) ⟨#[44]⟩ = true then
      (if sgB L (p + 2) ⟨#[58]⟩ = true then (lowP L (p + 3) E).bind fun x => (if sgB L x.2.1 ⟨#[93]⟩ = true then some (⟨4, n, st, false, 0, x.1.1, x.1.2⟩, x.2.1 + 1, x.2.2) else none)
       else (valP true L (sgN L (p + 2) ⟨#[35]⟩) E).bind fun x => (if sgB L x.2.1 ⟨#[93]⟩ = true then some (⟨4, n, st, false, x.1, ⟨#[]⟩, 0⟩, x.2.1 + 1, x.2.2) else none))
    else none
def opV (o : S44) : Value := .agg #[.int .i64 o.f0, .int .i64 o.f1, .bool o.f2, .bool o.f3, .int .u64 o.f4, .string o.f5, .int .i64 o.f6]
theorem regQ_none {L : List S29} {p : Nat} {E : Int} (h : regP L p = none) : (some (regQ L p E)) = some ((0, false, false), p, E) := by unfold regQ; rw [h]
theorem regQ_some {L : List S29} {p : Nat} {E n : Int} {st : Bool} (h : regP L p = some (n, st)) : (some (regQ L p E)) = some ((n, st, true), p + 1, E) := by unfold regQ; rw [h]
set_option maxHeartbeats 8000000 in
set_option maxRecDepth 100000 in
theorem rd_memory (w0 w : World) (g : Nat) (A : Option Addr) (c : Nat) (L : List S29) (p : Nat) (E : Int) (H : Aside0 (Rd w0 w g A c L p E)) (hp : p ≤ L.length) (HT : Aside0 (Tabs w0)) :
    Calls Tryd.prog 28 #[.pointer (some ⟨g, 0, none⟩)] w (RdPost w0 w g A c L (memP L p E) opV) := by
  have hz44 := Tryd.zeroValue44
  have hz61 := Tryd.zeroValue61
  obtain ⟨W, hW, hH, hK, hB, hne⟩ := H.out.box #[.int .i64 0, .int .i64 0, .bool false, .bool false, .int .u64 0, .string ⟨#[]⟩, .int .i64 0] 44
  have hwW : w0.heap.size ≤ w.heap.size := H.out.below.size
  unfold memP
  cases hg : regP L p with
  | none =>
    have hrg := regQ_none (E := E) hg
    go_enter Tryd.func28, Tryd.ntmps28
    go_wp2_with (fail)
    have HM := rd_register w0 W g A c L p E ⟨hH⟩ hp HT
    rw [hrg] at HM
    refine HM.mono ?_
    rintro e w1 ⟨k1, rfl, h1⟩
    have H1 := Aside0.mk h1
    have K1 := Aside0.mk (hK.trans k1 (Or.inl rfl))
    clear h1 k1 HM hW hH hB
    go_wp2_with (fail)
    refine (rd_wrong w0 _ g A c L p E 3 H1).mono ?_
    rintro e w2 ⟨⟨ty, v, rfl⟩, rfl⟩
    go_wp2
    exact ⟨rfl, K1.out, ⟨_, _, rfl⟩, H1.out.below⟩
  | some ns =>
    obtain ⟨n, st⟩ := ns
    have hrg := regQ_some (E := E) hg
    have hp1 : p + 1 ≤ L.length := regP_lt hg
    cases hc : sgB L (p + 1) ⟨#[93]⟩
    · simp only [Bool.false_eq_true, if_false]
      cases hk : sgB L (p + 1) ⟨#[44]⟩
      · simp only [Bool.false_eq_true, if_false]
        go_enter Tryd.func28, Tryd.ntmps28
        go_wp2_with (fail)
        have HM := rd_register w0 W g A c L p E ⟨hH⟩ hp HT
        rw [hrg] at HM
        refine HM.mono ?_
        rintro e w1 ⟨k1, rfl, h1⟩
        obtain ⟨_, rfl, hH1, hK1, hO1, hneO⟩ := Rd.box h1 #[.int .i64 4, .int .i64 n, .bool st, .bool false, .int .u64 0, .string ⟨#[]⟩, .int .i64 0] 44
        have hwo : w0.heap.size ≤ w1.heap.size := h1.below.size
        have hwR : w.heap.size < w1.heap.size := Nat.lt_of_lt_of_le (blk_lt hB) k1.1
        have R1 := Aside0.mk (blk_alloc (k1.blk hB hne (by simp)) (.cells #[.int .i64 4, .int .i64 n, .bool st, .bool false, .int .u64 0, .string ⟨#[]⟩, .int .i64 0] 44))
        have O1 := Aside0.mk hO1
        have K1 := Aside0.mk ((hK.trans k1 (Or.inl rfl)).trans hK1 (Or.inl rfl))
        have H1 := Aside0.mk hH1
        clear h1 k1 hO1 hK1 hH1 hW hH hK hB HM
        go_wp2_with (fail)
        have HM := rd_sign w0 _ g A c L (p + 1) E ⟨#[93]⟩ H1
        rw [hc] at HM
        refine HM.mono ?_
        rintro e w2 ⟨rfl, h2, k2⟩
        have H2 := Aside0.mk h2
        have K2 := Aside0.mk (K1.out.trans k2 (Or.inl rfl))
        have R2 := Aside0.mk (k2.blk R1.out hne (by simp))
        have O2 := Aside0.mk (k2.blk O1.out hneO (by simp))
        clear h2 k2 HM H1 K1 R1 O1
        go_wp2_with (fail)
        have HM := rd_need w0 _ g A c L (p + 1) E ⟨#[44]⟩ H2
        rw [hk, if_neg (by decide)] at HM
        refine HM.mono ?_
        rintro e w3 ⟨k3, ⟨ty, v, rfl⟩, hb⟩
        go_wp2
        exact ⟨rfl, K2.out.trans k3 (Or.inl rfl), ⟨_, _, rfl⟩, hb⟩
      · simp only [if_true]
        have hp2 : p + 2 ≤ L.length := by have := sgB_lt hk; omega
        cases hl : sgB L (p + 2) ⟨#[58]⟩
        · simp only [Bool.false_eq_true, if_false]
          obtain ⟨p5, hq5⟩ : ∃ q, (if sgB L (p + 2) ⟨#[35]⟩ = true then p + 2 + 1 else p + 2) = q := ⟨_, rfl⟩
          have hp5 : p5 ≤ L.length := by rw [← hq5]; exact sgN_le hp2
          rw [show sgN L (p + 2) ⟨#[35]⟩ = p5 from hq5]
          cases hr : valP true L p5 E with
          | none =>
            go_enter Tryd.func28, Tryd.ntmps28
            go_wp2_with (fail)
            have HM := rd_register w0 W g A c L p E ⟨hH⟩ hp HT
            rw [hrg] at HM
            refine HM.mono ?_
            rintro e w1 ⟨k1, rfl, h1⟩
            obtain ⟨_, rfl, hH1, hK1, hO1, hneO⟩ := Rd.box h1 #[.int .i64 4, .int .i64 n, .bool st, .bool false, .int .u64 0, .string ⟨#[]⟩, .int .i64 0] 44
            have hwo : w0.heap.size ≤ w1.heap.size := h1.below.size
            have hwR : w.heap.size < w1.heap.size := Nat.lt_of_lt_of_le (blk_lt hB) k1.1
            have R1 := Aside0.mk (blk_alloc (k1.blk hB hne (by simp)) (.cells #[.int .i64 4, .int .i64 n, .bool st, .bool false, .int .u64 0, .string ⟨#[]⟩, .int .i64 0] 44))
            have O1 := Aside0.mk hO1
            have K1 := Aside0.mk ((hK.trans k1 (Or.inl rfl)).trans hK1 (Or.inl rfl))
            have H1 := Aside0.mk hH1
            clear h1 k1 hO1 hK1 hH1 hW hH hK hB HM
            go_wp2_with (fail)
            have HM := rd_sign w0 _ g A c L (p + 1) E ⟨#[93]⟩ H1
            rw [hc] at HM
            refine HM.mono ?_
            rintro e w2 ⟨rfl, h2, k2⟩
            have H2 := Aside0.mk h2
            have K2 := Aside0.mk (K1.out.trans k2 (Or.inl rfl))
            have R2 := Aside0.mk (k2.blk R1.out hne (by simp))
            have O2 := Aside0.mk (k2.blk O1.out hneO (by simp))
            clear h2 k2 HM H1 K1 R1 O1
            go_wp2_with (fail)
            have HM := rd_need w0 _ g A c L (p + 1) E ⟨#[44]⟩ H2
            rw [hk, if_pos rfl] at HM
            refine HM.mono ?_
            rintro e w3 ⟨k3, rfl, h3⟩
            have H3 := Aside0.mk h3
            have K3 := Aside0.mk (K2.out.trans k3 (Or.inl rfl))
            have R3 := Aside0.mk (k3.blk R2.out hne (by simp))
            have O3 := Aside0.mk (k3.blk O2.out hneO (by simp))
            clear h3 k3 HM H2 K2 R2 O2
            go_wp2_with (fail)
            have HM := rd_sign w0 _ g A c L (p + 2) E ⟨#[58]⟩ H3
            rw [hl] at HM
            refine HM.mono ?_
            rintro e w4 ⟨rfl, h4, k4⟩
            have H4 := Aside0.mk h4
            have K4 := Aside0.mk (K3.out.trans k4 (Or.inl rfl))
            have R4 := Aside0.mk (k4.blk R3.out hne (by simp))
            have O4 := Aside0.mk (k4.blk O3.out hneO (by simp))
            clear h4 k4 HM H3 K3 R3 O3
            go_wp2_with (fail)
            have HM := rd_sign w0 _ g A c L (p + 2) E ⟨#[35]⟩ H4
            rw [show (if sgB L (p + 2) ⟨#[35]⟩ = true then p + 2 + 1 else p + 2) = p5 from hq5] at HM
            refine HM.mono ?_
            rintro e w5 ⟨rfl, h5, k5⟩
            have H5 := Aside0.mk h5
            have K5 := Aside0.mk (K4.out.trans k5 (Or.inl rfl))
            have R5 := Aside0.mk (k5.blk R4.out hne (by simp))
            have O5 := Aside0.mk (k5.blk O4.out hneO (by simp))
            clear h5 k5 HM H4 K4 R4 O4
            go_wp2_with (fail)
            have HM := rd_value w0 _ g A c L p5 E true H5 hp5
            rw [hr] at HM
            refine HM.mono ?_
            rintro e w6 ⟨k6, ⟨ty, v, rfl⟩, hb⟩
            go_wp2
            exact ⟨rfl, K5.out.trans k6 (Or.inl rfl), ⟨_, _, rfl⟩, hb⟩
          | some y =>
            obtain ⟨v, q, E'⟩ := y
            simp only [Option.bind_some]
            cases hz : sgB L q ⟨#[93]⟩
            · simp only [Bool.false_eq_true, if_false]
              go_enter Tryd.func28, Tryd.ntmps28
              go_wp2_with (fail)
              have HM := rd_register w0 W g A c L p E ⟨hH⟩ hp HT
              rw [hrg] at HM
              refine HM.mono ?_
              rintro e w1 ⟨k1, rfl, h1⟩
              obtain ⟨_, rfl, hH1, hK1, hO1, hneO⟩ := Rd.box h1 #[.int .i64 4, .int .i64 n, .bool st, .bool false, .int .u64 0, .string ⟨#[]⟩, .int .i64 0] 44
              have hwo : w0.heap.size ≤ w1.heap.size := h1.below.size
              have hwR : w.heap.size < w1.heap.size := Nat.lt_of_lt_of_le (blk_lt hB) k1.1
              have R1 := Aside0.mk (blk_alloc (k1.blk hB hne (by simp)) (.cells #[.int .i64 4, .int .i64 n, .bool st, .bool false, .int .u64 0, .string ⟨#[]⟩, .int .i64 0] 44))
              have O1 := Aside0.mk hO1
              have K1 := Aside0.mk ((hK.trans k1 (Or.inl rfl)).trans hK1 (Or.inl rfl))
              have H1 := Aside0.mk hH1
              clear h1 k1 hO1 hK1 hH1 hW hH hK hB HM
              go_wp2_with (fail)
              have HM := rd_sign w0 _ g A c L (p + 1) E ⟨#[93]⟩ H1
              rw [hc] at HM
              refine HM.mono ?_
              rintro e w2 ⟨rfl, h2, k2⟩
              have H2 := Aside0.mk h2
              have K2 := Aside0.mk (K1.out.trans k2 (Or.inl rfl))
              have R2 := Aside0.mk (k2.blk R1.out hne (by simp))
              have O2 := Aside0.mk (k2.blk O1.out hneO (by simp))
              clear h2 k2 HM H1 K1 R1 O1
              go_wp2_with (fail)
              have HM := rd_need w0 _ g A c L (p + 1) E ⟨#[44]⟩ H2
              rw [hk, if_pos rfl] at HM
              refine HM.mono ?_
              rintro e w3 ⟨k3, rfl, h3⟩
              have H3 := Aside0.mk h3
              have K3 := Aside0.mk (K2.out.trans k3 (Or.inl rfl))
              have R3 := Aside0.mk (k3.blk R2.out hne (by simp))
              have O3 := Aside0.mk (k3.blk O2.out hneO (by simp))
              clear h3 k3 HM H2 K2 R2 O2
              go_wp2_with (fail)
              have HM := rd_sign w0 _ g A c L (p + 2) E ⟨#[58]⟩ H3
              rw [hl] at HM
              refine HM.mono ?_
              rintro e w4 ⟨rfl, h4, k4⟩
              have H4 := Aside0.mk h4
              have K4 := Aside0.mk (K3.out.trans k4 (Or.inl rfl))
              have R4 := Aside0.mk (k4.blk R3.out hne (by simp))
              have O4 := Aside0.mk (k4.blk O3.out hneO (by simp))
              clear h4 k4 HM H3 K3 R3 O3
              go_wp2_with (fail)
              have HM := rd_sign w0 _ g A c L (p + 2) E ⟨#[35]⟩ H4
              rw [show (if sgB L (p + 2) ⟨#[35]⟩ = true then p + 2 + 1 else p + 2) = p5 from hq5] at HM
              refine HM.mono ?_
              rintro e w5 ⟨rfl, h5, k5⟩
              have H5 := Aside0.mk h5
              have K5 := Aside0.mk (K4.out.trans k5 (Or.inl rfl))
              have R5 := Aside0.mk (k5.blk R4.out hne (by simp))
              have O5 := Aside0.mk (k5.blk O4.out hneO (by simp))
              clear h5 k5 HM H4 K4 R4 O4
              go_wp2_with (fail)
              have HM := rd_value w0 _ g A c L p5 E true H5 hp5
              rw [hr] at HM
              refine HM.mono ?_
              rintro e w6 ⟨k6, rfl, h6⟩
              have RR := k6.blk R5.out hne (by simp)
              have OO := k6.blk O5.out hneO (by simp)
              have o4 : w6.cell? ⟨w1.heap.size, 4, none⟩ = some (.int .u64 0) := (blk_cell OO 4).trans rfl
              have of4 : w6.frozen? ⟨w1.heap.size, 4, none⟩ = false := blk_frozen OO 4
              have H6 := Aside0.mk (h6.far (b := w1.heap.size) (j := 4) (.int .u64 v) hwo hneO)
              have K6 := Aside0.mk (keep_set2 (b := w1.heap.size) (j := 4) (u := .int .u64 v) (K5.out.trans k6 (Or.inl rfl)) (by omega))
              have R6 := Aside0.mk (blk_far RR (p := ⟨w1.heap.size, 4, none⟩) (show w.heap.size ≠ w1.heap.size by omega) (.int .u64 v))
              have O6 := Aside0.mk (blk_put (cs' := #[.int .i64 4, .int .i64 n, .bool st, .bool false, .int .u64 v, .string ⟨#[]⟩, .int .i64 0]) OO 4 (.int .u64 v) rfl)
              clear h6 k6 HM H5 K5 R5 O5 RR OO
              go_wp2_with (fail)
              have HM := rd_need w0 _ g A c L (q) E' ⟨#[93]⟩ H6
              rw [hz, if_neg (by decide)] at HM
              refine HM.mono ?_
              rintro e w7 ⟨k7, ⟨ty, v, rfl⟩, hb⟩
              go_wp2
              exact ⟨rfl, K6.out.trans k7 (Or.inl rfl), ⟨_, _, rfl⟩, hb⟩
            · simp only [if_true]
              go_enter Tryd.func28, Tryd.ntmps28
              go_wp2_with (fail)
              have HM := rd_register w0 W g A c L p E ⟨hH⟩ hp HT
              rw [hrg] at HM
              refine HM.mono ?_
              rintro e w1 ⟨k1, rfl, h1⟩
              obtain ⟨_, rfl, hH1, hK1, hO1, hneO⟩ := Rd.box h1 #[.int .i64 4, .int .i64 n, .bool st, .bool false, .int .u64 0, .string ⟨#[]⟩, .int .i64 0] 44
              have hwo : w0.heap.size ≤ w1.heap.size := h1.below.size
              have hwR : w.heap.size < w1.heap.size := Nat.lt_of_lt_of_le (blk_lt hB) k1.1
              have R1 := Aside0.mk (blk_alloc (k1.blk hB hne (by simp)) (.cells #[.int .i64 4, .int .i64 n, .bool st, .bool false, .int .u64 0, .string ⟨#[]⟩, .int .i64 0] 44))
              have O1 := Aside0.mk hO1
              have K1 := Aside0.mk ((hK.trans k1 (Or.inl rfl)).trans hK1 (Or.inl rfl))
              have H1 := Aside0.mk hH1
              clear h1 k1 hO1 hK1 hH1 hW hH hK hB HM
              go_wp2_with (fail)
              have HM := rd_sign w0 _ g A c L (p + 1) E ⟨#[93]⟩ H1
              rw [hc] at HM
              refine HM.mono ?_
              rintro e w2 ⟨rfl, h2, k2⟩
              have H2 := Aside0.mk h2
              have K2 := Aside0.mk (K1.out.trans k2 (Or.inl rfl))
              have R2 := Aside0.mk (k2.blk R1.out hne (by simp))
              have O2 := Aside0.mk (k2.blk O1.out hneO (by simp))
              clear h2 k2 HM H1 K1 R1 O1
              go_wp2_with (fail)
              have HM := rd_need w0 _ g A c L (p + 1) E ⟨#[44]⟩ H2
              rw [hk, if_pos rfl] at HM
              refine HM.mono ?_
              rintro e w3 ⟨k3, rfl, h3⟩
              have H3 := Aside0.mk h3
              have K3 := Aside0.mk (K2.out.trans k3 (Or.inl rfl))
              have R3 := Aside0.mk (k3.blk R2.out hne (by simp))
              have O3 := Aside0.mk (k3.blk O2.out hneO (by simp))
              clear h3 k3 HM H2 K2 R2 O2
              go_wp2_with (fail)
              have HM := rd_sign w0 _ g A c L (p + 2) E ⟨#[58]⟩ H3
              rw [hl] at HM
              refine HM.mono ?_
              rintro e w4 ⟨rfl, h4, k4⟩
              have H4 := Aside0.mk h4
              have K4 := Aside0.mk (K3.out.trans k4 (Or.inl rfl))
              have R4 := Aside0.mk (k4.blk R3.out hne (by simp))
              have O4 := Aside0.mk (k4.blk O3.out hneO (by simp))
              clear h4 k4 HM H3 K3 R3 O3
              go_wp2_with (fail)
              have HM := rd_sign w0 _ g A c L (p + 2) E ⟨#[35]⟩ H4
              rw [show (if sgB L (p + 2) ⟨#[35]⟩ = true then p + 2 + 1 else p + 2) = p5 from hq5] at HM
              refine HM.mono ?_
              rintro e w5 ⟨rfl, h5, k5⟩
              have H5 := Aside0.mk h5
              have K5 := Aside0.mk (K4.out.trans k5 (Or.inl rfl))
              have R5 := Aside0.mk (k5.blk R4.out hne (by simp))
              have O5 := Aside0.mk (k5.blk O4.out hneO (by simp))
              clear h5 k5 HM H4 K4 R4 O4
              go_wp2_with (fail)
              have HM := rd_value w0 _ g A c L p5 E true H5 hp5
              rw [hr] at HM
              refine HM.mono ?_
              rintro e w6 ⟨k6, rfl, h6⟩
              have RR := k6.blk R5.out hne (by simp)
              have OO := k6.blk O5.out hneO (by simp)
              have o4 : w6.cell? ⟨w1.heap.size, 4, none⟩ = some (.int .u64 0) := (blk_cell OO 4).trans rfl
              have of4 : w6.frozen? ⟨w1.heap.size, 4, none⟩ = false := blk_frozen OO 4
              have H6 := Aside0.mk (h6.far (b := w1.heap.size) (j := 4) (.int .u64 v) hwo hneO)
              have K6 := Aside0.mk (keep_set2 (b := w1.heap.size) (j := 4) (u := .int .u64 v) (K5.out.trans k6 (Or.inl rfl)) (by omega))
              have R6 := Aside0.mk (blk_far RR (p := ⟨w1.heap.size, 4, none⟩) (show w.heap.size ≠ w1.heap.size by omega) (.int .u64 v))
              have O6 := Aside0.mk (blk_put (cs' := #[.int .i64 4, .int .i64 n, .bool st, .bool false, .int .u64 v, .string ⟨#[]⟩, .int .i64 0]) OO 4 (.int .u64 v) rfl)
              clear h6 k6 HM H5 K5 R5 O5 RR OO
              go_wp2_with (fail)
              have HM := rd_need w0 _ g A c L (q) E' ⟨#[93]⟩ H6
              rw [hz, if_pos rfl] at HM
              refine HM.mono ?_
              rintro e w7 ⟨k7, rfl, h7⟩
              have H7 := Aside0.mk h7
              have K7 := Aside0.mk (K6.out.trans k7 (Or.inl rfl))
              have R7 := Aside0.mk (k7.blk R6.out hne (by simp))
              have O7 := Aside0.mk (k7.blk O6.out hneO (by simp))
              clear h7 k7 HM H6 K6 R6 O6
              have hRO : w.heap.size ≠ w1.heap.size := by omega
              have r0 : w7.cell? ⟨w.heap.size, 0, none⟩ = some (.int .i64 0) := (blk_cell R7.out 0).trans rfl
              have rf0 : w7.frozen? ⟨w.heap.size, 0, none⟩ = false := blk_frozen R7.out 0
              have q0 := blk_cell O7.out 0
              have r1 : w7.cell? ⟨w.heap.size, 1, none⟩ = some (.int .i64 0) := (blk_cell R7.out 1).trans rfl
              have rf1 : w7.frozen? ⟨w.heap.size, 1, none⟩ = false := blk_frozen R7.out 1
              have q1 := blk_cell O7.out 1
              have r2 : w7.cell? ⟨w.heap.size, 2, none⟩ = some (.bool false) := (blk_cell R7.out 2).trans rfl
              have rf2 : w7.frozen? ⟨w.heap.size, 2, none⟩ = false := blk_frozen R7.out 2
              have q2 := blk_cell O7.out 2
              have r3 : w7.cell? ⟨w.heap.size, 3, none⟩ = some (.bool false) := (blk_cell R7.out 3).trans rfl
              have rf3 : w7.frozen? ⟨w.heap.size, 3, none⟩ = false := blk_frozen R7.out 3
              have q3 := blk_cell O7.out 3
              have r4 : w7.cell? ⟨w.heap.size, 4, none⟩ = some (.int .u64 0) := (blk_cell R7.out 4).trans rfl
              have rf4 : w7.frozen? ⟨w.heap.size, 4, none⟩ = false := blk_frozen R7.out 4
              have q4 := blk_cell O7.out 4
              have r5 : w7.cell? ⟨w.heap.size, 5, none⟩ = some (.string ⟨#[]⟩) := (blk_cell R7.out 5).trans rfl
              have rf5 : w7.frozen? ⟨w.heap.size, 5, none⟩ = false := blk_frozen R7.out 5
              have q5 := blk_cell O7.out 5
              have r6 : w7.cell? ⟨w.heap.size, 6, none⟩ = some (.int .i64 0) := (blk_cell R7.out 6).trans rfl
              have rf6 : w7.frozen? ⟨w.heap.size, 6, none⟩ = false := blk_frozen R7.out 6
              have q6 := blk_cell O7.out 6
              simp only [List.getElem?_toArray, List.getElem?_cons_zero, List.getElem?_cons_succ] at q0 q1 q2 q3 q4 q5 q6
              go_wp2
              refine bodyPost_ret (results_cell_row rfl _ _ w.heap.size 44 #[_, _, _, _, _, _, _] (0, 0) _ rfl (blk_put (blk_put (blk_put (blk_put (blk_put (blk_put (blk_put R7.out 0 _ rfl) 1 _ rfl) 2 _ rfl) 3 _ rfl) 4 _ rfl) 5 _ rfl) 6 _ rfl) Tryd.underlying44 rfl (by kernel_rfl)) rfl ?_
              exact ⟨keep_set2 (keep_set2 (keep_set2 (keep_set2 (keep_set2 (keep_set2 (keep_set2 K7.out (Nat.le_refl _)) (Nat.le_refl _)) (Nat.le_refl _)) (Nat.le_refl _)) (Nat.le_refl _)) (Nat.le_refl _)) (Nat.le_refl _), rfl, ((((((H7.out.far _ hwW hne).far _ hwW hne).far _ hwW hne).far _ hwW hne).far _ hwW hne).far _ hwW hne).far _ hwW hne⟩
        · simp only [if_true]
          have hp3 : p + 3 ≤ L.length := by have := sgB_lt hl; omega
          cases hr : lowP L (p + 3) E with
          | none =>
            go_enter Tryd.func28, Tryd.ntmps28
            go_wp2_with (fail)
            have HM := rd_register w0 W g A c L p E ⟨hH⟩ hp HT
            rw [hrg] at HM
            refine HM.mono ?_
            rintro e w1 ⟨k1, rfl, h1⟩
            obtain ⟨_, rfl, hH1, hK1, hO1, hneO⟩ := Rd.box h1 #[.int .i64 4, .int .i64 n, .bool st, .bool false, .int .u64 0, .string ⟨#[]⟩, .int .i64 0] 44
            have hwo : w0.heap.size ≤ w1.heap.size := h1.below.size
            have hwR : w.heap.size < w1.heap.size := Nat.lt_of_lt_of_le (blk_lt hB) k1.1
            have R1 := Aside0.mk (blk_alloc (k1.blk hB hne (by simp)) (.cells #[.int .i64 4, .int .i64 n, .bool st, .bool false, .int .u64 0, .string ⟨#[]⟩, .int .i64 0] 44))
            have O1 := Aside0.mk hO1
            have K1 := Aside0.mk ((hK.trans k1 (Or.inl rfl)).trans hK1 (Or.inl rfl))
            have H1 := Aside0.mk hH1
            clear h1 k1 hO1 hK1 hH1 hW hH hK hB HM
            go_wp2_with (fail)
            have HM := rd_sign w0 _ g A c L (p + 1) E ⟨#[93]⟩ H1
            rw [hc] at HM
            refine HM.mono ?_
            rintro e w2 ⟨rfl, h2, k2⟩
            have H2 := Aside0.mk h2
            have K2 := Aside0.mk (K1.out.trans k2 (Or.inl rfl))
            have R2 := Aside0.mk (k2.blk R1.out hne (by simp))
            have O2 := Aside0.mk (k2.blk O1.out hneO (by simp))
            clear h2 k2 HM H1 K1 R1 O1
            go_wp2_with (fail)
            have HM := rd_need w0 _ g A c L (p + 1) E ⟨#[44]⟩ H2
            rw [hk, if_pos rfl] at HM
            refine HM.mono ?_
            rintro e w3 ⟨k3, rfl, h3⟩
            have H3 := Aside0.mk h3
            have K3 := Aside0.mk (K2.out.trans k3 (Or.inl rfl))
            have R3 := Aside0.mk (k3.blk R2.out hne (by simp))
            have O3 := Aside0.mk (k3.blk O2.out hneO (by simp))
            clear h3 k3 HM H2 K2 R2 O2
            go_wp2_with (fail)
            have HM := rd_sign w0 _ g A c L (p + 2) E ⟨#[58]⟩ H3
            rw [hl] at HM
            refine HM.mono ?_
            rintro e w4 ⟨rfl, h4, k4⟩
            have H4 := Aside0.mk h4
            have K4 := Aside0.mk (K3.out.trans k4 (Or.inl rfl))
            have R4 := Aside0.mk (k4.blk R3.out hne (by simp))
            have O4 := Aside0.mk (k4.blk O3.out hneO (by simp))
            clear h4 k4 HM H3 K3 R3 O3
            go_wp2_with (fail)
            have HM := rd_low w0 _ g A c L (p + 3) E H4 hp3 HT
            rw [hr] at HM
            refine HM.mono ?_
            rintro e w5 ⟨k5, ⟨ty, v, rfl⟩, hb⟩
            go_wp2
            exact ⟨rfl, K4.out.trans k5 (Or.inl rfl), ⟨_, _, rfl⟩, hb⟩
          | some y =>
            obtain ⟨⟨nm, ad⟩, q, E'⟩ := y
            simp only [Option.bind_some]
            cases hz : sgB L q ⟨#[93]⟩
            · simp only [Bool.false_eq_true, if_false]
              go_enter Tryd.func28, Tryd.ntmps28
              go_wp2_with (fail)
              have HM := rd_register w0 W g A c L p E ⟨hH⟩ hp HT
              rw [hrg] at HM
              refine HM.mono ?_
              rintro e w1 ⟨k1, rfl, h1⟩
              obtain ⟨_, rfl, hH1, hK1, hO1, hneO⟩ := Rd.box h1 #[.int .i64 4, .int .i64 n, .bool st, .bool false, .int .u64 0, .string ⟨#[]⟩, .int .i64 0] 44
              have hwo : w0.heap.size ≤ w1.heap.size := h1.below.size
              have hwR : w.heap.size < w1.heap.size := Nat.lt_of_lt_of_le (blk_lt hB) k1.1
              have R1 := Aside0.mk (blk_alloc (k1.blk hB hne (by simp)) (.cells #[.int .i64 4, .int .i64 n, .bool st, .bool false, .int .u64 0, .string ⟨#[]⟩, .int .i64 0] 44))
              have O1 := Aside0.mk hO1
              have K1 := Aside0.mk ((hK.trans k1 (Or.inl rfl)).trans hK1 (Or.inl rfl))
              have H1 := Aside0.mk hH1
              clear h1 k1 hO1 hK1 hH1 hW hH hK hB HM
              go_wp2_with (fail)
              have HM := rd_sign w0 _ g A c L (p + 1) E ⟨#[93]⟩ H1
              rw [hc] at HM
              refine HM.mono ?_
              rintro e w2 ⟨rfl, h2, k2⟩
              have H2 := Aside0.mk h2
              have K2 := Aside0.mk (K1.out.trans k2 (Or.inl rfl))
              have R2 := Aside0.mk (k2.blk R1.out hne (by simp))
              have O2 := Aside0.mk (k2.blk O1.out hneO (by simp))
              clear h2 k2 HM H1 K1 R1 O1
              go_wp2_with (fail)
              have HM := rd_need w0 _ g A c L (p + 1) E ⟨#[44]⟩ H2
              rw [hk, if_pos rfl] at HM
              refine HM.mono ?_
              rintro e w3 ⟨k3, rfl, h3⟩
              have H3 := Aside0.mk h3
              have K3 := Aside0.mk (K2.out.trans k3 (Or.inl rfl))
              have R3 := Aside0.mk (k3.blk R2.out hne (by simp))
              have O3 := Aside0.mk (k3.blk O2.out hneO (by simp))
              clear h3 k3 HM H2 K2 R2 O2
              go_wp2_with (fail)
              have HM := rd_sign w0 _ g A c L (p + 2) E ⟨#[58]⟩ H3
              rw [hl] at HM
              refine HM.mono ?_
              rintro e w4 ⟨rfl, h4, k4⟩
              have H4 := Aside0.mk h4
              have K4 := Aside0.mk (K3.out.trans k4 (Or.inl rfl))
              have R4 := Aside0.mk (k4.blk R3.out hne (by simp))
              have O4 := Aside0.mk (k4.blk O3.out hneO (by simp))
              clear h4 k4 HM H3 K3 R3 O3
              go_wp2_with (fail)
              have HM := rd_low w0 _ g A c L (p + 3) E H4 hp3 HT
              rw [hr] at HM
              refine HM.mono ?_
              rintro e w5 ⟨k5, rfl, h5⟩
              have RR := k5.blk R4.out hne (by simp)
              have OO := k5.blk O4.out hneO (by simp)
              have o5 : ∀ W : World, W.heap[w1.heap.size]? = some (.cells #[.int .i64 4, .int .i64 n, .bool st, .bool false, .int .u64 0, .string ⟨#[]⟩, .int .i64 0] 44 (0, 0)) → W.cell? ⟨w1.heap.size, 5, none⟩ = some (.string ⟨#[]⟩) ∧ W.cell? ⟨w1.heap.size, 6, none⟩ = some (.int .i64 0) ∧ W.frozen? ⟨w1.heap.size, 5, none⟩ = false ∧ W.frozen? ⟨w1.heap.size, 6, none⟩ = false := fun W h => ⟨(blk_cell h 5).trans rfl, (blk_cell h 6).trans rfl, blk_frozen h 5, blk_frozen h 6⟩
              obtain ⟨o5a, o5b, o5c, o5d⟩ := o5 _ (blk_alloc OO (.cells #[.string nm, .int .i64 ad] 61))
              obtain ⟨o5e, o5f, o5g, o5h⟩ := o5 _ OO
              have hRO' : w.heap.size ≠ w1.heap.size := by omega
              have H6 := Aside0.mk (Rd.after (((h5.after (below_alloc (Below.refl _ _) (.cells #[.string nm, .int .i64 ad] 61))).far (b := w1.heap.size) (j := 5) (.string nm) hwo hneO).far (b := w1.heap.size) (j := 6) (.int .i64 ad) hwo hneO) (below_drew (Below.refl _ _)))
              have K6 := Aside0.mk ((keep_set2 (b := w1.heap.size) (j := 6) (u := .int .i64 ad) (keep_set2 (b := w1.heap.size) (j := 5) (u := .string nm) (keep_alloc (K4.out.trans k5 (Or.inl rfl)) (.cells #[.string nm, .int .i64 ad] 61)) (by omega)) (by omega)).trans (KeepBut.of_below (below_drew (Below.refl _ _)) g none) (Or.inl rfl))
              have R6 := Aside0.mk (blk_drew (blk_far (blk_far (blk_alloc RR (.cells #[.string nm, .int .i64 ad] 61)) (p := ⟨w1.heap.size, 5, none⟩) hRO' (.string nm)) (p := ⟨w1.heap.size, 6, none⟩) hRO' (.int .i64 ad)))
              have O6 := Aside0.mk (blk_drew (blk_put (cs' := #[.int .i64 4, .int .i64 n, .bool st, .bool false, .int .u64 0, .string nm, .int .i64 ad]) (blk_put (cs' := #[.int .i64 4, .int .i64 n, .bool st, .bool false, .int .u64 0, .string nm, .int .i64 0]) (blk_alloc OO (.cells #[.string nm, .int .i64 ad] 61)) 5 (.string nm) rfl) 6 (.int .i64 ad) rfl))
              clear h5 k5 HM H4 K4 R4 O4 RR OO o5
              go_wp2
              go_region
              go_wp2_with (fail)
              have HM := rd_need w0 _ g A c L (q) E' ⟨#[93]⟩ H6
              rw [hz, if_neg (by decide)] at HM
              refine HM.mono ?_
              rintro e w7 ⟨k7, ⟨ty, v, rfl⟩, hb⟩
              go_wp2
              exact ⟨rfl, K6.out.trans k7 (Or.inl rfl), ⟨_, _, rfl⟩, hb⟩
            · simp only [if_true]
              go_enter Tryd.func28, Tryd.ntmps28
              go_wp2_with (fail)
              have HM := rd_register w0 W g A c L p E ⟨hH⟩ hp HT
              rw [hrg] at HM
              refine HM.mono ?_
              rintro e w1 ⟨k1, rfl, h1⟩
              obtain ⟨_, rfl, hH1, hK1, hO1, hneO⟩ := Rd.box h1 #[.int .i64 4, .int .i64 n, .bool st, .bool false, .int .u64 0, .string ⟨#[]⟩, .int .i64 0] 44
              have hwo : w0.heap.size ≤ w1.heap.size := h1.below.size
              have hwR : w.heap.size < w1.heap.size := Nat.lt_of_lt_of_le (blk_lt hB) k1.1
              have R1 := Aside0.mk (blk_alloc (k1.blk hB hne (by simp)) (.cells #[.int .i64 4, .int .i64 n, .bool st, .bool false, .int .u64 0, .string ⟨#[]⟩, .int .i64 0] 44))
              have O1 := Aside0.mk hO1
              have K1 := Aside0.mk ((hK.trans k1 (Or.inl rfl)).trans hK1 (Or.inl rfl))
              have H1 := Aside0.mk hH1
              clear h1 k1 hO1 hK1 hH1 hW hH hK hB HM
              go_wp2_with (fail)
              have HM := rd_sign w0 _ g A c L (p + 1) E ⟨#[93]⟩ H1
              rw [hc] at HM
              refine HM.mono ?_
              rintro e w2 ⟨rfl, h2, k2⟩
              have H2 := Aside0.mk h2
              have K2 := Aside0.mk (K1.out.trans k2 (Or.inl rfl))
              have R2 := Aside0.mk (k2.blk R1.out hne (by simp))
              have O2 := Aside0.mk (k2.blk O1.out hneO (by simp))
              clear h2 k2 HM H1 K1 R1 O1
              go_wp2_with (fail)
              have HM := rd_need w0 _ g A c L (p + 1) E ⟨#[44]⟩ H2
              rw [hk, if_pos rfl] at HM
              refine HM.mono ?_
              rintro e w3 ⟨k3, rfl, h3⟩
              have H3 := Aside0.mk h3
              have K3 := Aside0.mk (K2.out.trans k3 (Or.inl rfl))
              have R3 := Aside0.mk (k3.blk R2.out hne (by simp))
              have O3 := Aside0.mk (k3.blk O2.out hneO (by simp))
              clear h3 k3 HM H2 K2 R2 O2
              go_wp2_with (fail)
              have HM := rd_sign w0 _ g A c L (p + 2) E ⟨#[58]⟩ H3
              rw [hl] at HM
              refine HM.mono ?_
              rintro e w4 ⟨rfl, h4, k4⟩
              have H4 := Aside0.mk h4
              have K4 := Aside0.mk (K3.out.trans k4 (Or.inl rfl))
              have R4 := Aside0.mk (k4.blk R3.out hne (by simp))
              have O4 := Aside0.mk (k4.blk O3.out hneO (by simp))
              clear h4 k4 HM H3 K3 R3 O3
              go_wp2_with (fail)
              have HM := rd_low w0 _ g A c L (p + 3) E H4 hp3 HT
              rw [hr] at HM
              refine HM.mono ?_
              rintro e w5 ⟨k5, rfl, h5⟩
              have RR := k5.blk R4.out hne (by simp)
              have OO := k5.blk O4.out hneO (by simp)
              have o5 : ∀ W : World, W.heap[w1.heap.size]? = some (.cells #[.int .i64 4, .int .i64 n, .bool st, .bool false, .int .u64 0, .string ⟨#[]⟩, .int .i64 0] 44 (0, 0)) → W.cell? ⟨w1.heap.size, 5, none⟩ = some (.string ⟨#[]⟩) ∧ W.cell? ⟨w1.heap.size, 6, none⟩ = some (.int .i64 0) ∧ W.frozen? ⟨w1.heap.size, 5, none⟩ = false ∧ W.frozen? ⟨w1.heap.size, 6, none⟩ = false := fun W h => ⟨(blk_cell h 5).trans rfl, (blk_cell h 6).trans rfl, blk_frozen h 5, blk_frozen h 6⟩
              obtain ⟨o5a, o5b, o5c, o5d⟩ := o5 _ (blk_alloc OO (.cells #[.string nm, .int .i64 ad] 61))
              obtain ⟨o5e, o5f, o5g, o5h⟩ := o5 _ OO
              have hRO' : w.heap.size ≠ w1.heap.size := by omega
              have H6 := Aside0.mk (Rd.after (((h5.after (below_alloc (Below.refl _ _) (.cells #[.string nm, .int .i64 ad] 61))).far (b := w1.heap.size) (j := 5) (.string nm) hwo hneO).far (b := w1.heap.size) (j := 6) (.int .i64 ad) hwo hneO) (below_drew (Below.refl _ _)))
              have K6 := Aside0.mk ((keep_set2 (b := w1.heap.size) (j := 6) (u := .int .i64 ad) (keep_set2 (b := w1.heap.size) (j := 5) (u := .string nm) (keep_alloc (K4.out.trans k5 (Or.inl rfl)) (.cells #[.string nm, .int .i64 ad] 61)) (by omega)) (by omega)).trans (KeepBut.of_below (below_drew (Below.refl _ _)) g none) (Or.inl rfl))
              have R6 := Aside0.mk (blk_drew (blk_far (blk_far (blk_alloc RR (.cells #[.string nm, .int .i64 ad] 61)) (p := ⟨w1.heap.size, 5, none⟩) hRO' (.string nm)) (p := ⟨w1.heap.size, 6, none⟩) hRO' (.int .i64 ad)))
              have O6 := Aside0.mk (blk_drew (blk_put (cs' := #[.int .i64 4, .int .i64 n, .bool st, .bool false, .int .u64 0, .string nm, .int .i64 ad]) (blk_put (cs' := #[.int .i64 4, .int .i64 n, .bool st, .bool false, .int .u64 0, .string nm, .int .i64 0]) (blk_alloc OO (.cells #[.string nm, .int .i64 ad] 61)) 5 (.string nm) rfl) 6 (.int .i64 ad) rfl))
              clear h5 k5 HM H4 K4 R4 O4 RR OO o5
              go_wp2
              go_region
              go_wp2_with (fail)
              have HM := rd_need w0 _ g A c L (q) E' ⟨#[93]⟩ H6
              rw [hz, if_pos rfl] at HM
              refine HM.mono ?_
              rintro e w7 ⟨k7, rfl, h7⟩
              have H7 := Aside0.mk h7
              have K7 := Aside0.mk (K6.out.trans k7 (Or.inl rfl))
              have R7 := Aside0.mk (k7.blk R6.out hne (by simp))
              have O7 := Aside0.mk (k7.blk O6.out hneO (by simp))
              clear h7 k7 HM H6 K6 R6 O6
              have hRO : w.heap.size ≠ w1.heap.size := by omega
              have r0 : w7.cell? ⟨w.heap.size, 0, none⟩ = some (.int .i64 0) := (blk_cell R7.out 0).trans rfl
              have rf0 : w7.frozen? ⟨w.heap.size, 0, none⟩ = false := blk_frozen R7.out 0
              have q0 := blk_cell O7.out 0
              have r1 : w7.cell? ⟨w.heap.size, 1, none⟩ = some (.int .i64 0) := (blk_cell R7.out 1).trans rfl
              have rf1 : w7.frozen? ⟨w.heap.size, 1, none⟩ = false := blk_frozen R7.out 1
              have q1 := blk_cell O7.out 1
              have r2 : w7.cell? ⟨w.heap.size, 2, none⟩ = some (.bool false) := (blk_cell R7.out 2).trans rfl
              have rf2 : w7.frozen? ⟨w.heap.size, 2, none⟩ = false := blk_frozen R7.out 2
              have q2 := blk_cell O7.out 2
              have r3 : w7.cell? ⟨w.heap.size, 3, none⟩ = some (.bool false) := (blk_cell R7.out 3).trans rfl
              have rf3 : w7.frozen? ⟨w.heap.size, 3, none⟩ = false := blk_frozen R7.out 3
              have q3 := blk_cell O7.out 3
              have r4 : w7.cell? ⟨w.heap.size, 4, none⟩ = some (.int .u64 0) := (blk_cell R7.out 4).trans rfl
              have rf4 : w7.frozen? ⟨w.heap.size, 4, none⟩ = false := blk_frozen R7.out 4
              have q4 := blk_cell O7.out 4
              have r5 : w7.cell? ⟨w.heap.size, 5, none⟩ = some (.string ⟨#[]⟩) := (blk_cell R7.out 5).trans rfl
              have rf5 : w7.frozen? ⟨w.heap.size, 5, none⟩ = false := blk_frozen R7.out 5
              have q5 := blk_cell O7.out 5
              have r6 : w7.cell? ⟨w.heap.size, 6, none⟩ = some (.int .i64 0) := (blk_cell R7.out 6).trans rfl
              have rf6 : w7.frozen? ⟨w.heap.size, 6, none⟩ = false := blk_frozen R7.out 6
              have q6 := blk_cell O7.out 6
              simp only [List.getElem?_toArray, List.getElem?_cons_zero, List.getElem?_cons_succ] at q0 q1 q2 q3 q4 q5 q6
              go_wp2
              refine bodyPost_ret (results_cell_row rfl _ _ w.heap.size 44 #[_, _, _, _, _, _, _] (0, 0) _ rfl (blk_put (blk_put (blk_put (blk_put (blk_put (blk_put (blk_put R7.out 0 _ rfl) 1 _ rfl) 2 _ rfl) 3 _ rfl) 4 _ rfl) 5 _ rfl) 6 _ rfl) Tryd.underlying44 rfl (by kernel_rfl)) rfl ?_
              exact ⟨keep_set2 (keep_set2 (keep_set2 (keep_set2 (keep_set2 (keep_set2 (keep_set2 K7.out (Nat.le_refl _)) (Nat.le_refl _)) (Nat.le_refl _)) (Nat.le_refl _)) (Nat.le_refl _)) (Nat.le_refl _)) (Nat.le_refl _), rfl, ((((((H7.out.far _ hwW hne).far _ hwW hne).far _ hwW hne).far _ hwW hne).far _ hwW hne).far _ hwW hne).far _ hwW hne⟩

    · simp only [if_true]
      go_enter Tryd.func28, Tryd.ntmps28
      go_wp2_with (fail)
      have HM := rd_register w0 W g A c L p E ⟨hH⟩ hp HT
      rw [hrg] at HM
      refine HM.mono ?_
      rintro e w1 ⟨k1, rfl, h1⟩
      obtain ⟨_, rfl, hH1, hK1, hO1, hneO⟩ := Rd.box h1 #[.int .i64 4, .int .i64 n, .bool st, .bool false, .int .u64 0, .string ⟨#[]⟩, .int .i64 0] 44
      have hwo : w0.heap.size ≤ w1.heap.size := h1.below.size
      have hwR : w.heap.size < w1.heap.size := Nat.lt_of_lt_of_le (blk_lt hB) k1.1
      have R1 := Aside0.mk (blk_alloc (k1.blk hB hne (by simp)) (.cells #[.int .i64 4, .int .i64 n, .bool st, .bool false, .int .u64 0, .string ⟨#[]⟩, .int .i64 0] 44))
      have O1 := Aside0.mk hO1
      have K1 := Aside0.mk ((hK.trans k1 (Or.inl rfl)).trans hK1 (Or.inl rfl))
      have H1 := Aside0.mk hH1
      clear h1 k1 hO1 hK1 hH1 hW hH hK hB HM
      go_wp2_with (fail)
      have HM := rd_sign w0 _ g A c L (p + 1) E ⟨#[93]⟩ H1
      rw [hc] at HM
      refine HM.mono ?_
      rintro e w2 ⟨rfl, h2, k2⟩
      have H2 := Aside0.mk h2
      have K2 := Aside0.mk (K1.out.trans k2 (Or.inl rfl))
      have R2 := Aside0.mk (k2.blk R1.out hne (by simp))
      have O2 := Aside0.mk (k2.blk O1.out hneO (by simp))
      clear h2 k2 HM H1 K1 R1 O1
      have hRO : w.heap.size ≠ w1.heap.size := by omega
      have r0 : w2.cell? ⟨w.heap.size, 0, none⟩ = some (.int .i64 0) := (blk_cell R2.out 0).trans rfl
      have rf0 : w2.frozen? ⟨w.heap.size, 0, none⟩ = false := blk_frozen R2.out 0
      have q0 := blk_cell O2.out 0
      have r1 : w2.cell? ⟨w.heap.size, 1, none⟩ = some (.int .i64 0) := (blk_cell R2.out 1).trans rfl
      have rf1 : w2.frozen? ⟨w.heap.size, 1, none⟩ = false := blk_frozen R2.out 1
      have q1 := blk_cell O2.out 1
      have r2 : w2.cell? ⟨w.heap.size, 2, none⟩ = some (.bool false) := (blk_cell R2.out 2).trans rfl
      have rf2 : w2.frozen? ⟨w.heap.size, 2, none⟩ = false := blk_frozen R2.out 2
      have q2 := blk_cell O2.out 2
      have r3 : w2.cell? ⟨w.heap.size, 3, none⟩ = some (.bool false) := (blk_cell R2.out 3).trans rfl
      have rf3 : w2.frozen? ⟨w.heap.size, 3, none⟩ = false := blk_frozen R2.out 3
      have q3 := blk_cell O2.out 3
      have r4 : w2.cell? ⟨w.heap.size, 4, none⟩ = some (.int .u64 0) := (blk_cell R2.out 4).trans rfl
      have rf4 : w2.frozen? ⟨w.heap.size, 4, none⟩ = false := blk_frozen R2.out 4
      have q4 := blk_cell O2.out 4
      have r5 : w2.cell? ⟨w.heap.size, 5, none⟩ = some (.string ⟨#[]⟩) := (blk_cell R2.out 5).trans rfl
      have rf5 : w2.frozen? ⟨w.heap.size, 5, none⟩ = false := blk_frozen R2.out 5
      have q5 := blk_cell O2.out 5
      have r6 : w2.cell? ⟨w.heap.size, 6, none⟩ = some (.int .i64 0) := (blk_cell R2.out 6).trans rfl
      have rf6 : w2.frozen? ⟨w.heap.size, 6, none⟩ = false := blk_frozen R2.out 6
      have q6 := blk_cell O2.out 6
      simp only [List.getElem?_toArray, List.getElem?_cons_zero, List.getElem?_cons_succ] at q0 q1 q2 q3 q4 q5 q6
      go_wp2
      refine bodyPost_ret (results_cell_row rfl _ _ w.heap.size 44 #[_, _, _, _, _, _, _] (0, 0) _ rfl (blk_put (blk_put (blk_put (blk_put (blk_put (blk_put (blk_put R2.out 0 _ rfl) 1 _ rfl) 2 _ rfl) 3 _ rfl) 4 _ rfl) 5 _ rfl) 6 _ rfl) Tryd.underlying44 rfl (by kernel_rfl)) rfl ?_
      exact ⟨keep_set2 (keep_set2 (keep_set2 (keep_set2 (keep_set2 (keep_set2 (keep_set2 K2.out (Nat.le_refl _)) (Nat.le_refl _)) (Nat.le_refl _)) (Nat.le_refl _)) (Nat.le_refl _)) (Nat.le_refl _)) (Nat.le_refl _), rfl, ((((((H2.out.far _ hwW hne).far _ hwW hne).far _ hwW hne).far _ hwW hne).far _ hwW hne).far _ hwW hne).far _ hwW hne⟩

/-! ### operand_symbol_operand: function 31 -/
def operand_symbol_operand.f (a0_0 : ByteArray) (a0_1 : Int) : Option (Int × Int × Bool × Bool × Int × ByteArray × Int) := some (3, 0, false, false, 0, a0_0, a0_1)
set_option maxHeartbeats 8000000 in
set_option maxRecDepth 100000 in
theorem operand_symbol_operand.calls (a0_0 : ByteArray) (a0_1 : Int) (r1 : Int) (r2 : Int) (r3 : Bool) (r4 : Bool) (r5 : Int) (r6 : ByteArray) (r7 : Int) (w : World) (h : operand_symbol_operand.f a0_0 a0_1 = some (r1, r2, r3, r4, r5, r6, r7)) :
  Calls Tryd.prog 31 #[.agg #[.string a0_0, .int .i64 a0_1]] w fun e w' => e = .returned (.agg #[.int .i64 r1, .int .i64 r2, .bool r3, .bool r4, .int .u64 r5, .string r6, .int .i64 r7]) ∧ Below w.heap.size w w' := by
 have hu61 := Tryd.underlying61
 have hu44 := Tryd.underlying44
 have HB := Aside0.mk (Below.refl w.heap.size w)
 have H : (some (3, 0, false, false, 0, a0_0, a0_1)) = some (r1, r2, r3, r4, r5, r6, r7) := h
 clear h
 simp only [Option.some.injEq, Prod.mk.injEq] at H
 obtain ⟨rfl, rfl, rfl, rfl, rfl, rfl, rfl⟩ := H
 go_enter Tryd.func31, Tryd.ntmps31
 go_wp2_with (first | ((with_reducible refine gate_dst (N := 1) rfl ?_); refine box_event ?hg (N := 1) ?hd (cs := #[.string a0_0, .int .i64 a0_1]) (t := 61) ?hr ?_; (case hd => rfl); (case hg => rfl); (case hr => first | (go_simp; done) | (go_simp; rfl)); intro gb168 hg w2 hbox hb; have n0_ := Aside0.mk (below_step (by repeat (first | (with_reducible first | exact HB.out | apply below_alloc | apply pw_below_drewN | apply below_drew1) | exact HB.out)) hb); have n1_ := Aside0.mk (hbox); have n2_ := Aside0.mk ((by rw [hg]; exact (below_size (by repeat (first | (with_reducible first | exact HB.out | apply below_alloc | apply pw_below_drewN | apply below_drew1) | exact HB.out))) : w.heap.size ≤ gb168)); have n3_ := Aside0.mk ((by rw [hg]; exact (below_size (by repeat (first | (with_reducible first | exact HB.out | apply below_alloc | apply pw_below_drewN | apply below_drew1) | exact HB.out))) : w.heap.size ≤ gb168)); clear HB; have HB := n0_; have BK168 := n1_; have GW168 := n2_; have GE168 := n3_; clear n0_ n1_ n2_ n3_; clear hb hbox hg) | ((with_reducible refine gate_dst (N := 2) rfl ?_); refine box_event ?hg (N := 2) ?hd (cs := #[.int .i64 0, .int .i64 0, .bool false, .bool false, .int .u64 0, .string (⟨#[]⟩ : ByteArray), .int .i64 0]) (t := 44) ?hr ?_; (case hd => rfl); (case hg => rfl); (case hr => first | (go_simp; done) | (go_simp; rfl)); intro gb169 hg w3 hbox hb; have n0_ := Aside0.mk (blk_below (g := gb168) (o := .cells #[.string a0_0, .int .i64 a0_1] 61 (0, 0)) (by (with_reducible repeat (first | refine blk_drewN ?_ _ | refine blk_drew ?_ | refine blk_alloc ?_ _)); exact BK168.out) hb); have n1_ := Aside0.mk (below_step (by repeat (first | (with_reducible first | exact HB.out | apply below_alloc | apply pw_below_drewN | apply below_drew1 | refine below_set ?_ GE168.out) | exact HB.out)) hb); have n2_ := Aside0.mk (hbox); have n3_ := Aside0.mk ((by rw [hg]; exact (below_size (by repeat (first | (with_reducible first | exact HB.out | apply below_alloc | apply pw_below_drewN | apply below_drew1 | refine below_set ?_ GE168.out) | exact HB.out))) : w.heap.size ≤ gb169)); have n4_ := Aside0.mk ((by rw [hg]; exact (below_size (by repeat (first | (with_reducible first | exact HB.out | apply below_alloc | apply pw_below_drewN | apply below_drew1 | refine below_set ?_ GE168.out) | exact HB.out))) : w.heap.size ≤ gb169)); have n5_ := Aside0.mk ((by rw [hg]; exact Nat.ne_of_lt (blk_lt (g := gb168) (o := .cells #[.string a0_0, .int .i64 a0_1] 61 (0, 0)) (by (with_reducible repeat (first | refine blk_drewN ?_ _ | refine blk_drew ?_ | refine blk_alloc ?_ _)); exact BK168.out)) : gb168 ≠ gb169)); have n6_ := Aside0.mk ((by rw [hg]; exact Nat.ne_of_gt (blk_lt (g := gb168) (o := .cells #[.string a0_0, .int .i64 a0_1] 61 (0, 0)) (by (with_reducible repeat (first | refine blk_drewN ?_ _ | refine blk_drew ?_ | refine blk_alloc ?_ _)); exact BK168.out)) : gb169 ≠ gb168)); clear BK168; clear HB; have BK168 := n0_; have HB := n1_; have BK169 := n2_; have GW169 := n3_; have GE169 := n4_; have NB168_169 := n5_; have NB169_168 := n6_; clear n0_ n1_ n2_ n3_ n4_ n5_ n6_; clear hb hbox hg; have hnb4 := NB168_169.out; have hnc4 := NB169_168.out; have hcz5_0 : w3.cell? ⟨gb168, 0, none⟩ = some (.string a0_0) := (blk_cell BK168.out 0).trans rfl; have hcz5_1 : w3.cell? ⟨gb168, 1, none⟩ = some (.int .i64 a0_1) := (blk_cell BK168.out 1).trans rfl; have hfz5_0 := blk_frozen BK168.out 0; have hfz5_1 := blk_frozen BK168.out 1; have hcz6_0 : w3.cell? ⟨gb169, 0, none⟩ = some (.int .i64 0) := (blk_cell BK169.out 0).trans rfl; have hcz6_1 : w3.cell? ⟨gb169, 1, none⟩ = some (.int .i64 0) := (blk_cell BK169.out 1).trans rfl; have hcz6_2 : w3.cell? ⟨gb169, 2, none⟩ = some (.bool false) := (blk_cell BK169.out 2).trans rfl; have hcz6_3 : w3.cell? ⟨gb169, 3, none⟩ = some (.bool false) := (blk_cell BK169.out 3).trans rfl; have hcz6_4 : w3.cell? ⟨gb169, 4, none⟩ = some (.int .u64 0) := (blk_cell BK169.out 4).trans rfl; have hcz6_5 : w3.cell? ⟨gb169, 5, none⟩ = some (.string (⟨#[]⟩ : ByteArray)) := (blk_cell BK169.out 5).trans rfl; have hcz6_6 : w3.cell? ⟨gb169, 6, none⟩ = some (.int .i64 0) := (blk_cell BK169.out 6).trans rfl; have hfz6_0 := blk_frozen BK169.out 0; have hfz6_1 := blk_frozen BK169.out 1; have hfz6_2 := blk_frozen BK169.out 2; have hfz6_3 := blk_frozen BK169.out 3; have hfz6_4 := blk_frozen BK169.out 4; have hfz6_5 := blk_frozen BK169.out 5; have hfz6_6 := blk_frozen BK169.out 6))
 refine bodyPost_ret (results_cell_row rfl _ _ gb169 44 #[.int .i64 3, .int .i64 0, .bool false, .bool false, .int .u64 0, .string a0_0, .int .i64 a0_1] (0, 0) _ rfl (by (with_reducible repeat (first | refine blk_drewN ?_ _ | refine blk_drew ?_ | refine blk_alloc ?_ _)); refine blk_put (cs := #[.int .i64 3, .int .i64 0, .bool false, .bool false, .int .u64 0, .string a0_0, .int .i64 0]) ?_ 6 _ rfl; (with_reducible repeat (first | refine blk_drewN ?_ _ | refine blk_drew ?_ | refine blk_alloc ?_ _)); refine blk_put (cs := #[.int .i64 3, .int .i64 0, .bool false, .bool false, .int .u64 0, .string (⟨#[]⟩ : ByteArray), .int .i64 0]) ?_ 5 _ rfl; (with_reducible repeat (first | refine blk_drewN ?_ _ | refine blk_drew ?_ | refine blk_alloc ?_ _)); refine blk_put (cs := #[.int .i64 3, .int .i64 0, .bool false, .bool false, .int .u64 0, .string (⟨#[]⟩ : ByteArray), .int .i64 0]) ?_ 4 _ rfl; (with_reducible repeat (first | refine blk_drewN ?_ _ | refine blk_drew ?_ | refine blk_alloc ?_ _)); refine blk_put (cs := #[.int .i64 3, .int .i64 0, .bool false, .bool false, .int .u64 0, .string (⟨#[]⟩ : ByteArray), .int .i64 0]) ?_ 3 _ rfl; (with_reducible repeat (first | refine blk_drewN ?_ _ | refine blk_drew ?_ | refine blk_alloc ?_ _)); refine blk_put (cs := #[.int .i64 3, .int .i64 0, .bool false, .bool false, .int .u64 0, .string (⟨#[]⟩ : ByteArray), .int .i64 0]) ?_ 2 _ rfl; (with_reducible repeat (first | refine blk_drewN ?_ _ | refine blk_drew ?_ | refine blk_alloc ?_ _)); refine blk_put (cs := #[.int .i64 3, .int .i64 0, .bool false, .bool false, .int .u64 0, .string (⟨#[]⟩ : ByteArray), .int .i64 0]) ?_ 1 _ rfl; (with_reducible repeat (first | refine blk_drewN ?_ _ | refine blk_drew ?_ | refine blk_alloc ?_ _)); refine blk_put (cs := #[.int .i64 0, .int .i64 0, .bool false, .bool false, .int .u64 0, .string (⟨#[]⟩ : ByteArray), .int .i64 0]) ?_ 0 _ rfl; (with_reducible repeat (first | refine blk_drewN ?_ _ | refine blk_drew ?_ | refine blk_alloc ?_ _)); exact BK169.out) Tryd.underlying44 rfl (by kernel_rfl)) rfl ?_
 exact ⟨by first | rfl | (simp [errW_none, errW_some] <;> rfl) | (simp [*, errW_none, errW_some] <;> rfl), by repeat (first | (with_reducible first | exact HB.out | apply below_alloc | apply pw_below_drewN | apply below_drew1 | refine below_set ?_ GE168.out | refine below_set ?_ GE169.out) | exact HB.out)⟩

/-! ### operand_number_operand: function 33 -/
def operand_number_operand.f (a0_0 : Bool) (a0_1 : Int) : Option (Int × Int × Bool × Bool × Int × ByteArray × Int) := some (2, 0, false, a0_0, a0_1, (⟨#[]⟩ : ByteArray), 0)
set_option maxHeartbeats 8000000 in
set_option maxRecDepth 100000 in
theorem operand_number_operand.calls (a0_0 : Bool) (a0_1 : Int) (r1 : Int) (r2 : Int) (r3 : Bool) (r4 : Bool) (r5 : Int) (r6 : ByteArray) (r7 : Int) (w : World) (h : operand_number_operand.f a0_0 a0_1 = some (r1, r2, r3, r4, r5, r6, r7)) :
  Calls Tryd.prog 33 #[.agg #[.bool a0_0, .int .u64 a0_1]] w fun e w' => e = .returned (.agg #[.int .i64 r1, .int .i64 r2, .bool r3, .bool r4, .int .u64 r5, .string r6, .int .i64 r7]) ∧ Below w.heap.size w w' := by
 have hu64 := Tryd.underlying64
 have hu44 := Tryd.underlying44
 have HB := Aside0.mk (Below.refl w.heap.size w)
 have H : (some (2, 0, false, a0_0, a0_1, (⟨#[]⟩ : ByteArray), 0)) = some (r1, r2, r3, r4, r5, r6, r7) := h
 clear h
 simp only [Option.some.injEq, Prod.mk.injEq] at H
 obtain ⟨rfl, rfl, rfl, rfl, rfl, rfl, rfl⟩ := H
 go_enter Tryd.func33, Tryd.ntmps33
 go_wp2_with (first | ((with_reducible refine gate_dst (N := 1) rfl ?_); refine box_event ?hg (N := 1) ?hd (cs := #[.bool a0_0, .int .u64 a0_1]) (t := 64) ?hr ?_; (case hd => rfl); (case hg => rfl); (case hr => first | (go_simp; done) | (go_simp; rfl)); intro gb170 hg w2 hbox hb; have n0_ := Aside0.mk (below_step (by repeat (first | (with_reducible first | exact HB.out | apply below_alloc | apply pw_below_drewN | apply below_drew1) | exact HB.out)) hb); have n1_ := Aside0.mk (hbox); have n2_ := Aside0.mk ((by rw [hg]; exact (below_size (by repeat (first | (with_reducible first | exact HB.out | apply below_alloc | apply pw_below_drewN | apply below_drew1) | exact HB.out))) : w.heap.size ≤ gb170)); have n3_ := Aside0.mk ((by rw [hg]; exact (below_size (by repeat (first | (with_reducible first | exact HB.out | apply below_alloc | apply pw_below_drewN | apply below_drew1) | exact HB.out))) : w.heap.size ≤ gb170)); clear HB; have HB := n0_; have BK170 := n1_; have GW170 := n2_; have GE170 := n3_; clear n0_ n1_ n2_ n3_; clear hb hbox hg) | ((with_reducible refine gate_dst (N := 2) rfl ?_); refine box_event ?hg (N := 2) ?hd (cs := #[.int .i64 0, .int .i64 0, .bool false, .bool false, .int .u64 0, .string (⟨#[]⟩ : ByteArray), .int .i64 0]) (t := 44) ?hr ?_; (case hd => rfl); (case hg => rfl); (case hr => first | (go_simp; done) | (go_simp; rfl)); intro gb171 hg w3 hbox hb; have n0_ := Aside0.mk (blk_below (g := gb170) (o := .cells #[.bool a0_0, .int .u64 a0_1] 64 (0, 0)) (by (with_reducible repeat (first | refine blk_drewN ?_ _ | refine blk_drew ?_ | refine blk_alloc ?_ _)); exact BK170.out) hb); have n1_ := Aside0.mk (below_step (by repeat (first | (with_reducible first | exact HB.out | apply below_alloc | apply pw_below_drewN | apply below_drew1 | refine below_set ?_ GE170.out) | exact HB.out)) hb); have n2_ := Aside0.mk (hbox); have n3_ := Aside0.mk ((by rw [hg]; exact (below_size (by repeat (first | (with_reducible first | exact HB.out | apply below_alloc | apply pw_below_drewN | apply below_drew1 | refine below_set ?_ GE170.out) | exact HB.out))) : w.heap.size ≤ gb171)); have n4_ := Aside0.mk ((by rw [hg]; exact (below_size (by repeat (first | (with_reducible first | exact HB.out | apply below_alloc | apply pw_below_drewN | apply below_drew1 | refine below_set ?_ GE170.out) | exact HB.out))) : w.heap.size ≤ gb171)); have n5_ := Aside0.mk ((by rw [hg]; exact Nat.ne_of_lt (blk_lt (g := gb170) (o := .cells #[.bool a0_0, .int .u64 a0_1] 64 (0, 0)) (by (with_reducible repeat (first | refine blk_drewN ?_ _ | refine blk_drew ?_ | refine blk_alloc ?_ _)); exact BK170.out)) : gb170 ≠ gb171)); have n6_ := Aside0.mk ((by rw [hg]; exact Nat.ne_of_gt (blk_lt (g := gb170) (o := .cells #[.bool a0_0, .int .u64 a0_1] 64 (0, 0)) (by (with_reducible repeat (first | refine blk_drewN ?_ _ | refine blk_drew ?_ | refine blk_alloc ?_ _)); exact BK170.out)) : gb171 ≠ gb170)); clear BK170; clear HB; have BK170 := n0_; have HB := n1_; have BK171 := n2_; have GW171 := n3_; have GE171 := n4_; have NB170_171 := n5_; have NB171_170 := n6_; clear n0_ n1_ n2_ n3_ n4_ n5_ n6_; clear hb hbox hg; have hnb4 := NB170_171.out; have hnc4 := NB171_170.out; have hcz5_0 : w3.cell? ⟨gb170, 0, none⟩ = some (.bool a0_0) := (blk_cell BK170.out 0).trans rfl; have hcz5_1 : w3.cell? ⟨gb170, 1, none⟩ = some (.int .u64 a0_1) := (blk_cell BK170.out 1).trans rfl; have hfz5_0 := blk_frozen BK170.out 0; have hfz5_1 := blk_frozen BK170.out 1; have hcz6_0 : w3.cell? ⟨gb171, 0, none⟩ = some (.int .i64 0) := (blk_cell BK171.out 0).trans rfl; have hcz6_1 : w3.cell? ⟨gb171, 1, none⟩ = some (.int .i64 0) := (blk_cell BK171.out 1).trans rfl; have hcz6_2 : w3.cell? ⟨gb171, 2, none⟩ = some (.bool false) := (blk_cell BK171.out 2).trans rfl; have hcz6_3 : w3.cell? ⟨gb171, 3, none⟩ = some (.bool false) := (blk_cell BK171.out 3).trans rfl; have hcz6_4 : w3.cell? ⟨gb171, 4, none⟩ = some (.int .u64 0) := (blk_cell BK171.out 4).trans rfl; have hcz6_5 : w3.cell? ⟨gb171, 5, none⟩ = some (.string (⟨#[]⟩ : ByteArray)) := (blk_cell BK171.out 5).trans rfl; have hcz6_6 : w3.cell? ⟨gb171, 6, none⟩ = some (.int .i64 0) := (blk_cell BK171.out 6).trans rfl; have hfz6_0 := blk_frozen BK171.out 0; have hfz6_1 := blk_frozen BK171.out 1; have hfz6_2 := blk_frozen BK171.out 2; have hfz6_3 := blk_frozen BK171.out 3; have hfz6_4 := blk_frozen BK171.out 4; have hfz6_5 := blk_frozen BK171.out 5; have hfz6_6 := blk_frozen BK171.out 6))
 refine bodyPost_ret (results_cell_row rfl _ _ gb171 44 #[.int .i64 2, .int .i64 0, .bool false, .bool a0_0, .int .u64 a0_1, .string (⟨#[]⟩ : ByteArray), .int .i64 0] (0, 0) _ rfl (by (with_reducible repeat (first | refine blk_drewN ?_ _ | refine blk_drew ?_ | refine blk_alloc ?_ _)); refine blk_put (cs := #[.int .i64 2, .int .i64 0, .bool false, .bool a0_0, .int .u64 a0_1, .string (⟨#[]⟩ : ByteArray), .int .i64 0]) ?_ 6 _ rfl; (with_reducible repeat (first | refine blk_drewN ?_ _ | refine blk_drew ?_ | refine blk_alloc ?_ _)); refine blk_put (cs := #[.int .i64 2, .int .i64 0, .bool false, .bool a0_0, .int .u64 a0_1, .string (⟨#[]⟩ : ByteArray), .int .i64 0]) ?_ 5 _ rfl; (with_reducible repeat (first | refine blk_drewN ?_ _ | refine blk_drew ?_ | refine blk_alloc ?_ _)); refine blk_put (cs := #[.int .i64 2, .int .i64 0, .bool false, .bool a0_0, .int .u64 0, .string (⟨#[]⟩ : ByteArray), .int .i64 0]) ?_ 4 _ rfl; (with_reducible repeat (first | refine blk_drewN ?_ _ | refine blk_drew ?_ | refine blk_alloc ?_ _)); refine blk_put (cs := #[.int .i64 2, .int .i64 0, .bool false, .bool false, .int .u64 0, .string (⟨#[]⟩ : ByteArray), .int .i64 0]) ?_ 3 _ rfl; (with_reducible repeat (first | refine blk_drewN ?_ _ | refine blk_drew ?_ | refine blk_alloc ?_ _)); refine blk_put (cs := #[.int .i64 2, .int .i64 0, .bool false, .bool false, .int .u64 0, .string (⟨#[]⟩ : ByteArray), .int .i64 0]) ?_ 2 _ rfl; (with_reducible repeat (first | refine blk_drewN ?_ _ | refine blk_drew ?_ | refine blk_alloc ?_ _)); refine blk_put (cs := #[.int .i64 2, .int .i64 0, .bool false, .bool false, .int .u64 0, .string (⟨#[]⟩ : ByteArray), .int .i64 0]) ?_ 1 _ rfl; (with_reducible repeat (first | refine blk_drewN ?_ _ | refine blk_drew ?_ | refine blk_alloc ?_ _)); refine blk_put (cs := #[.int .i64 0, .int .i64 0, .bool false, .bool false, .int .u64 0, .string (⟨#[]⟩ : ByteArray), .int .i64 0]) ?_ 0 _ rfl; (with_reducible repeat (first | refine blk_drewN ?_ _ | refine blk_drew ?_ | refine blk_alloc ?_ _)); exact BK171.out) Tryd.underlying44 rfl (by kernel_rfl)) rfl ?_
 exact ⟨by first | rfl | (simp [errW_none, errW_some] <;> rfl) | (simp [*, errW_none, errW_some] <;> rfl), by repeat (first | (with_reducible first | exact HB.out | apply below_alloc | apply pw_below_drewN | apply below_drew1 | refine below_set ?_ GE170.out | refine below_set ?_ GE171.out) | exact HB.out)⟩

end Go.Proofs.YtpndeninbokjoaaDoor.P
