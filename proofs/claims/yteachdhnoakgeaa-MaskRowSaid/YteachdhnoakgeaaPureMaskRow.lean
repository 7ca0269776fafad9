/- Ones in a row are a mask, if they are some, and not all, and so they are as often as a size has it; two or more, and one more behind a gap, are none. No conditions. -/
import Derived.Test.YteachdhnoakgeaaMk2
import Derived.Test.YteachdhnoakgeaaPx6
import Derived.Test.YteachdhnoakgeaaPx8
namespace Go.Proofs.Yteachdhnoakgeaa.Pure
open Go.RowKit Go.Proofs.Yteachdhnoakgeaa.P Go.Proofs.Yteachdhnoakgeaa.K Go.Proofs.Yteachdhnoakgeaa.B Go.Proofs.Yteachdhnoakgeaa.M Go.Proofs.YteachdhnoakgeaaW.PrintWords Go.Proofs.YteachdhnoakgeaaW.PrintLast Go.Proofs.YteachdhnoakgeaaW.PrintMore
theorem masked_r (k : Nat) (hk : 300 ≤ k) : cleatlaw02_masked.f k = some true := at_rounds cleatlaw02_masked.mono hk (by decide +kernel)
theorem mask_zero : ¬ Mask 0 := by
  rintro ⟨s, o, t, h⟩
  have hl := h.sz.le
  have ht := h.tl
  have hm : (s - t) % s < s := Nat.mod_lt _ (by omega)
  have := h.bits ((s - t) % s) (by omega)
  rw [Nat.zero_testBit, Nat.mod_add_mod, show s - t + t = s by omega, Nat.mod_self, decide_eq_true (by have := h.o1; omega)] at this
  exact absurd this (by simp)
theorem mask_all : ¬ Mask 18446744073709551615 := by
  rintro ⟨s, o, t, h⟩
  have := run_oth (by decide) h
  exact mask_zero ⟨_, _, _, this⟩
theorem row_run {o s : Nat} (hs : Sz s) (h1 : 1 ≤ o) (h2 : o < s) : IsRun (againN (2 ^ o - 1) s) s o 0 := by
  have := again_run hs h1 h2 (show 0 < s by omega)
  rwa [rotN_zero] at this
theorem row_run64 {o : Nat} (h1 : 1 ≤ o) (h2 : o < 64) : IsRun (2 ^ o - 1) 64 o 0 := by
  refine ⟨sz64, h1, h2, by omega, fun i hi => ?_⟩
  rw [Nat.testBit_two_pow_sub_one, Nat.add_zero, Nat.mod_eq_of_lt hi]
theorem again_none (s : Nat) : againN (2 ^ 0 - 1) s = 0 := by
  refine eq_of_bits (s := 64) (againN_lt _ _) (by decide) fun i hi => ?_
  rw [againN_bit hi]
  simp
theorem again_all {s : Nat} (hs : Sz s) : againN (2 ^ s - 1) s = 18446744073709551615 := by
  refine eq_of_bits (s := 64) (againN_lt _ _) (by decide) fun i hi => ?_
  have hl := hs.le
  rw [againN_bit hi, Nat.testBit_two_pow_sub_one, decide_eq_true (Nat.mod_lt _ (by omega)), show (18446744073709551615 : Nat) = 2 ^ 64 - 1 by rfl, Nat.testBit_two_pow_sub_one, decide_eq_true hi]
open Classical in
theorem again_mask {o s : Nat} (hs : Sz s) (h : o ≤ s) : decide (Mask (againN (2 ^ o - 1) s)) = (decide (0 < o) && decide (o < s)) := by
  by_cases h0 : 0 < o
  · by_cases h1 : o < s
    · rw [decide_eq_true h0, decide_eq_true h1, decide_eq_true (show Mask (againN (2 ^ o - 1) s) from ⟨_, _, _, row_run hs h0 h1⟩)]; rfl
    · obtain rfl : o = s := by omega
      rw [decide_eq_false h1, again_all hs, decide_eq_false mask_all, Bool.and_false]
  · obtain rfl : o = 0 := by omega
    rw [decide_eq_false h0, again_none, decide_eq_false mask_zero, Bool.false_and]
open Classical in
theorem row_mask {o : Nat} (h : o ≤ 64) : decide (Mask (2 ^ o - 1)) = (decide (0 < o) && decide (o < 64)) := by
  by_cases h0 : 0 < o
  · by_cases h1 : o < 64
    · rw [decide_eq_true h0, decide_eq_true h1, decide_eq_true (show Mask (2 ^ o - 1) from ⟨_, _, _, row_run64 h0 h1⟩)]; rfl
    · obtain rfl : o = 64 := by omega
      rw [decide_eq_false h1, show 2 ^ 64 - 1 = 18446744073709551615 by rfl, decide_eq_false mask_all, Bool.and_false]
  · obtain rfl : o = 0 := by omega
    rw [decide_eq_false h0, show 2 ^ 0 - 1 = 0 by rfl, decide_eq_false mask_zero, Bool.false_and]
/-- Two or more, and one more behind a gap. -/
theorem gap_bit {o b : Nat} (hob : o < b) (i : Nat) : (2 ^ o - 1 + 2 ^ b).testBit i = (decide (i < o) || decide (i = b)) := by
  have hlt : 2 ^ o - 1 < 2 ^ b := by
    have := Nat.pow_lt_pow_right (a := 2) (by decide) hob
    have := Nat.two_pow_pos o
    omega
  rw [Nat.add_comm, show 2 ^ b + (2 ^ o - 1) = 2 ^ b * 1 + (2 ^ o - 1) by omega, Nat.testBit_two_pow_mul_add _ hlt]
  by_cases h : i < b
  · rw [if_pos h, Nat.testBit_two_pow_sub_one, decide_eq_false (show ¬ i = b by omega), Bool.or_false]
  · rw [if_neg h, decide_eq_false (show ¬ i < o by omega), Bool.false_or]
    by_cases e : i = b
    · subst e; rw [Nat.sub_self]; simp
    · rw [decide_eq_false e]
      exact Nat.testBit_lt_two_pow (Nat.one_lt_two_pow (by omega))
theorem gap_lt {o b : Nat} (hob : o < b) (hb : b < 63) : 2 ^ o - 1 + 2 ^ b < 18446744073709551616 := by
  have h1 := pow_lt63 hb
  have h2 := pow_lt63 (show o < 63 by omega)
  omega
theorem gap_ones {o b : Nat} (hob : o < b) (hb : b < 63) : cnt (2 ^ o - 1 + 2 ^ b) 64 = o + 1 := by
  unfold cnt
  have e := cntF_add (2 ^ o - 1 + 2 ^ b).testBit b (64 - b)
  rw [show b + (64 - b) = 64 by omega] at e
  rw [e]
  have e1 : cntF (2 ^ o - 1 + 2 ^ b).testBit b = cntF (fun i => decide (i < o)) b := cntF_congr b (fun i hi => by
    rw [gap_bit hob, decide_eq_false (show ¬ i = b by omega), Bool.or_false])
  have e2 : cntF (fun i => (2 ^ o - 1 + 2 ^ b).testBit (b + i)) (64 - b) = cntF (fun i => decide (i < 1)) (64 - b) := cntF_congr _ (fun i hi => by
    rw [gap_bit hob, decide_eq_false (show ¬ b + i < o by omega), Bool.false_or, Bool.eq_iff_iff, decide_eq_true_iff, decide_eq_true_iff]
    omega)
  rw [e1, e2, cntF_lt o b (by omega), cntF_lt 1 _ (by omega)]
theorem gap_mask {o b : Nat} (h2 : 2 ≤ o) (hob : o < b) (hb : b < 63) : ¬ Mask (2 ^ o - 1 + 2 ^ b) := by
  rintro ⟨s, q, t, h⟩
  have hl := h.sz.le
  have q1 := h.o1
  have q2 := h.o2
  have key : ∀ i, i < 64 → (decide (i < o) || decide (i = b)) = decide ((i + t) % s < q) := fun i hi => by rw [← gap_bit hob, h.bits i hi]
  have prev : ∀ i, 1 ≤ i → (i + (s - 1) + t) % s = (i - 1 + t) % s := fun i hi => by
    rw [show i + (s - 1) + t = i - 1 + t + s by omega, Nat.add_mod_right]
  -- the run begins at 0
  have k0 := key 0 (by omega)
  rw [decide_eq_true (show 0 < o by omega), Bool.true_or] at k0
  have k63 := key 63 (by omega)
  rw [decide_eq_false (show ¬ 63 < o by omega), decide_eq_false (show ¬ 63 = b by omega)] at k63
  have p0 : (0 + (s - 1) + t) % s = (63 + t) % s := by
    have : 63 + t = (s - 1) + t + s * (64 / s - 1) := by
      have := Nat.mul_div_cancel' (sz_dvd h.sz)
      have h1 : 1 ≤ 64 / s := Nat.div_pos hl.2 (by omega)
      rw [Nat.mul_sub, this, Nat.mul_one]
      omega
    rw [this, Nat.add_mul_mod_self_left, Nat.zero_add]
  have z0 := run_start hl.1 q1 q2 (i := 0) (t := t) (of_decide_eq_true k0.symm) (by rw [p0]; exact of_decide_eq_false k63.symm)
  -- and at b
  have kb := key b (by omega)
  rw [decide_eq_true (show b = b from rfl), Bool.or_true] at kb
  have kp := key (b - 1) (by omega)
  rw [decide_eq_false (show ¬ b - 1 < o by omega), decide_eq_false (show ¬ b - 1 = b by omega)] at kp
  have zb := run_start hl.1 q1 q2 (i := b) (t := t) (of_decide_eq_true kb.symm) (by rw [prev b (by omega)]; exact of_decide_eq_false kp.symm)
  -- what stands behind
  have k1 := key 1 (by omega)
  rw [decide_eq_true (show 1 < o by omega), Bool.true_or] at k1
  have kq := key (b + 1) (by omega)
  rw [decide_eq_false (show ¬ b + 1 < o by omega), decide_eq_false (show ¬ b + 1 = b by omega)] at kq
  have e1 : (1 + t) % s = 1 % s := by rw [Nat.add_comm, ← Nat.mod_add_mod, show t % s = 0 by rwa [Nat.zero_add] at z0, Nat.zero_add]
  have e2 : (b + 1 + t) % s = 1 % s := by rw [show b + 1 + t = b + t + 1 by omega, ← Nat.mod_add_mod, zb, Nat.zero_add]
  rw [e1] at k1
  rw [e2, ← k1] at kq
  exact absurd kq (by simp)
theorem row_j3t (k : Nat) (hk : 301 ≤ k) (a b c : Int) : cleatlaw02_MaskRow.j3 k a b c true = some true := by
  obtain ⟨k, rfl⟩ : ∃ m, k = m + 1 := ⟨k - 1, by omega⟩
  simp only [cleatlaw02_MaskRow.j3]
  rw [if_pos trivial, masked_r k (by omega)]; rfl
theorem row_j2 (k : Nat) (hk : 302 ≤ k) (o : Nat) (s : Int) (b : Int) (ho : o ≤ 64) : cleatlaw02_MaskRow.j2 k (o : Int) s b ((2 ^ o - 1 : Nat) : Int) false = some true := by
  obtain ⟨k, rfl⟩ : ∃ m, k = m + 1 := ⟨k - 1, by omega⟩
  simp only [cleatlaw02_MaskRow.j2]
  rw [if_neg (by simp)]
  by_cases h1 : s < 64
  · rw [if_pos h1]; exact row_j3t k (by omega) _ _ _
  rw [if_neg h1]
  by_cases h2 : (o : Int) < 2
  · rw [if_pos h2]; exact row_j3t k (by omega) _ _ _
  rw [if_neg h2]
  by_cases h3 : (o : Int) > 60
  · rw [if_pos h3]; exact row_j3t k (by omega) _ _ _
  rw [if_neg h3]
  by_cases h4 : b ≤ (o : Int)
  · rw [if_pos h4]; exact row_j3t k (by omega) _ _ _
  rw [if_neg h4]
  by_cases h5 : b ≥ 63
  · rw [decide_eq_true h5]; exact row_j3t k (by omega) _ _ _
  rw [decide_eq_false h5]
  obtain ⟨b, rfl⟩ := Int.eq_ofNat_of_zero_le (show 0 ≤ b by omega)
  obtain ⟨k, rfl⟩ : ∃ m, k = m + 1 := ⟨k - 1, by omega⟩
  simp only [cleatlaw02_MaskRow.j3]
  have hob : o < b := by omega
  have hb : b < 63 := by omega
  have hlt := gap_lt hob hb
  have hpo := Nat.two_pow_pos o
  have hpb := Nat.two_pow_pos b
  rw [if_neg (by simp), masked_r k (by omega), Option.bind_some, if_pos rfl, if_pos (by omega), shl64_one b (by omega)]
  rw [show ((2 ^ o - 1 : Nat) : Int) + ((2 ^ b : Nat) : Int) = ((2 ^ o - 1 + 2 ^ b : Nat) : Int) by rw [Int.natCast_add], wu64_in ⟨by omega, by omega⟩]
  rw [is_none hlt (gap_mask (by omega) hob hb) k (by omega), Option.bind_some, if_neg (by simp), ones_f hlt k (by omega), Option.bind_some, gap_ones hob hb, w64_in ⟨by omega, by omega⟩]
  simp
theorem againN_eq (x s : Nat) : ofF (fun i => x.testBit (i % s)) 64 = againN x s := rfl
set_option maxHeartbeats 1000000 in
open Classical in
theorem row_l0 (o s : Nat) (hs : Sz s) (ho : o ≤ s) (b : Int) : ∀ (d k j : Nat), j * 2 ^ d = 64 → s ∣ j → d + 400 < k →
    cleatlaw02_MaskRow.l0 k (o : Int) (s : Int) b ((2 ^ o - 1 : Nat) : Int) ((ofF (fun i => (2 ^ o - 1).testBit (i % s)) j : Nat) : Int) (j : Int) = some true := by
  have hl := hs.le
  intro d
  induction d with
  | zero =>
    intro k j hj hd hk
    obtain ⟨k, rfl⟩ : ∃ m, k = m + 1 := ⟨k - 1, by omega⟩
    obtain rfl : j = 64 := by omega
    have hrow : 2 ^ o - 1 < 18446744073709551616 := by have := pow_le64 (show o ≤ 64 by omega); omega
    simp only [cleatlaw02_MaskRow.l0]
    rw [if_neg (by omega)]
    rw [againN_eq, is_f (againN_lt _ _) k (by omega), Option.bind_some, again_mask hs ho]
    have hj2 := row_j2 k (by omega) o s b (by omega)
    by_cases h0 : (o : Int) > 0
    · rw [if_pos h0, decide_eq_true (show 0 < o by omega), Bool.true_and]
      have e1 : (decide (o < s) != decide ((o : Int) < (s : Int))) = false := by
        rw [bne_eq_false_iff_eq, decide_eq_decide]; omega
      rw [e1, if_neg (by simp), is_f hrow k (by omega), Option.bind_some, row_mask (by omega), decide_eq_true (show 0 < o by omega), Bool.true_and]
      have e2 : (decide (o < 64) != decide ((o : Int) < 64)) = false := by
        rw [bne_eq_false_iff_eq, decide_eq_decide]; omega
      rw [e2]
      exact hj2
    · rw [if_neg h0, decide_eq_false (show ¬ 0 < o by omega), Bool.false_and, if_neg (by simp), is_f hrow k (by omega), Option.bind_some, row_mask (by omega), decide_eq_false (show ¬ 0 < o by omega), Bool.false_and]
      exact hj2
  | succ d ih =>
    intro k j hj hd hk
    obtain ⟨k, rfl⟩ : ∃ m, k = m + 1 := ⟨k - 1, by omega⟩
    have hj2 : (2 * j) * 2 ^ d = 64 := by rw [← hj, Nat.pow_succ]; ac_rfl
    have hp := Nat.two_pow_pos d
    have hle : 2 * j ≤ 64 := by
      rw [← hj2]
      exact Nat.le_mul_of_pos_right _ hp
    have h0 : 0 < j := by
      by_cases h : 0 < j
      · exact h
      · obtain rfl : j = 0 := by omega
        omega
    simp only [cleatlaw02_MaskRow.l0]
    have hv := ofF_lt (fun i => (2 ^ o - 1).testBit (i % s)) j
    rw [if_pos (by omega), if_pos (by omega), shl64_one j (by omega), show wrap64 (2 * (j : Int)) = ((2 * j : Nat) : Int) by rw [w64_in ⟨by omega, by omega⟩]; omega]
    have e : ofF (fun i => (2 ^ o - 1).testBit (i % s)) (2 * j) = ofF (fun i => (2 ^ o - 1).testBit (i % s)) j + ofF (fun i => (2 ^ o - 1).testBit (i % s)) j * 2 ^ j := by
      apply Nat.eq_of_testBit_eq
      intro i
      rw [Nat.add_comm, Nat.mul_comm (ofF _ j), Nat.testBit_two_pow_mul_add _ hv, ofF_bit, ofF_bit, ofF_bit]
      by_cases h1 : i < j
      · rw [if_pos h1, decide_eq_true h1, decide_eq_true (show i < 2 * j by omega)]
      · rw [if_neg h1]
        by_cases h2 : i < 2 * j
        · rw [decide_eq_true h2, decide_eq_true (show i - j < j by omega), Bool.true_and, Bool.true_and]
          congr 1
          obtain ⟨c, rfl⟩ := hd
          have : i = (i - s * c) + s * c := by omega
          rw [this, Nat.add_mul_mod_self_left]
          congr 1
          omega
        · rw [decide_eq_false h2, decide_eq_false (show ¬ i - j < j by omega)]; simp
    have hp2 := pow_le64 hle
    have hv2 := ofF_lt (fun i => (2 ^ o - 1).testBit (i % s)) (2 * j)
    rw [e] at hv2
    have hih := ih k (2 * j) hj2 (Nat.dvd_mul_left_of_dvd hd 2) (by omega)
    rw [e] at hih
    generalize hA : ofF (fun i => (2 ^ o - 1).testBit (i % s)) j = A at *
    rw [show (A : Int) * ((2 ^ j : Nat) : Int) = ((A * 2 ^ j : Nat) : Int) from rfl]
    generalize A * 2 ^ j = C at *
    rw [wu64_in (n := (C : Int)) ⟨by omega, by omega⟩, show (A : Int) + (C : Int) = ((A + C : Nat) : Int) by omega, wu64_in ⟨by omega, by omega⟩]
    exact hih
theorem row_j0t (k : Nat) (hk : 301 ≤ k) (a b c : Int) : cleatlaw02_MaskRow.j0 k a b c true = some true := by
  obtain ⟨k, rfl⟩ : ∃ m, k = m + 1 := ⟨k - 1, by omega⟩
  simp only [cleatlaw02_MaskRow.j0]
  rw [if_pos trivial, masked_r k (by omega)]; rfl
theorem row_j0 (k : Nat) (hk : 500 ≤ k) (o s : Nat) (hs : Sz s) (ho : o ≤ s) (b : Int) : cleatlaw02_MaskRow.j0 k (o : Int) (s : Int) b false = some true := by
  obtain ⟨k, rfl⟩ : ∃ m, k = m + 1 := ⟨k - 1, by omega⟩
  have hl := hs.le
  simp only [cleatlaw02_MaskRow.j0]
  have e : (18446744073709551615 : Nat) % 2 ^ o = 2 ^ o - 1 := by
    refine eq_of_bits (s := 64) (Nat.lt_of_le_of_lt (Nat.mod_le _ _) (by decide)) (by have := pow_le64 (show o ≤ 64 by omega); have := Nat.two_pow_pos o; omega) fun i hi => ?_
    rw [Nat.testBit_mod_two_pow, Nat.testBit_two_pow_sub_one, show (18446744073709551615 : Nat) = 2 ^ 64 - 1 by rfl, Nat.testBit_two_pow_sub_one, decide_eq_true hi, Bool.and_true]
  rw [if_neg (by simp), show bits_Low.f 18446744073709551615 (o : Int) = some (((2 ^ o - 1 : Nat)) : Int) by
    have := low_f 18446744073709551615 (by decide) (o : Int)
    rw [lowZ_nat _ o (by decide) (by omega), e] at this
    exact this]
  rw [Option.bind_some]
  have hr : ofF (fun i => (2 ^ o - 1).testBit (i % s)) s = 2 ^ o - 1 := by
    have hp : 2 ^ o ≤ 2 ^ s := Nat.pow_le_pow_right (by decide) ho
    have := Nat.two_pow_pos o
    refine eq_of_bits (s := s) (ofF_lt _ _) (by omega) fun i hi => ?_
    rw [ofF_bit, decide_eq_true hi, Bool.true_and, Nat.mod_eq_of_lt hi]
  have hd : ∃ d, s * 2 ^ d = 64 ∧ d ≤ 6 := by
    rcases hs with rfl | rfl | rfl | rfl | rfl | rfl
    · exact ⟨5, rfl, by omega⟩
    · exact ⟨4, rfl, by omega⟩
    · exact ⟨3, rfl, by omega⟩
    · exact ⟨2, rfl, by omega⟩
    · exact ⟨1, rfl, by omega⟩
    · exact ⟨0, rfl, by omega⟩
  obtain ⟨d, hd, hd6⟩ := hd
  have := row_l0 o s hs ho b d k s hd (Nat.dvd_refl s) (by omega)
  rwa [hr] at this
theorem MaskRow : cleatlaw02_MaskRow.Pure := by
  intro o s b _ _ _
  refine ⟨600, ?_⟩
  have ht := fun a b c => row_j0t 600 (by omega) a b c
  unfold cleatlaw02_MaskRow.f
  by_cases hz : s = 2 ∨ s = 4 ∨ s = 8 ∨ s = 16 ∨ s = 32 ∨ s = 64
  · obtain ⟨s, rfl, hs⟩ := sz_cast hz
    have key : (if o < 0 then cleatlaw02_MaskRow.j0 600 o (s : Int) b true else cleatlaw02_MaskRow.j0 600 o (s : Int) b (decide (o > (s : Int)))) = some true := by
      by_cases h0 : o < 0
      · rw [if_pos h0]; exact ht _ _ _
      · rw [if_neg h0]
        by_cases h1 : o > (s : Int)
        · rw [decide_eq_true h1]; exact ht _ _ _
        · rw [decide_eq_false h1]
          obtain ⟨o, rfl⟩ := Int.eq_ofNat_of_zero_le (show 0 ≤ o by omega)
          exact row_j0 600 (by omega) o s hs (by omega) b
    repeat' split
    all_goals first | exact key | exact ht _ _ _ | skip
    all_goals first | (rename_i h; rw [if_pos h] at key; exact key) | (rename_i h; rw [if_neg h] at key; exact key)
  · rw [if_neg (by omega), if_neg (by omega), if_neg (by omega), if_neg (by omega), if_neg (by omega), if_neg (by omega)]
    exact ht _ _ _
end Go.Proofs.Yteachdhnoakgeaa.Pure
