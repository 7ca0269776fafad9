/- What the printed functions of package mask answer, over the theory of masks. -/
import Derived.Test.YtgonbeifaioheaaDoorMk1
import Derived.Test.YtgonbeifaioheaaDoorPx2
namespace Go.Proofs.YtgonbeifaioheaaDoor.M
open Go.RowKit Go.Proofs.YtgonbeifaioheaaDoor.P Go.Proofs.YtgonbeifaioheaaDoor.K Go.Proofs.YtgonbeifaioheaaDoor.B Go.Proofs.YtgonbeifaioheaaDoorW.PrintWords Go.Proofs.YtgonbeifaioheaaDoorW.PrintLast Go.Proofs.YtgonbeifaioheaaDoorW.PrintMore
set_option linter.unusedVariables false
set_option linter.unusedSimpArgs false
theorem sz64 : Sz 64 := by decide

/-! ### Size -/
theorem size_l {v : Nat} (hv : v < 18446744073709551616) (s : Nat) (hs : Sz s) (k : Nat) (hk : 3 ≤ k) :
  mask_Size.l0 k (v : Int) (s : Int) = if s < 64 then (if Per v s then some (s : Int) else mask_Size.l0 (k - 1) (v : Int) ((2 * s : Nat) : Int)) else some (s : Int) := by
 obtain ⟨k, rfl⟩ : ∃ m, k = m + 1 := ⟨k - 1, by omega⟩
 have hl := hs.le
 simp only [mask_Size.l0]
 by_cases h : s < 64
 ·rw [if_pos (by omega), if_pos h, show bits_Rotate.f k (v : Int) (s : Int) 64 = some ((rotN v s 64 : Int), 0) from rot_ok k (by omega) v s sz64 hv h, Option.bind_some]
  by_cases hp : Per v s
  ·rw [if_pos hp, if_pos (by rw [(per_rot hv hs h).2 hp])]
  ·rw [if_neg hp, if_neg (fun e => hp ((per_rot hv hs h).1 (Int.ofNat_inj.1 e))), show wrap64 ((s : Int) * 2) = ((2 * s : Nat) : Int) by rw [w64_in ⟨by omega, by omega⟩]; omega]
   rfl
 ·rw [if_neg (by omega), if_neg h]
theorem size_f {v : Nat} (hv : v < 18446744073709551616) (k : Nat) (hk : 20 ≤ k) : mask_Size.f k (v : Int) = some (sizeN v : Int) := by
 unfold mask_Size.f sizeN
 have e2 := size_l hv 2 (by decide) k (by omega)
 have e4 := size_l hv 4 (by decide) (k - 1) (by omega)
 have e8 := size_l hv 8 (by decide) (k - 1 - 1) (by omega)
 have e16 := size_l hv 16 (by decide) (k - 1 - 1 - 1) (by omega)
 have e32 := size_l hv 32 (by decide) (k - 1 - 1 - 1 - 1) (by omega)
 have e64 := size_l hv 64 (by decide) (k - 1 - 1 - 1 - 1 - 1) (by omega)
 refine e2.trans ?_
 rw [if_pos (by decide)]
 by_cases p2 : Per v 2
 ·rw [if_pos p2, if_pos p2]
 rw [if_neg p2, if_neg p2]
 refine e4.trans ?_
 rw [if_pos (by decide)]
 by_cases p4 : Per v 4
 ·rw [if_pos p4, if_pos p4]
 rw [if_neg p4, if_neg p4]
 refine e8.trans ?_
 rw [if_pos (by decide)]
 by_cases p8 : Per v 8
 ·rw [if_pos p8, if_pos p8]
 rw [if_neg p8, if_neg p8]
 refine e16.trans ?_
 rw [if_pos (by decide)]
 by_cases p16 : Per v 16
 ·rw [if_pos p16, if_pos p16]
 rw [if_neg p16, if_neg p16]
 refine e32.trans ?_
 rw [if_pos (by decide)]
 by_cases p32 : Per v 32
 ·rw [if_pos p32, if_pos p32]
 rw [if_neg p32, if_neg p32]
 refine e64.trans ?_
 rw [if_neg (by decide)]

/-! ### Ones -/
theorem ones_l : ∀ (d k v n : Nat), v < 18446744073709551616 → cnt v 64 = d → d < k → n + d ≤ 64 → mask_Ones.l0 k (v : Int) (n : Int) = some ((n + d : Nat) : Int) := by
 intro d
 induction d with
 | zero =>
  intro k v n hv hc hk hn
  obtain ⟨k, rfl⟩ : ∃ m, k = m + 1 := ⟨k - 1, by omega⟩
  simp only [mask_Ones.l0]
  have h0 : v = 0 := by
   by_cases h : 0 < v
   ·have := and_pred v 64 hv h
    omega
   ·omega
  rw [if_pos (by omega), Nat.add_zero]
 | succ d ih =>
  intro k v n hv hc hk hn
  obtain ⟨k, rfl⟩ : ∃ m, k = m + 1 := ⟨k - 1, by omega⟩
  simp only [mask_Ones.l0]
  have h0 : 0 < v := by
   by_cases h : 0 < v
   ·exact h
   ·obtain rfl : v = 0 := by omega
    rw [cnt_zero] at hc; omega
  have hp := and_pred v 64 hv h0
  rw [if_neg (by omega), wu64_in (n := (v : Int) - 1) ⟨by omega, by omega⟩, show (v : Int) - 1 = ((v - 1 : Nat) : Int) by omega, (b64 v (v - 1) hv (by omega)).1, show wrap64 ((n : Int) + 1) = ((n + 1 : Nat) : Int) by rw [w64_in ⟨by omega, by omega⟩]; omega]
  rw [ih k (v &&& (v - 1)) (n + 1) (Nat.lt_of_le_of_lt Nat.and_le_left hv) (by omega) (by omega) (by omega)]
  congr 2
  omega
theorem cnt_le64 (v : Nat) : cnt v 64 ≤ 64 := cntF_le _ _
theorem ones_f {v : Nat} (hv : v < 18446744073709551616) (k : Nat) (hk : 70 ≤ k) : mask_Ones.f k (v : Int) = some (cnt v 64 : Int) := by
 have := cnt_le64 v
 have h := ones_l (cnt v 64) k v 0 hv rfl (by omega) (by omega)
 rw [Nat.zero_add] at h
 exact h

/-! ### the parts -/
theorem part_f {s t o : Nat} (hs : Sz s) (ht : t < s) (ho : o ≤ s) (k : Nat) (hk : 2 ≤ k) : mask_part.f k (s : Int) (t : Int) (o : Int) = some (rotN (2 ^ o - 1) t s : Int) := by
 have hl := hs.le
 have hp := Nat.two_pow_pos o
 have hle : 2 ^ o ≤ 2 ^ s := Nat.pow_le_pow_right (by decide) ho
 unfold mask_part.f
 rw [show bits_Low.f 18446744073709551615 (o : Int) = some (((18446744073709551615 : Nat) % 2 ^ o : Nat) : Int) by
  have := low_f 18446744073709551615 (by decide) (o : Int)
  rw [lowZ_nat _ o (by decide) (by omega)] at this
  exact this]
 have e : (18446744073709551615 : Nat) % 2 ^ o = 2 ^ o - 1 := by
  refine eq_of_bits (s := 64) (Nat.lt_of_le_of_lt (Nat.mod_le _ _) (by decide)) (by have := pow_le64 (show o ≤ 64 by omega); omega) fun i hi => ?_
  rw [Nat.testBit_mod_two_pow, Nat.testBit_two_pow_sub_one, show (18446744073709551615 : Nat) = 2 ^ 64 - 1 by rfl, Nat.testBit_two_pow_sub_one, decide_eq_true hi, Bool.and_true]
 rw [Option.bind_some, e, rot_ok k hk (2 ^ o - 1) t hs (by omega) ht, Option.bind_some]
theorem find_hit {s o low t : Nat} (hs : Sz s) (ho : o ≤ s) (ht : t < s) (hh : rotN (2 ^ o - 1) t s = low) (hb : ∀ i, i < t → rotN (2 ^ o - 1) i s ≠ low) :
  ∀ (d k j : Nat), j + d = t → d + 3 < k → mask_find.l0 k (s : Int) (low : Int) (o : Int) (s : Int) (j : Int) = some ((s : Int), (t : Int), (o : Int)) := by
 intro d
 induction d with
 | zero =>
  intro k j hj hk
  obtain ⟨k, rfl⟩ : ∃ m, k = m + 1 := ⟨k - 1, by omega⟩
  obtain rfl : j = t := by omega
  simp only [mask_find.l0]
  rw [if_pos (by omega), part_f hs ht ho k (by omega), Option.bind_some, if_pos (by rw [hh])]
 | succ d ih =>
  intro k j hj hk
  obtain ⟨k, rfl⟩ : ∃ m, k = m + 1 := ⟨k - 1, by omega⟩
  have hl := hs.le
  simp only [mask_find.l0]
  rw [if_pos (by omega), part_f hs (show j < s by omega) ho k (by omega), Option.bind_some, if_neg (fun e => hb j (by omega) (by exact_mod_cast e)), show wrap64 ((j : Int) + 1) = ((j + 1 : Nat) : Int) by rw [w64_in ⟨by omega, by omega⟩]; omega]
  exact ih k (j + 1) (by omega) (by omega)
theorem find_miss {s o low : Nat} (hs : Sz s) (ho : o ≤ s) (hb : ∀ i, i < s → rotN (2 ^ o - 1) i s ≠ low) :
  ∀ (d k j : Nat), j + d = s → d + 3 < k → mask_find.l0 k (s : Int) (low : Int) (o : Int) (s : Int) (j : Int) = some (0, 0, 0) := by
 intro d
 induction d with
 | zero =>
  intro k j hj hk
  obtain ⟨k, rfl⟩ : ∃ m, k = m + 1 := ⟨k - 1, by omega⟩
  simp only [mask_find.l0]
  rw [if_neg (by omega)]
 | succ d ih =>
  intro k j hj hk
  obtain ⟨k, rfl⟩ : ∃ m, k = m + 1 := ⟨k - 1, by omega⟩
  have hl := hs.le
  simp only [mask_find.l0]
  rw [if_pos (by omega), part_f hs (show j < s by omega) ho k (by omega), Option.bind_some, if_neg (fun e => hb j (by omega) (by exact_mod_cast e)), show wrap64 ((j : Int) + 1) = ((j + 1 : Nat) : Int) by rw [w64_in ⟨by omega, by omega⟩]; omega]
  exact ih k (j + 1) (by omega) (by omega)
def Mask (v : Nat) : Prop := ∃ s o t, IsRun v s o t
theorem find_head {v : Nat} (hv : v < 18446744073709551616) (k : Nat) (hk : 200 ≤ k) :
  mask_find.f k (v : Int) = if cnt (v % 2 ^ sizeN v) 64 = 0 ∨ cnt (v % 2 ^ sizeN v) 64 = sizeN v then some (0, 0, 0) else mask_find.l0 (k - 1) (sizeN v : Int) ((v % 2 ^ sizeN v : Nat) : Int) (cnt (v % 2 ^ sizeN v) 64 : Int) (sizeN v : Int) 0 := by
 obtain ⟨k, rfl⟩ : ∃ m, k = m + 1 := ⟨k - 1, by omega⟩
 have hl := (sizeN_sz v).le
 have hlow : v % 2 ^ sizeN v < 18446744073709551616 := Nat.lt_of_le_of_lt (Nat.mod_le _ _) hv
 unfold mask_find.f
 rw [size_f hv (k + 1) (by omega), Option.bind_some, low_f v hv, Option.bind_some, lowZ_nat v (sizeN v) hv hl.2, ones_f hlow (k + 1) (by omega), Option.bind_some]
 by_cases h0 : cnt (v % 2 ^ sizeN v) 64 = 0
 ·rw [if_pos (by omega), if_pos (.inl h0)]
  simp [mask_find.j0]
 ·rw [if_neg (by omega)]
  by_cases h1 : cnt (v % 2 ^ sizeN v) 64 = sizeN v
  ·rw [if_pos (.inr h1), beq_iff_eq.2 (by omega)]
   simp [mask_find.j0]
  ·rw [if_neg (by omega), beq_eq_false_iff_ne.2 (by omega)]
   simp [mask_find.j0]
theorem find_run {v s o t : Nat} (hv : v < 18446744073709551616) (h : IsRun v s o t) (k : Nat) (hk : 200 ≤ k) : mask_find.f k (v : Int) = some ((s : Int), (t : Int), (o : Int)) := by
 have hs := run_size h
 have hl := h.sz.le
 have o1 := h.o1
 have o2 := h.o2
 have hc := run_ones h
 rw [find_head hv k hk, hs, hc, if_neg (by omega), run_low h]
 refine find_hit h.sz (by omega) h.tl rfl (fun i hi e => ?_) t (k - 1) 0 (by omega) (by have := h.tl; omega)
 have := row_inj hl.1 o1 o2 (show i < s by have := h.tl; omega) h.tl e
 omega
theorem find_none {v : Nat} (hv : v < 18446744073709551616) (h : ¬ Mask v) (k : Nat) (hk : 200 ≤ k) : mask_find.f k (v : Int) = some (0, 0, 0) := by
 have hs := sizeN_sz v
 have hl := hs.le
 rw [find_head hv k hk]
 by_cases hc : cnt (v % 2 ^ sizeN v) 64 = 0 ∨ cnt (v % 2 ^ sizeN v) 64 = sizeN v
 ·rw [if_pos hc]
 ·rw [if_neg hc]
  have hle : cnt (v % 2 ^ sizeN v) 64 ≤ sizeN v := by
   have hlt : v % 2 ^ sizeN v < 2 ^ sizeN v := Nat.mod_lt _ (Nat.two_pow_pos _)
   have := cnt_more (v % 2 ^ sizeN v) hlt (64 - sizeN v)
   rw [Nat.add_sub_cancel' hl.2] at this
   rw [this]
   exact cntF_le _ _
  refine find_miss hs hle (fun i hi e => h ⟨_, _, i, run_of hs (by omega) (by omega) hi (sizeN_per v) e.symm⟩) (sizeN v) (k - 1) 0 (by omega) (by omega)

/-! ### Is, Encode -/
theorem is_run {v : Nat} (hv : v < 18446744073709551616) (h : Mask v) (k : Nat) (hk : 200 ≤ k) : mask_Is.f k (v : Int) = some true := by
 obtain ⟨s, o, t, h⟩ := h
 have hl := h.sz.le
 unfold mask_Is.f
 rw [find_run hv h k hk, Option.bind_some, beq_eq_false_iff_ne.2 (show (s : Int) ≠ 0 by omega)]
 rfl
theorem is_none {v : Nat} (hv : v < 18446744073709551616) (h : ¬ Mask v) (k : Nat) (hk : 200 ≤ k) : mask_Is.f k (v : Int) = some false := by
 unfold mask_Is.f
 rw [find_none hv h k hk]
 rfl
open Classical in
theorem is_f {v : Nat} (hv : v < 18446744073709551616) (k : Nat) (hk : 200 ≤ k) : mask_Is.f k (v : Int) = some (decide (Mask v)) := by
 by_cases h : Mask v
 ·rw [is_run hv h k hk, decide_eq_true h]
 ·rw [is_none hv h k hk, decide_eq_false h]
def exN (s : Nat) : Nat := if s = 64 then 0 else 64 - 2 * s
def nN (s : Nat) : Nat := if s = 64 then 1 else 0
/-! ### numbers by their bits -/
def ofF (f : Nat → Bool) : Nat → Nat
 | 0 => 0
 | n + 1 => ofF f n + (f n).toNat * 2 ^ n
theorem ofF_lt (f : Nat → Bool) : ∀ n, ofF f n < 2 ^ n
 | 0 => by simp [ofF]
 | n + 1 => by
  have := ofF_lt f n
  rw [ofF, Nat.pow_succ]
  cases f n <;> simp <;> omega
theorem ofF_bit (f : Nat → Bool) : ∀ n i, (ofF f n).testBit i = (decide (i < n) && f i)
 | 0, i => by simp [ofF]
 | n + 1, i => by
  have hl := ofF_lt f n
  rw [ofF, Nat.add_comm, Nat.mul_comm, Nat.testBit_two_pow_mul_add _ hl]
  by_cases h : i < n
  ·rw [if_pos h, ofF_bit f n i, decide_eq_true h, decide_eq_true (by omega)]
  ·rw [if_neg h]
   by_cases e : i = n
   ·subst e
    rw [Nat.sub_self, decide_eq_true (by omega)]
    cases f i <;> simp
   ·rw [decide_eq_false (show ¬ i < n + 1 by omega)]
    cases f n
    ·simp
    ·rw [Bool.toNat_true, Bool.false_and]
     exact Nat.testBit_lt_two_pow (Nat.one_lt_two_pow (by omega))
def againN (x s : Nat) : Nat := ofF (fun i => x.testBit (i % s)) 64
theorem againN_lt (x s : Nat) : againN x s < 18446744073709551616 := ofF_lt _ 64
theorem againN_bit {x s i : Nat} (hi : i < 64) : (againN x s).testBit i = x.testBit (i % s) := by
 unfold againN
 rw [ofF_bit, decide_eq_true hi, Bool.true_and]
theorem again_run {s o t : Nat} (hs : Sz s) (h1 : 1 ≤ o) (h2 : o < s) (ht : t < s) : IsRun (againN (rotN (2 ^ o - 1) t s) s) s o t := by
 refine ⟨hs, h1, h2, ht, fun i hi => ?_⟩
 rw [againN_bit hi, row_bit (by omega) ht (Nat.mod_lt _ (by omega)), Nat.mod_add_mod]
theorem run_again {v s o t : Nat} (hv : v < 18446744073709551616) (h : IsRun v s o t) : againN (rotN (2 ^ o - 1) t s) s = v := by
 have hr := again_run h.sz h.o1 h.o2 h.tl
 refine eq_of_bits (s := 64) (againN_lt _ _) hv fun i hi => ?_
 rw [hr.bits i hi, h.bits i hi]

end Go.Proofs.YtgonbeifaioheaaDoor.M
