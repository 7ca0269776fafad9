/- What the printed functions of package mask answer, over the theory of masks. -/
import Derived.Test.YtemenenkefcebaaDoorMk1
import Derived.Test.YtemenenkefcebaaDoorPx3
import Derived.Test.YtemenenkefcebaaDoorPx5
import Derived.Test.YtemenenkefcebaaDoorPx7
namespace Go.Proofs.YtemenenkefcebaaDoor.M
open Go.RowKit Go.Proofs.YtemenenkefcebaaDoor.P Go.Proofs.YtemenenkefcebaaDoor.K Go.Proofs.YtemenenkefcebaaDoor.B Go.Proofs.YtemenenkefcebaaDoorW.PrintWords Go.Proofs.YtemenenkefcebaaDoorW.PrintLast Go.Proofs.YtemenenkefcebaaDoorW.PrintMore
set_option linter.unusedVariables false
set_option linter.unusedSimpArgs false
theorem sz64 : Sz 64 := by decide

/-! ### Size -/
theorem size_l {v : Nat} (hv : v < 18446744073709551616) (s : Nat) (hs : Sz s) (k : Nat) (hk : 3 ≤ k) :
  mask_Size.l0 k (v : Int) (s : Int) = if s < 64 then (if Per v s then some (s : Int) else mask_Size.l0 (k - 1) (v : Int) ((2 * s : Nat) : Int)) else some (s : Int) := by
 obtain ⟨k, rfl⟩ : ∃ m, k = m + 1 := ⟨k - 1, by omega⟩
 have hl := hs.le
 simp only [mask_Size.l0]
 by_cases h : s < 64
 ·rw [if_pos (by omega), if_pos h, show bits_Rotate.f k (v : Int) (s : Int) 64 = some ((rotN v s 64 : Int), 0) from rot_ok k (by omega) v s sz64 hv h, Option.bind_some]
  by_cases hp : Per v s
  ·rw [if_pos hp, if_pos (by rw [(per_rot hv hs h).2 hp])]
  ·rw [if_neg hp, if_neg (fun e => hp ((per_rot hv hs h).1 (Int.ofNat_inj.1 e))), show wrap64 ((s : Int) * 2) = ((2 * s : Nat) : Int) by rw [w64_in ⟨by omega, by omega⟩]; omega]
   rfl
 ·rw [if_neg (by omega), if_neg h]
theorem size_f {v : Nat} (hv : v < 18446744073709551616) (k : Nat) (hk : 20 ≤ k) : mask_Size.f k (v : Int) = some (sizeN v : Int) := by
 unfold mask_Size.f sizeN
 have e2 := size_l hv 2 (by decide) k (by omega)
 have e4 := size_l hv 4 (by decide) (k - 1) (by omega)
 have e8 := size_l hv 8 (by decide) (k - 1 - 1) (by omega)
 have e16 := size_l hv 16 (by decide) (k - 1 - 1 - 1) (by omega)
 have e32 := size_l hv 32 (by decide) (k - 1 - 1 - 1 - 1) (by omega)
 have e64 := size_l hv 64 (by decide) (k - 1 - 1 - 1 - 1 - 1) (by omega)
 refine e2.trans ?_
 rw [if_pos (by decide)]
 by_cases p2 : Per v 2
 ·rw [if_pos p2, if_pos p2]
 rw [if_neg p2, if_neg p2]
 refine e4.trans ?_
 rw [if_pos (by decide)]
 by_cases p4 : Per v 4
 ·rw [if_pos p4, if_pos p4]
 rw [if_neg p4, if_neg p4]
 refine e8.trans ?_
 rw [if_pos (by decide)]
 by_cases p8 : Per v 8
 ·rw [if_pos p8, if_pos p8]
 rw [if_neg p8, if_neg p8]
 refine e16.trans ?_
 rw [if_pos (by decide)]
 by_cases p16 : Per v 16
 ·rw [if_pos p16, if_pos p16]
 rw [if_neg p16, if_neg p16]
 refine e32.trans ?_
 rw [if_pos (by decide)]
 by_cases p32 : Per v 32
 ·rw [if_pos p32, if_pos p32]
 rw [if_neg p32, if_neg p32]
 refine e64.trans ?_
 rw [if_neg (by decide)]

/-! ### Ones -/
theorem ones_l : ∀ (d k v n : Nat), v < 18446744073709551616 → cnt v 64 = d → d < k → n + d ≤ 64 → mask_Ones.l0 k (v : Int) (n : Int) = some ((n + d : Nat) : Int) := by
 intro d
 induction d with
 | zero =>
  intro k v n hv hc hk hn
  obtain ⟨k, rfl⟩ : ∃ m, k = m + 1 := ⟨k - 1, by omega⟩
  simp only [mask_Ones.l0]
  have h0 : v = 0 := by
   by_cases h : 0 < v
   ·have := and_pred v 64 hv h
    omega
   ·omega
  rw [if_pos (by omega), Nat.add_zero]
 | succ d ih =>
  intro k v n hv hc hk hn
  obtain ⟨k, rfl⟩ : ∃ m, k = m + 1 := ⟨k - 1, by omega⟩
  simp only [mask_Ones.l0]
  have h0 : 0 < v := by
   by_cases h : 0 < v
   ·exact h
   ·obtain rfl : v = 0 := by omega
    rw [cnt_zero] at hc; omega
  have hp := and_pred v 64 hv h0
  rw [if_neg (by omega), wu64_in (n := (v : Int) - 1) ⟨by omega, by omega⟩, show (v : Int) - 1 = ((v - 1 : Nat) : Int) by omega, (b64 v (v - 1) hv (by omega)).1, show wrap64 ((n : Int) + 1) = ((n + 1 : Nat) : Int) by rw [w64_in ⟨by omega, by omega⟩]; omega]
  rw [ih k (v &&& (v - 1)) (n + 1) (Nat.lt_of_le_of_lt Nat.and_le_left hv) (by omega) (by omega) (by omega)]
  congr 2
  omega
theorem cnt_le64 (v : Nat) : cnt v 64 ≤ 64 := cntF_le _ _
theorem ones_f {v : Nat} (hv : v < 18446744073709551616) (k : Nat) (hk : 70 ≤ k) : mask_Ones.f k (v : Int) = some (cnt v 64 : Int) := by
 have := cnt_le64 v
 have h := ones_l (cnt v 64) k v 0 hv rfl (by omega) (by omega)
 rw [Nat.zero_add] at h
 exact h

/-! ### the parts -/
theorem part_f {s t o : Nat} (hs : Sz s) (ht : t < s) (ho : o ≤ s) (k : Nat) (hk : 2 ≤ k) : mask_part.f k (s : Int) (t : Int) (o : Int) = some (rotN (2 ^ o - 1) t s : Int) := by
 have hl := hs.le
 have hp := Nat.two_pow_pos o
 have hle : 2 ^ o ≤ 2 ^ s := Nat.pow_le_pow_right (by decide) ho
 unfold mask_part.f
 rw [show bits_Low.f 18446744073709551615 (o : Int) = some (((18446744073709551615 : Nat) % 2 ^ o : Nat) : Int) by
  have := low_f 18446744073709551615 (by decide) (o : Int)
  rw [lowZ_nat _ o (by decide) (by omega)] at this
  exact this]
 have e : (18446744073709551615 : Nat) % 2 ^ o = 2 ^ o - 1 := by
  refine eq_of_bits (s := 64) (Nat.lt_of_le_of_lt (Nat.mod_le _ _) (by decide)) (by have := pow_le64 (show o ≤ 64 by omega); omega) fun i hi => ?_
  rw [Nat.testBit_mod_two_pow, Nat.testBit_two_pow_sub_one, show (18446744073709551615 : Nat) = 2 ^ 64 - 1 by rfl, Nat.testBit_two_pow_sub_one, decide_eq_true hi, Bool.and_true]
 rw [Option.bind_some, e, rot_ok k hk (2 ^ o - 1) t hs (by omega) ht, Option.bind_some]
theorem find_hit {s o low t : Nat} (hs : Sz s) (ho : o ≤ s) (ht : t < s) (hh : rotN (2 ^ o - 1) t s = low) (hb : ∀ i, i < t → rotN (2 ^ o - 1) i s ≠ low) :
  ∀ (d k j : Nat), j + d = t → d + 3 < k → mask_find.l0 k (s : Int) (low : Int) (o : Int) (s : Int) (j : Int) = some ((s : Int), (t : Int), (o : Int)) := by
 intro d
 induction d with
 | zero =>
  intro k j hj hk
  obtain ⟨k, rfl⟩ : ∃ m, k = m + 1 := ⟨k - 1, by omega⟩
  obtain rfl : j = t := by omega
  simp only [mask_find.l0]
  rw [if_pos (by omega), part_f hs ht ho k (by omega), Option.bind_some, if_pos (by rw [hh])]
 | succ d ih =>
  intro k j hj hk
  obtain ⟨k, rfl⟩ : ∃ m, k = m + 1 := ⟨k - 1, by omega⟩
  have hl := hs.le
  simp only [mask_find.l0]
  rw [if_pos (by omega), part_f hs (show j < s by omega) ho k (by omega), Option.bind_some, if_neg (fun e => hb j (by omega) (by exact_mod_cast e)), show wrap64 ((j : Int) + 1) = ((j + 1 : Nat) : Int) by rw [w64_in ⟨by omega, by omega⟩]; omega]
  exact ih k (j + 1) (by omega) (by omega)
theorem find_miss {s o low : Nat} (hs : Sz s) (ho : o ≤ s) (hb : ∀ i, i < s → rotN (2 ^ o - 1) i s ≠ low) :
  ∀ (d k j : Nat), j + d = s → d + 3 < k → mask_find.l0 k (s : Int) (low : Int) (o : Int) (s : Int) (j : Int) = some (0, 0, 0) := by
 intro d
 induction d with
 | zero =>
  intro k j hj hk
  obtain ⟨k, rfl⟩ : ∃ m, k = m + 1 := ⟨k - 1, by omega⟩
  simp only [mask_find.l0]
  rw [if_neg (by omega)]
 | succ d ih =>
  intro k j hj hk
  obtain ⟨k, rfl⟩ : ∃ m, k = m + 1 := ⟨k - 1, by omega⟩
  have hl := hs.le
  simp only [mask_find.l0]
  rw [if_pos (by omega), part_f hs (show j < s by omega) ho k (by omega), Option.bind_some, if_neg (fun e => hb j (by omega) (by exact_mod_cast e)), show wrap64 ((j : Int) + 1) = ((j + 1 : Nat) : Int) by rw [w64_in ⟨by omega, by omega⟩]; omega]
  exact ih k (j + 1) (by omega) (by omega)
def Mask (v : Nat) : Prop := ∃ s o t, IsRun v s o t
theorem find_head {v : Nat} (hv : v < 18446744073709551616) (k : Nat) (hk : 200 ≤ k) :
  mask_find.f k (v : Int) = if cnt (v % 2 ^ sizeN v) 64 = 0 ∨ cnt (v % 2 ^ sizeN v) 64 = sizeN v then some (0, 0, 0) else mask_find.l0 (k - 1) (sizeN v : Int) ((v % 2 ^ sizeN v : Nat) : Int) (cnt (v % 2 ^ sizeN v) 64 : Int) (sizeN v : Int) 0 := by
 obtain ⟨k, rfl⟩ : ∃ m, k = m + 1 := ⟨k - 1, by omega⟩
 have hl := (sizeN_sz v).le
 have hlow : v % 2 ^ sizeN v < 18446744073709551616 := Nat.lt_of_le_of_lt (Nat.mod_le _ _) hv
 unfold mask_find.f
 rw [size_f hv (k + 1) (by omega), Option.bind_some, low_f v hv, Option.bind_some, lowZ_nat v (sizeN v) hv hl.2, ones_f hlow (k + 1) (by omega), Option.bind_some]
 by_cases h0 : cnt (v % 2 ^ sizeN v) 64 = 0
 ·rw [if_pos (by omega), if_pos (.inl h0)]
  simp [mask_find.j0]
 ·rw [if_neg (by omega)]
  by_cases h1 : cnt (v % 2 ^ sizeN v) 64 = sizeN v
  ·rw [if_pos (.inr h1), beq_iff_eq.2 (by omega)]
   simp [mask_find.j0]
  ·rw [if_neg (by omega), beq_eq_false_iff_ne.2 (by omega)]
   simp [mask_find.j0]
theorem find_run {v s o t : Nat} (hv : v < 18446744073709551616) (h : IsRun v s o t) (k : Nat) (hk : 200 ≤ k) : mask_find.f k (v : Int) = some ((s : Int), (t : Int), (o : Int)) := by
 have hs := run_size h
 have hl := h.sz.le
 have o1 := h.o1
 have o2 := h.o2
 have hc := run_ones h
 rw [find_head hv k hk, hs, hc, if_neg (by omega), run_low h]
 refine find_hit h.sz (by omega) h.tl rfl (fun i hi e => ?_) t (k - 1) 0 (by omega) (by have := h.tl; omega)
 have := row_inj hl.1 o1 o2 (show i < s by have := h.tl; omega) h.tl e
 omega
theorem find_none {v : Nat} (hv : v < 18446744073709551616) (h : ¬ Mask v) (k : Nat) (hk : 200 ≤ k) : mask_find.f k (v : Int) = some (0, 0, 0) := by
 have hs := sizeN_sz v
 have hl := hs.le
 rw [find_head hv k hk]
 by_cases hc : cnt (v % 2 ^ sizeN v) 64 = 0 ∨ cnt (v % 2 ^ sizeN v) 64 = sizeN v
 ·rw [if_pos hc]
 ·rw [if_neg hc]
  have hle : cnt (v % 2 ^ sizeN v) 64 ≤ sizeN v := by
   have hlt : v % 2 ^ sizeN v < 2 ^ sizeN v := Nat.mod_lt _ (Nat.two_pow_pos _)
   have := cnt_more (v % 2 ^ sizeN v) hlt (64 - sizeN v)
   rw [Nat.add_sub_cancel' hl.2] at this
   rw [this]
   exact cntF_le _ _
  refine find_miss hs hle (fun i hi e => h ⟨_, _, i, run_of hs (by omega) (by omega) hi (sizeN_per v) e.symm⟩) (sizeN v) (k - 1) 0 (by omega) (by omega)

/-! ### Is, Encode -/
theorem is_run {v : Nat} (hv : v < 18446744073709551616) (h : Mask v) (k : Nat) (hk : 200 ≤ k) : mask_Is.f k (v : Int) = some true := by
 obtain ⟨s, o, t, h⟩ := h
 have hl := h.sz.le
 unfold mask_Is.f
 rw [find_run hv h k hk, Option.bind_some, beq_eq_false_iff_ne.2 (show (s : Int) ≠ 0 by omega)]
 rfl
theorem is_none {v : Nat} (hv : v < 18446744073709551616) (h : ¬ Mask v) (k : Nat) (hk : 200 ≤ k) : mask_Is.f k (v : Int) = some false := by
 unfold mask_Is.f
 rw [find_none hv h k hk]
 rfl
open Classical in
theorem is_f {v : Nat} (hv : v < 18446744073709551616) (k : Nat) (hk : 200 ≤ k) : mask_Is.f k (v : Int) = some (decide (Mask v)) := by
 by_cases h : Mask v
 ·rw [is_run hv h k hk, decide_eq_true h]
 ·rw [is_none hv h k hk, decide_eq_false h]
def exN (s : Nat) : Nat := if s = 64 then 0 else 64 - 2 * s
theorem extra_f {s : Nat} (hs : Sz s) : mask_extra.f (s : Int) = some (exN s : Int) := by
 unfold mask_extra.f exN
 have hl := hs.le
 by_cases h : s = 64
 ·rw [if_pos (by omega), if_pos h]; rfl
 ·have : s ≤ 32 := by rcases hs with e | e | e | e | e | e <;> omega
  rw [if_neg (by omega), if_neg h, w64_in (n := 2 * (s : Int)) ⟨by omega, by omega⟩, w64_in ⟨by omega, by omega⟩]
  congr 1
  omega
def nN (s : Nat) : Nat := if s = 64 then 1 else 0
theorem encode_run {v s o t : Nat} (hv : v < 18446744073709551616) (h : IsRun v s o t) (k : Nat) (hk : 200 ≤ k) : mask_Encode.f k (v : Int) = some ((nN s : Int), (t : Int), ((o - 1 + exN s : Nat) : Int), 0) := by
 have hl := h.sz.le
 have o1 := h.o1
 have o2 := h.o2
 have ex : exN s ≤ 64 := by unfold exN; split <;> omega
 unfold mask_Encode.f
 rw [find_run hv h k hk, Option.bind_some, beq_eq_false_iff_ne.2 (show (s : Int) ≠ 0 by omega)]
 dsimp only
 have e2 : wrap64 (wrap64 ((o : Int) - 1) + (exN s : Int)) = ((o - 1 + exN s : Nat) : Int) := by
  rw [w64_in (n := (o : Int) - 1) ⟨by omega, by omega⟩, w64_in ⟨by omega, by omega⟩]; omega
 rw [Bool.false_and, if_neg (by simp), extra_f h.sz, Option.bind_some, Option.bind_some, e2]
 unfold nN
 by_cases e : s = 64
 ·rw [if_pos (by omega), if_pos e]; rfl
 ·rw [if_neg (by omega), if_neg e]; rfl
theorem encode_none {v : Nat} (hv : v < 18446744073709551616) (h : ¬ Mask v) (k : Nat) (hk : 200 ≤ k) : mask_Encode.f k (v : Int) = some (0, 0, 0, 3) := by
 unfold mask_Encode.f
 rw [find_none hv h k hk]; rfl

/-! ### numbers by their bits -/
def ofF (f : Nat → Bool) : Nat → Nat
 | 0 => 0
 | n + 1 => ofF f n + (f n).toNat * 2 ^ n
theorem ofF_lt (f : Nat → Bool) : ∀ n, ofF f n < 2 ^ n
 | 0 => by simp [ofF]
 | n + 1 => by
  have := ofF_lt f n
  rw [ofF, Nat.pow_succ]
  cases f n <;> simp <;> omega
theorem ofF_bit (f : Nat → Bool) : ∀ n i, (ofF f n).testBit i = (decide (i < n) && f i)
 | 0, i => by simp [ofF]
 | n + 1, i => by
  have hl := ofF_lt f n
  rw [ofF, Nat.add_comm, Nat.mul_comm, Nat.testBit_two_pow_mul_add _ hl]
  by_cases h : i < n
  ·rw [if_pos h, ofF_bit f n i, decide_eq_true h, decide_eq_true (by omega)]
  ·rw [if_neg h]
   by_cases e : i = n
   ·subst e
    rw [Nat.sub_self, decide_eq_true (by omega)]
    cases f i <;> simp
   ·rw [decide_eq_false (show ¬ i < n + 1 by omega)]
    cases f n
    ·simp
    ·rw [Bool.toNat_true, Bool.false_and]
     exact Nat.testBit_lt_two_pow (Nat.one_lt_two_pow (by omega))
def againN (x s : Nat) : Nat := ofF (fun i => x.testBit (i % s)) 64
theorem againN_lt (x s : Nat) : againN x s < 18446744073709551616 := ofF_lt _ 64
theorem againN_bit {x s i : Nat} (hi : i < 64) : (againN x s).testBit i = x.testBit (i % s) := by
 unfold againN
 rw [ofF_bit, decide_eq_true hi, Bool.true_and]
theorem again_run {s o t : Nat} (hs : Sz s) (h1 : 1 ≤ o) (h2 : o < s) (ht : t < s) : IsRun (againN (rotN (2 ^ o - 1) t s) s) s o t := by
 refine ⟨hs, h1, h2, ht, fun i hi => ?_⟩
 rw [againN_bit hi, row_bit (by omega) ht (Nat.mod_lt _ (by omega)), Nat.mod_add_mod]
theorem run_again {v s o t : Nat} (hv : v < 18446744073709551616) (h : IsRun v s o t) : againN (rotN (2 ^ o - 1) t s) s = v := by
 have hr := again_run h.sz h.o1 h.o2 h.tl
 refine eq_of_bits (s := 64) (againN_lt _ _) hv fun i hi => ?_
 rw [hr.bits i hi, h.bits i hi]

/-! ### Decode -/
/-- Do n, r and s tell a mask of this size? -/
def Dc (n r s z : Nat) : Prop := ((z = 64) ↔ (n = 1)) ∧ exN z ≤ s ∧ s + 1 - exN z < z ∧ r < z
instance (n r s z : Nat) : Decidable (Dc n r s z) := by unfold Dc; infer_instance
def firstZ (n r s : Nat) : Nat := if Dc n r s 2 then 2 else if Dc n r s 4 then 4 else if Dc n r s 8 then 8 else if Dc n r s 16 then 16 else if Dc n r s 32 then 32 else if Dc n r s 64 then 64 else 0
theorem read_l {n r s z : Nat} (hz : Sz z) (hn : n ≤ 1) (hr : r ≤ 63) (hs : s ≤ 63) (k : Nat) (hk : 1 ≤ k) :
  mask_read.l0 k (n : Int) (r : Int) (s : Int) (z : Int) = if Dc n r s z then some ((z : Int), (r : Int), ((s + 1 - exN z : Nat) : Int)) else mask_read.l0 (k - 1) (n : Int) (r : Int) (s : Int) ((2 * z : Nat) : Int) := by
 obtain ⟨k, rfl⟩ : ∃ m, k = m + 1 := ⟨k - 1, by omega⟩
 have hl := hz.le
 have ex : exN z ≤ 64 := by unfold exN; split <;> omega
 simp only [mask_read.l0]
 rw [if_pos (by omega), extra_f hz, Option.bind_some, w64_in (n := (s : Int) + 1) ⟨by omega, by omega⟩, w64_in ⟨by omega, by omega⟩, show wrap64 ((z : Int) * 2) = ((2 * z : Nat) : Int) by rw [w64_in ⟨by omega, by omega⟩]; omega]
 by_cases h1 : (z = 64 ↔ n = 1)
 ·have e1 : (((z : Int) == 64) == ((n : Int) == 1)) = true := by
   by_cases h : z = 64
   ·rw [beq_iff_eq.2 (show (z : Int) = 64 by omega), beq_iff_eq.2 (show (n : Int) = 1 by have := h1.1 h; omega)]; rfl
   ·rw [beq_eq_false_iff_ne.2 (show (z : Int) ≠ 64 by omega), beq_eq_false_iff_ne.2 (show (n : Int) ≠ 1 by intro e; exact h (h1.2 (by omega)))]; rfl
  rw [if_pos e1]
  by_cases h2 : exN z ≤ s
  ·rw [if_pos (by omega)]
   by_cases h3 : s + 1 - exN z < z
   ·rw [if_pos (by omega)]
    by_cases h4 : r < z
    ·rw [if_pos (by omega), if_pos (show Dc n r s z from ⟨h1, h2, h3, h4⟩)]
     congr 3
     omega
    ·rw [if_neg (by omega), if_neg (show ¬ Dc n r s z from fun h => h4 h.2.2.2)]; rfl
   ·rw [if_neg (by omega), if_neg (show ¬ Dc n r s z from fun h => h3 h.2.2.1)]; rfl
  ·rw [if_neg (by omega), if_neg (show ¬ Dc n r s z from fun h => h2 h.2.1)]; rfl
 ·have e1 : ¬ (((z : Int) == 64) == ((n : Int) == 1)) = true := by
   intro e
   apply h1
   rw [beq_iff_eq] at e
   constructor
   ·intro h
    rw [beq_iff_eq.2 (show (z : Int) = 64 by omega)] at e
    have := beq_iff_eq.1 e.symm
    omega
   ·intro h
    rw [beq_iff_eq.2 (show (n : Int) = 1 by omega)] at e
    have := beq_iff_eq.1 e
    omega
  rw [if_neg e1, if_neg (show ¬ Dc n r s z from fun h => h1 h.1)]; rfl
theorem read_f {n r s : Nat} (hn : n ≤ 1) (hr : r ≤ 63) (hs : s ≤ 63) (k : Nat) (hk : 20 ≤ k) :
  mask_read.f k (n : Int) (r : Int) (s : Int) = if firstZ n r s = 0 then some (0, 0, 0) else some ((firstZ n r s : Int), (r : Int), ((s + 1 - exN (firstZ n r s) : Nat) : Int)) := by
 unfold mask_read.f firstZ
 have e2 := read_l (n := n) (r := r) (s := s) (z := 2) (by decide) hn hr hs k (by omega)
 have e4 := read_l (n := n) (r := r) (s := s) (z := 4) (by decide) hn hr hs (k - 1) (by omega)
 have e8 := read_l (n := n) (r := r) (s := s) (z := 8) (by decide) hn hr hs (k - 1 - 1) (by omega)
 have e16 := read_l (n := n) (r := r) (s := s) (z := 16) (by decide) hn hr hs (k - 1 - 1 - 1) (by omega)
 have e32 := read_l (n := n) (r := r) (s := s) (z := 32) (by decide) hn hr hs (k - 1 - 1 - 1 - 1) (by omega)
 have e64 := read_l (n := n) (r := r) (s := s) (z := 64) (by decide) hn hr hs (k - 1 - 1 - 1 - 1 - 1) (by omega)
 refine e2.trans ?_
 by_cases p2 : Dc n r s 2
 ·rw [if_pos p2, if_pos p2, if_neg (by decide)]
 rw [if_neg p2, if_neg p2]
 refine e4.trans ?_
 by_cases p4 : Dc n r s 4
 ·rw [if_pos p4, if_pos p4, if_neg (by decide)]
 rw [if_neg p4, if_neg p4]
 refine e8.trans ?_
 by_cases p8 : Dc n r s 8
 ·rw [if_pos p8, if_pos p8, if_neg (by decide)]
 rw [if_neg p8, if_neg p8]
 refine e16.trans ?_
 by_cases p16 : Dc n r s 16
 ·rw [if_pos p16, if_pos p16, if_neg (by decide)]
 rw [if_neg p16, if_neg p16]
 refine e32.trans ?_
 by_cases p32 : Dc n r s 32
 ·rw [if_pos p32, if_pos p32, if_neg (by decide)]
 rw [if_neg p32, if_neg p32]
 refine e64.trans ?_
 by_cases p64 : Dc n r s 64
 ·rw [if_pos p64, if_pos p64, if_neg (by decide)]
 rw [if_neg p64, if_neg p64, if_pos rfl]
 obtain ⟨m, hm⟩ : ∃ m, k - 1 - 1 - 1 - 1 - 1 - 1 = m + 1 := ⟨k - 7, by omega⟩
 rw [hm]
 simp only [mask_read.l0]
 rw [if_neg (by decide)]
theorem firstZ_dc {n r s : Nat} (h : firstZ n r s ≠ 0) : Sz (firstZ n r s) ∧ Dc n r s (firstZ n r s) := by
 unfold firstZ at *
 repeat' split
 all_goals first | exact ⟨by decide, by assumption⟩ | skip
 all_goals (exfalso; apply h; repeat' split)
 all_goals first | rfl | contradiction
theorem dec_l {x z : Nat} (hz : Sz z) (hx : x < 2 ^ z) (r o : Int) : ∀ (d k a : Nat), a * z + d * z = 64 → d < k →
  mask_Decode.l0 k (x : Int) ((ofF (fun i => x.testBit (i % z)) (a * z) : Nat) : Int) ((a * z : Nat) : Int) (z : Int) r o = some ((againN x z : Int), 0) := by
 have hl := hz.le
 intro d
 induction d with
 | zero =>
  intro k a ha hk
  obtain ⟨k, rfl⟩ : ∃ m, k = m + 1 := ⟨k - 1, by omega⟩
  have : a * z = 64 := by omega
  rw [this]
  simp only [mask_Decode.l0]
  rw [if_neg (by omega)]
  rfl
 | succ d ih =>
  intro k a ha hk
  obtain ⟨k, rfl⟩ : ∃ m, k = m + 1 := ⟨k - 1, by omega⟩
  rw [Nat.succ_mul] at ha
  have hx64 : x < 18446744073709551616 := Nat.lt_of_lt_of_le hx (pow_le64 hl.2)
  simp only [mask_Decode.l0]
  have haz : a * z < 64 := by omega
  have hof := Nat.lt_of_lt_of_le (ofF_lt (fun i => x.testBit (i % z)) (a * z)) (pow_le64 (by omega))
  rw [if_pos (by omega), if_pos (by omega), shl64 x (a * z) (by omega), (b64 _ _ hof (Nat.mod_lt _ (by decide))).2, show wrap64 (((a * z : Nat) : Int) + (z : Int)) = (((a + 1) * z : Nat) : Int) by rw [w64_in ⟨by omega, by omega⟩, Nat.succ_mul]; omega]
  have e : ofF (fun i => x.testBit (i % z)) (a * z) ||| x * 2 ^ (a * z) % 18446744073709551616 = ofF (fun i => x.testBit (i % z)) ((a + 1) * z) := by
   apply Nat.eq_of_testBit_eq
   intro i
   rw [Nat.testBit_or, ofF_bit, ofF_bit, show (18446744073709551616 : Nat) = 2 ^ 64 by rfl, Nat.testBit_mod_two_pow, Nat.testBit_mul_two_pow, Nat.succ_mul]
   by_cases h1 : i < a * z
   ·rw [decide_eq_true h1, decide_eq_true (show i < a * z + z by omega), decide_eq_false (show ¬ a * z ≤ i by omega)]; simp
   ·rw [decide_eq_false h1, decide_eq_true (show a * z ≤ i by omega), Bool.false_and, Bool.false_or, Bool.true_and]
    by_cases h2 : i < a * z + z
    ·rw [decide_eq_true h2, decide_eq_true (show i < 64 by omega)]
     congr 1
     have : i = (i - a * z) + z * a := by rw [Nat.mul_comm z a]; omega
     rw [this, Nat.add_mul_mod_self_left, Nat.mod_eq_of_lt (show i - a * z < z by omega)]
     congr 1
     rw [Nat.mul_comm z a]
     omega
    ·rw [decide_eq_false h2, Nat.testBit_lt_two_pow (Nat.lt_of_lt_of_le hx (Nat.pow_le_pow_right (by decide) (by omega)))]; simp
  rw [e]
  exact ih k (a + 1) (by rw [Nat.succ_mul]; omega) (by omega)
theorem dec_bad (k : Nat) (hk : 1 ≤ k) (n r s : Int) (h : n < 0 ∨ n > 1 ∨ r < 0 ∨ r > 63 ∨ s < 0 ∨ s > 63) : mask_Decode.f k n r s = some (0, 1) := by
 obtain ⟨k, rfl⟩ : ∃ m, k = m + 1 := ⟨k - 1, by omega⟩
 have hj : mask_Decode.j0 (k + 1) n r s true = some (0, 1) := by simp [mask_Decode.j0]
 unfold mask_Decode.f
 repeat' split
 all_goals first | exact hj | (rw [decide_eq_true (by omega)]; exact hj)
theorem dec_go {n r s : Nat} (hn : n ≤ 1) (hr : r ≤ 63) (hs : s ≤ 63) (k : Nat) (hk : 200 ≤ k) :
  mask_Decode.f k (n : Int) (r : Int) (s : Int) = if firstZ n r s = 0 then some (0, 3) else some ((againN (rotN (2 ^ (s + 1 - exN (firstZ n r s)) - 1) r (firstZ n r s)) (firstZ n r s) : Int), 0) := by
 obtain ⟨k, rfl⟩ : ∃ m, k = m + 1 := ⟨k - 1, by omega⟩
 unfold mask_Decode.f
 rw [if_neg (by omega), if_neg (by omega), if_neg (by omega), if_neg (by omega), if_neg (by omega), decide_eq_false (by omega)]
 simp only [mask_Decode.j0]
 rw [if_neg (by simp), read_f hn hr hs k (by omega)]
 by_cases h : firstZ n r s = 0
 ·rw [if_pos h, if_pos h]; rfl
 ·obtain ⟨hz, h1, h2, h3, h4⟩ := firstZ_dc h
  have hl := hz.le
  rw [if_neg h, if_neg h, Option.bind_some, beq_eq_false_iff_ne.2 (show (firstZ n r s : Int) ≠ 0 by omega), Bool.false_and, if_neg (by simp)]
  dsimp only
  rw [part_f hz h4 (by omega) k (by omega), Option.bind_some]
  have hd : 0 * firstZ n r s + (64 / firstZ n r s) * firstZ n r s = 64 := by
   rw [Nat.zero_mul, Nat.zero_add]
   exact Nat.div_mul_cancel (sz_dvd hz)
  have hq : 64 / firstZ n r s ≤ 64 := Nat.div_le_self _ _
  have := dec_l hz (row_lt (o := s + 1 - exN (firstZ n r s)) (by omega) h4) (r : Int) ((s + 1 - exN (firstZ n r s) : Nat) : Int) (64 / firstZ n r s) k 0 hd (by omega)
  rw [Nat.zero_mul] at this
  exact this
theorem firstZ_of {n r s z : Nat} (hz : Sz z) (h : Dc n r s z) : firstZ n r s = z := by
 have hl := hz.le
 have uniq : ∀ y, Sz y → y < z → ¬ Dc n r s y := by
  intro y hy hlt ⟨a1, a2, a3, a4⟩
  obtain ⟨b1, b2, b3, b4⟩ := h
  have hyl := hy.le
  have h64 : ¬ y = 64 := by omega
  have hn : ¬ n = 1 := fun e => h64 (a1.2 e)
  have hz64 : ¬ z = 64 := fun e => hn (b1.1 e)
  unfold exN at *
  rw [if_neg h64] at a2 a3
  rw [if_neg hz64] at b2 b3
  have hz32 : z ≤ 32 := by rcases hz with e | e | e | e | e | e <;> omega
  have : 2 * y ≤ z := by
   rcases hz with rfl | rfl | rfl | rfl | rfl | rfl <;> rcases hy with rfl | rfl | rfl | rfl | rfl | rfl <;> omega
  omega
 unfold firstZ
 rcases hz with rfl | rfl | rfl | rfl | rfl | rfl
 ·rw [if_pos h]
 ·rw [if_neg (uniq 2 (by decide) (by omega)), if_pos h]
 ·rw [if_neg (uniq 2 (by decide) (by omega)), if_neg (uniq 4 (by decide) (by omega)), if_pos h]
 ·rw [if_neg (uniq 2 (by decide) (by omega)), if_neg (uniq 4 (by decide) (by omega)), if_neg (uniq 8 (by decide) (by omega)), if_pos h]
 ·rw [if_neg (uniq 2 (by decide) (by omega)), if_neg (uniq 4 (by decide) (by omega)), if_neg (uniq 8 (by decide) (by omega)), if_neg (uniq 16 (by decide) (by omega)), if_pos h]
 ·rw [if_neg (uniq 2 (by decide) (by omega)), if_neg (uniq 4 (by decide) (by omega)), if_neg (uniq 8 (by decide) (by omega)), if_neg (uniq 16 (by decide) (by omega)), if_neg (uniq 32 (by decide) (by omega)), if_pos h]
end Go.Proofs.YtemenenkefcebaaDoor.M
