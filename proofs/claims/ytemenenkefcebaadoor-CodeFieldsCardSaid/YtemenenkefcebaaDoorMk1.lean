/- Masks over plain natural numbers: a number's period, its ones, and runs of ones that are turned. -/
import Derived.Test.YtemenenkefcebaaDoorBs
namespace Go.Proofs.YtemenenkefcebaaDoor.M
open Go.Proofs.YtemenenkefcebaaDoor.K Go.Proofs.YtemenenkefcebaaDoor.B
set_option linter.unusedVariables false
set_option linter.unusedSimpArgs false

/-! ### counting -/
def cntF (f : Nat → Bool) : Nat → Nat
 | 0 => 0
 | n + 1 => cntF f n + (f n).toNat
theorem cntF_congr {f g : Nat → Bool} : ∀ (n : Nat), (∀ i, i < n → f i = g i) → cntF f n = cntF g n
 | 0, _ => rfl
 | n + 1, h => by rw [cntF, cntF, cntF_congr n (fun i hi => h i (by omega)), h n (by omega)]
theorem cntF_add (f : Nat → Bool) (m : Nat) : ∀ n, cntF f (m + n) = cntF f m + cntF (fun i => f (m + i)) n
 | 0 => rfl
 | n + 1 => by rw [← Nat.add_assoc, cntF, cntF, cntF_add f m n, Nat.add_assoc]
theorem cntF_le (f : Nat → Bool) : ∀ n, cntF f n ≤ n
 | 0 => Nat.le_refl _
 | n + 1 => by rw [cntF]; have := cntF_le f n; have := Bool.toNat_le (f n); omega
theorem cntF_not (f : Nat → Bool) : ∀ n, cntF f n + cntF (fun i => !f i) n = n
 | 0 => rfl
 | n + 1 => by rw [cntF, cntF]; have := cntF_not f n; cases f n <;> simp <;> omega
theorem cntF_lt (o : Nat) : ∀ n, o ≤ n → cntF (fun i => decide (i < o)) n = o
 | 0, h => by rw [cntF]; omega
 | n + 1, h => by
  rw [cntF]
  by_cases e : o = n + 1
  ·subst e
   have : cntF (fun i => decide (i < n + 1)) n = cntF (fun i => decide (i < n)) n := cntF_congr n (fun i hi => by simp; omega)
   rw [this, cntF_lt n n (Nat.le_refl _)]
   simp
  ·rw [cntF_lt o n (by omega), decide_eq_false (by omega)]; rfl
theorem cntF_turn (f : Nat → Bool) {s b : Nat} (hb : b < s) : cntF (fun i => f ((i + b) % s)) s = cntF f s := by
 have e1 := cntF_add (fun i => f ((i + b) % s)) (s - b) b
 rw [Nat.sub_add_cancel (by omega)] at e1
 have e2 := cntF_add f b (s - b)
 rw [Nat.add_sub_cancel' (by omega)] at e2
 rw [e1, e2, Nat.add_comm]
 congr 1
 ·refine cntF_congr b (fun j hj => ?_)
  show f ((s - b + j + b) % s) = f j
  rw [show s - b + j + b = j + s by omega, Nat.add_mod_right, Nat.mod_eq_of_lt (by omega)]
 ·refine cntF_congr (s - b) (fun j hj => ?_)
  show f ((j + b) % s) = f (b + j)
  rw [Nat.mod_eq_of_lt (by omega), Nat.add_comm]
/-- A number's ones, of n bits. -/
def cnt (v n : Nat) : Nat := cntF v.testBit n
theorem cnt_half (v : Nat) : ∀ n, cnt v (n + 1) = v % 2 + cnt (v / 2) n
 | 0 => by
  show 0 + (v.testBit 0).toNat = v % 2 + 0
  rw [Nat.toNat_testBit, Nat.pow_zero, Nat.div_one]; omega
 | n + 1 => by
  have := cnt_half v n
  unfold cnt at this ⊢
  rw [cntF, this, cntF, Nat.testBit_div_two]
  omega
theorem and_pred (q : Nat) : ∀ n, q < 2 ^ n → 0 < q → cnt (q &&& (q - 1)) n + 1 = cnt q n := by
 intro n
 induction n generalizing q with
 | zero => intro h h0; omega
 | succ n ih =>
  intro h h0
  rw [cnt_half, cnt_half]
  rw [show (q &&& (q - 1)) / 2 = q / 2 &&& (q - 1) / 2 from Nat.and_div_two]
  have hm : (q &&& (q - 1)) % 2 = 0 := by
   rw [show (q &&& (q - 1)) % 2 = (q % 2) &&& ((q - 1) % 2) by rw [← Nat.and_mod_two_pow (n := 1)]]
   rcases Nat.mod_two_eq_zero_or_one q with e | e
   ·rw [e]; simp
   ·rw [e, show (q - 1) % 2 = 0 by omega]; rfl
  rw [hm]
  rcases Nat.mod_two_eq_zero_or_one q with e | e
  ·rw [show (q - 1) / 2 = q / 2 - 1 by omega, e]
   have := ih (q / 2) (by omega) (by omega)
   omega
  ·rw [show (q - 1) / 2 = q / 2 by omega, Nat.and_self, e]
   omega
theorem cnt_zero (n : Nat) : cnt 0 n = 0 := by
 unfold cnt
 induction n with
 | zero => rfl
 | succ n ih => rw [cntF, ih, Nat.zero_testBit]; rfl
theorem cnt_more (v : Nat) {n : Nat} (hv : v < 2 ^ n) : ∀ m, cnt v (n + m) = cnt v n := by
 intro m
 induction m with
 | zero => rfl
 | succ m ih =>
  rw [← Nat.add_assoc, cnt, cntF, ← cnt, ih, Nat.testBit_lt_two_pow (Nat.lt_of_lt_of_le hv (Nat.pow_le_pow_right (by decide) (by omega)))]
  rfl

/-! ### periods -/
def Per (x s : Nat) : Prop := ∀ i, i < 64 → x.testBit i = x.testBit (i % s)
instance (x s : Nat) : Decidable (Per x s) := by unfold Per; infer_instance
theorem sz_dvd {s : Nat} (h : Sz s) : s ∣ 64 := by
 rcases h with rfl | rfl | rfl | rfl | rfl | rfl <;> decide
theorem bit_big {x i : Nat} (hx : x < 18446744073709551616) (hi : 64 ≤ i) : x.testBit i = false :=
 Nat.testBit_lt_two_pow (Nat.lt_of_lt_of_le hx (Nat.pow_le_pow_right (n := 2) (i := 64) (by decide) hi))
theorem per_rot {x s : Nat} (hx : x < 18446744073709551616) (hs : Sz s) (h64 : s < 64) : rotN x s 64 = x ↔ Per x s := by
 have hd := sz_dvd hs
 have hl := hs.le
 constructor
 ·intro h i hi
  have step : ∀ j, j < 64 → x.testBit ((j + s) % 64) = x.testBit j := fun j hj => by rw [← rotN_bit (v := x) (b := s) (s := 64) hx h64 hj, h]
  have many : ∀ m j, j < 64 → x.testBit ((j + s * m) % 64) = x.testBit j := by
   intro m
   induction m with
   | zero => intro j hj; rw [Nat.mul_zero, Nat.add_zero, Nat.mod_eq_of_lt hj]
   | succ m ih =>
    intro j hj
    rw [Nat.mul_succ, ← Nat.add_assoc, ← Nat.mod_add_mod, step _ (Nat.mod_lt _ (by decide)), ih j hj]
  have := many (i / s) (i % s) (Nat.lt_of_lt_of_le (Nat.mod_lt _ (by omega)) hl.2)
  rw [Nat.mod_add_div, Nat.mod_eq_of_lt hi] at this
  exact this
 ·intro h
  refine eq_of_bits (s := 64) (rotN_lt (s := 64) hx (by omega)) hx fun i hi => ?_
  rw [rotN_bit (s := 64) hx h64 hi, h _ (Nat.mod_lt _ (by decide)), Nat.mod_mod_of_dvd _ hd, Nat.add_mod_right, ← h i hi]
def sizeN (x : Nat) : Nat := if Per x 2 then 2 else if Per x 4 then 4 else if Per x 8 then 8 else if Per x 16 then 16 else if Per x 32 then 32 else 64
theorem sizeN_sz (x : Nat) : Sz (sizeN x) := by
 unfold sizeN
 split
 ·decide
 split
 ·decide
 split
 ·decide
 split
 ·decide
 split <;> decide
theorem per64 (x : Nat) : Per x 64 := fun i hi => by rw [Nat.mod_eq_of_lt hi]
theorem sizeN_per (x : Nat) : Per x (sizeN x) := by
 unfold sizeN
 split
 ·assumption
 split
 ·assumption
 split
 ·assumption
 split
 ·assumption
 split
 ·assumption
 ·exact per64 x
theorem sizeN_least (x : Nat) {s : Nat} (hs : Sz s) (h : Per x s) : sizeN x ≤ s := by
 have := (sizeN_sz x).le
 rcases hs with rfl | rfl | rfl | rfl | rfl | rfl <;> unfold sizeN <;> repeat' split
 all_goals first | omega | (exact absurd h (by assumption)) | (contradiction)
theorem per_dvd {x s m : Nat} (hd : s ∣ m) (h64 : m ∣ 64) (hm : 0 < m) (h : Per x s) : Per x m := by
 intro i hi
 have : i % m < 64 := Nat.lt_of_lt_of_le (Nat.mod_lt _ hm) (Nat.le_of_dvd (by decide) h64)
 rw [h i hi, h _ this, Nat.mod_mod_of_dvd _ hd]
theorem sizeN_eq {x y : Nat} (h : ∀ s, Sz s → (Per x s ↔ Per y s)) : sizeN x = sizeN y := by
 refine Nat.le_antisymm ?_ ?_
 ·exact sizeN_least x (sizeN_sz y) ((h _ (sizeN_sz y)).2 (sizeN_per y))
 ·exact sizeN_least y (sizeN_sz x) ((h _ (sizeN_sz x)).1 (sizeN_per x))

/-! ### runs -/
structure IsRun (x s o t : Nat) : Prop where
 sz : Sz s
 o1 : 1 ≤ o
 o2 : o < s
 tl : t < s
 bits : ∀ i, i < 64 → x.testBit i = decide ((i + t) % s < o)
/-- The low bits are ones in a row, turned. -/
theorem row_bit {o t s i : Nat} (ho : o ≤ s) (ht : t < s) (hi : i < s) : (rotN (2 ^ o - 1) t s).testBit i = decide ((i + t) % s < o) := by
 have hp := Nat.two_pow_pos o
 have hle : 2 ^ o ≤ 2 ^ s := Nat.pow_le_pow_right (by decide) ho
 rw [rotN_bit (by omega) ht hi, Nat.testBit_two_pow_sub_one]
theorem row_lt {o t s : Nat} (ho : o ≤ s) (ht : t < s) : rotN (2 ^ o - 1) t s < 2 ^ s := by
 have hp := Nat.two_pow_pos o
 have hle : 2 ^ o ≤ 2 ^ s := Nat.pow_le_pow_right (by decide) ho
 exact rotN_lt (by omega) (by omega)
theorem run_low {x s o t : Nat} (h : IsRun x s o t) : x % 2 ^ s = rotN (2 ^ o - 1) t s := by
 have hl := h.sz.le
 refine eq_of_bits (Nat.mod_lt _ (Nat.two_pow_pos s)) (row_lt (by have := h.o2; omega) h.tl) fun i hi => ?_
 rw [Nat.testBit_mod_two_pow, decide_eq_true hi, Bool.true_and, h.bits i (by omega), row_bit (by have := h.o2; omega) h.tl hi]
theorem run_of {x s o t : Nat} (hs : Sz s) (h1 : 1 ≤ o) (h2 : o < s) (ht : t < s) (hp : Per x s) (h : x % 2 ^ s = rotN (2 ^ o - 1) t s) : IsRun x s o t := by
 refine ⟨hs, h1, h2, ht, fun i hi => ?_⟩
 have hm : i % s < s := Nat.mod_lt _ (by omega)
 rw [hp i hi]
 have e := congrArg (fun z => Nat.testBit z (i % s)) h
 simp only [Nat.testBit_mod_two_pow, decide_eq_true hm, Bool.true_and] at e
 rw [e, row_bit (by omega) ht hm, Nat.mod_add_mod]
theorem run_per {x s o t : Nat} (h : IsRun x s o t) : Per x s := by
 have hl := h.sz.le
 intro i hi
 have hm : i % s < s := Nat.mod_lt _ (by omega)
 rw [h.bits i hi, h.bits (i % s) (by omega), Nat.mod_add_mod]
theorem run_ones {x s o t : Nat} (h : IsRun x s o t) : cnt (x % 2 ^ s) 64 = o := by
 have hl := h.sz.le
 have hlt : x % 2 ^ s < 2 ^ s := Nat.mod_lt _ (Nat.two_pow_pos s)
 have := cnt_more (x % 2 ^ s) hlt (64 - s)
 rw [Nat.add_sub_cancel' hl.2] at this
 rw [this]
 unfold cnt
 have e : cntF (x % 2 ^ s).testBit s = cntF (fun i => (fun j => decide (j < o)) ((i + t) % s)) s := cntF_congr s (fun i hi => by
  rw [Nat.testBit_mod_two_pow, decide_eq_true hi, Bool.true_and, h.bits i (by omega)])
 rw [e, cntF_turn (fun j => decide (j < o)) h.tl, cntF_lt o s (by have := h.o2; omega)]
/-- Half the size will not do. -/
theorem run_half {x s o t m : Nat} (h : IsRun x s o t) (hm : Sz m) (hlt : m < s) : ¬ Per x m := by
 intro hp
 have hl := h.sz.le
 have h2 : 2 * (s / 2) = s := by rcases h.sz with rfl | rfl | rfl | rfl | rfl | rfl <;> rfl
 have hh : Sz (s / 2) ∧ m ∣ s / 2 := by
  rcases h.sz with rfl | rfl | rfl | rfl | rfl | rfl <;> rcases hm with rfl | rfl | rfl | rfl | rfl | rfl <;> first | omega | exact ⟨by decide, by decide⟩
 have hq : Per x (s / 2) := per_dvd hh.2 (sz_dvd hh.1) (by have := hh.1.le; omega) hp
 have hk := hh.1.le
 have ht := h.tl
 have o1 := h.o1
 have o2 := h.o2
 have key : ∀ i, i < s → decide ((i + t) % s < o) = decide ((i + s / 2 + t) % s < o) := by
  intro i hi
  have e1 := h.bits i (by omega)
  by_cases hi2 : i + s / 2 < 64
  ·have e2 := h.bits (i + s / 2) hi2
   have e3 := hq i (by omega)
   have e4 := hq (i + s / 2) hi2
   rw [Nat.add_mod_right] at e4
   rw [← e1, ← e2, e3, e4]
  ·have h64 : s = 64 := by rcases h.sz with e | e | e | e | e | e <;> omega
   subst h64
   have e2 := h.bits (i + 32 - 64) (by omega)
   have e3 := hq i (by omega)
   have e4 := hq (i + 32 - 64) (by omega)
   rw [show (i + 64 / 2 + t) % 64 = (i + 32 - 64 + t) % 64 by omega, ← e1, ← e2, e3, e4]
   congr 1
   omega
 -- the first one, and the nought ahead of it
 have a1 := key ((s - t) % s) (Nat.mod_lt _ (by omega))
 have a2 := key ((s - t + (s - 1)) % s) (Nat.mod_lt _ (by omega))
 rw [Nat.mod_add_mod, show s - t + t = s by omega, Nat.mod_self, decide_eq_true (by omega)] at a1
 have b1 : ((s - t) % s + s / 2 + t) % s = s / 2 := by
  rw [Nat.add_assoc, Nat.mod_add_mod, show s - t + (s / 2 + t) = s / 2 + s by omega, Nat.add_mod_right, Nat.mod_eq_of_lt (by omega)]
 rw [b1] at a1
 have c1 : s / 2 < o := of_decide_eq_true a1.symm
 have b2 : ((s - t + (s - 1)) % s + t) % s = s - 1 := by
  rw [Nat.mod_add_mod, show s - t + (s - 1) + t = s - 1 + s by omega, Nat.add_mod_right, Nat.mod_eq_of_lt (by omega)]
 have b3 : ((s - t + (s - 1)) % s + s / 2 + t) % s = s / 2 - 1 := by
  rw [Nat.add_assoc, Nat.mod_add_mod, show s - t + (s - 1) + (s / 2 + t) = s / 2 - 1 + s + s by omega, Nat.add_mod_right, Nat.add_mod_right, Nat.mod_eq_of_lt (by omega)]
 rw [b2, b3, decide_eq_false (by omega)] at a2
 have c2 : ¬ s / 2 - 1 < o := of_decide_eq_false a2.symm
 omega
theorem run_size {x s o t : Nat} (h : IsRun x s o t) : sizeN x = s := by
 have h1 := sizeN_least x h.sz (run_per h)
 by_cases e : sizeN x = s
 ·exact e
 ·exact absurd (sizeN_per x) (run_half h (sizeN_sz x) (by omega))
/-- A run begins at one place alone. -/
theorem run_start {s o t i : Nat} (hs : 2 ≤ s) (o1 : 1 ≤ o) (o2 : o < s) (hi : (i + t) % s < o) (hp : ¬ (i + (s - 1) + t) % s < o) : (i + t) % s = 0 := by
 by_cases h0 : (i + t) % s = 0
 ·exact h0
 ·exfalso
  apply hp
  have : (i + (s - 1) + t) % s = (i + t) % s - 1 := by
   rw [show i + (s - 1) + t = i + t + (s - 1) by omega, ← Nat.mod_add_mod]
   have hlt : (i + t) % s < s := Nat.mod_lt _ (by omega)
   rw [show (i + t) % s + (s - 1) = (i + t) % s - 1 + s by omega, Nat.add_mod_right, Nat.mod_eq_of_lt (by omega)]
  omega
theorem row_inj {s o t r : Nat} (hs : 2 ≤ s) (o1 : 1 ≤ o) (o2 : o < s) (ht : t < s) (hr : r < s) (h : rotN (2 ^ o - 1) t s = rotN (2 ^ o - 1) r s) : t = r := by
 have key : ∀ i, i < s → decide ((i + t) % s < o) = decide ((i + r) % s < o) := fun i hi => by
  rw [← row_bit (by omega) ht hi, ← row_bit (by omega) hr hi, h]
 have a1 := key ((s - t) % s) (Nat.mod_lt _ (by omega))
 have a2 := key ((s - t + (s - 1)) % s) (Nat.mod_lt _ (by omega))
 rw [Nat.mod_add_mod, show s - t + t = s by omega, Nat.mod_self, decide_eq_true (by omega), Nat.mod_add_mod] at a1
 rw [Nat.mod_add_mod, show s - t + (s - 1) + t = s - 1 + s by omega, Nat.add_mod_right, Nat.mod_eq_of_lt (show s - 1 < s by omega), decide_eq_false (by omega), Nat.mod_add_mod] at a2
 have z := run_start hs o1 o2 (i := s - t) (t := r) (of_decide_eq_true a1.symm) (of_decide_eq_false a2.symm)
 by_cases e : t ≤ r
 ·have : s - t + r = (r - t) + s := by omega
  rw [this, Nat.add_mod_right, Nat.mod_eq_of_lt (by omega)] at z
  omega
 ·rw [Nat.mod_eq_of_lt (by omega)] at z
  omega
/-! ### turned round, and rotated -/
def oth (x : Nat) : Nat := 18446744073709551615 - x
theorem oth_bit {x i : Nat} (hx : x < 18446744073709551616) (hi : i < 64) : (oth x).testBit i = !x.testBit i := by
 have := Nat.testBit_two_pow_sub_succ (n := 64) hx i
 rw [decide_eq_true hi, Bool.true_and] at this
 rw [← this]
 congr 1
 show 18446744073709551615 - x = 18446744073709551616 - (x + 1)
 omega
theorem oth_lt (x : Nat) : oth x < 18446744073709551616 := by unfold oth; omega
theorem oth_oth {x : Nat} (hx : x < 18446744073709551616) : oth (oth x) = x := by unfold oth; omega
theorem per_oth {x s : Nat} (hx : x < 18446744073709551616) (hs : Sz s) : Per (oth x) s ↔ Per x s := by
 have hl := hs.le
 have go : ∀ y, y < 18446744073709551616 → Per y s → Per (oth y) s := fun y hy h i hi => by
  have hm : i % s < 64 := Nat.lt_of_lt_of_le (Nat.mod_lt _ (by omega)) hl.2
  rw [oth_bit hy hi, oth_bit hy hm, h i hi]
 exact ⟨fun h => by have := go _ (oth_lt x) h; rwa [oth_oth hx] at this, go x hx⟩
theorem cnt_oth {x : Nat} (hx : x < 18446744073709551616) : cnt x 64 + cnt (oth x) 64 = 64 := by
 have : cnt (oth x) 64 = cntF (fun i => !x.testBit i) 64 := cntF_congr 64 (fun i hi => oth_bit hx hi)
 rw [this]
 exact cntF_not _ 64
theorem run_oth {x s o t : Nat} (hx : x < 18446744073709551616) (h : IsRun x s o t) : IsRun (oth x) s (s - o) ((t + (s - o)) % s) := by
 have o1 := h.o1
 have o2 := h.o2
 have ht := h.tl
 refine ⟨h.sz, by omega, by omega, Nat.mod_lt _ (by omega), fun i hi => ?_⟩
 rw [oth_bit hx hi, h.bits i hi, Nat.add_mod_mod, ← Nat.add_assoc]
 have hm : (i + t) % s < s := Nat.mod_lt _ (by omega)
 rw [← Nat.mod_add_mod (i + t) s (s - o)]
 generalize (i + t) % s = y at *
 by_cases hy : y < o
 ·rw [decide_eq_true hy, Nat.mod_eq_of_lt (by omega), decide_eq_false (by omega)]; rfl
 ·rw [decide_eq_false hy, show y + (s - o) = y - o + s by omega, Nat.add_mod_right, Nat.mod_eq_of_lt (by omega), decide_eq_true (by omega)]; rfl
theorem per_rotN {x b s : Nat} (hx : x < 18446744073709551616) (hb : b < 64) (hs : Sz s) : Per (rotN x b 64) s ↔ Per x s := by
 have hl := hs.le
 have go : ∀ y c, y < 18446744073709551616 → c < 64 → Per y s → Per (rotN y c 64) s := fun y c hy hc h i hi => by
  have hm : i % s < 64 := Nat.lt_of_lt_of_le (Nat.mod_lt _ (by omega)) hl.2
  rw [rotN_bit (s := 64) hy hc hi, rotN_bit (s := 64) hy hc hm, h _ (Nat.mod_lt _ (by decide)), h ((i % s + c) % 64) (Nat.mod_lt _ (by decide)), Nat.mod_mod_of_dvd _ (sz_dvd hs), Nat.mod_mod_of_dvd _ (sz_dvd hs), Nat.mod_add_mod]
 refine ⟨fun h => ?_, go x b hx hb⟩
 have := go _ ((64 - b) % 64) (rotN_lt (s := 64) hx (by omega)) (Nat.mod_lt _ (by decide)) h
 rwa [rotN_rotN (s := 64) hx hb (Nat.mod_lt _ (by decide)), Nat.add_mod_mod, Nat.add_sub_cancel' (by omega), Nat.mod_self, rotN_zero] at this
theorem cnt_rotN {x b : Nat} (hx : x < 18446744073709551616) (hb : b < 64) : cnt (rotN x b 64) 64 = cnt x 64 := by
 have : cnt (rotN x b 64) 64 = cntF (fun i => x.testBit ((i + b) % 64)) 64 := cntF_congr 64 (fun i hi => rotN_bit (s := 64) hx hb hi)
 rw [this]
 exact cntF_turn _ hb
theorem run_rotN {x s o t b : Nat} (hx : x < 18446744073709551616) (hb : b < 64) (h : IsRun x s o t) : IsRun (rotN x b 64) s o ((t + b) % s) := by
 have hl := h.sz.le
 refine ⟨h.sz, h.o1, h.o2, Nat.mod_lt _ (by omega), fun i hi => ?_⟩
 rw [rotN_bit (s := 64) hx hb hi, h.bits _ (Nat.mod_lt _ (by decide)), Nat.add_mod_mod]
 congr 2
 rw [← Nat.mod_add_mod, Nat.mod_mod_of_dvd _ (sz_dvd h.sz), Nat.mod_add_mod]
 congr 1
 omega
end Go.Proofs.YtemenenkefcebaaDoor.M
