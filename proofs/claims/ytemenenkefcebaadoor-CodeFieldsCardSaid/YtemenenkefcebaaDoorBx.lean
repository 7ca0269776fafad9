/- Of fields that stand apart each reads as it was put. -/
import Derived.Test.YtemenenkefcebaaDoorBw
namespace Go.Proofs.YtemenenkefcebaaDoor.B
open Go.RowKit Go.Proofs.YtemenenkefcebaaDoor.P Go.Proofs.YtemenenkefcebaaDoor.K Go.Proofs.YtemenenkefcebaaDoorW.PrintWords Go.Proofs.YtemenenkefcebaaDoorW.PrintLast Go.Proofs.YtemenenkefcebaaDoorW.PrintMore
set_option linter.unusedVariables false
set_option linter.unusedSimpArgs false
theorem apart_cons {u : Nat} {x : Fdx} {xs : List Fdx} (h : apart u (x :: xs) = true) : Fok x ∧ u &&& fmask x = 0 ∧ apart (u ||| fmask x) xs = true := by
 simp only [apart, Bool.and_eq_true, beq_iff_eq, decide_eq_true_iff] at h
 exact ⟨h.1.1, h.1.2, h.2⟩
theorem or_and_zero {u m n : Nat} (h : (u ||| m) &&& n = 0) : u &&& n = 0 ∧ m &&& n = 0 := by
 constructor <;>
 ·apply Nat.eq_of_testBit_eq
  intro i
  have h3 := congrArg (fun z => Nat.testBit z i) h
  simp only [Nat.testBit_and, Nat.testBit_or, Nat.zero_testBit] at h3 ⊢
  revert h3
  cases u.testBit i <;> cases m.testBit i <;> cases n.testBit i <;> simp
theorem apart_mem : ∀ {l : List Fdx} {u : Nat}, apart u l = true → ∀ y ∈ l, u &&& fmask y = 0 ∧ Fok y
 | [], _, _, y, hy => by simp at hy
 | x :: xs, u, h, y, hy => by
  obtain ⟨hf, hc, ha⟩ := apart_cons h
  rcases List.mem_cons.1 hy with rfl | hy
  ·exact ⟨hc, hf⟩
  ·have := apart_mem ha y hy
   exact ⟨(or_and_zero this.1).1, this.2⟩
theorem val_lt {x : Fdx} (hf : Fok x) (hv : x.f2.toNat < 2 ^ x.f1.toNat) : x.f2.toNat * 2 ^ x.f0.toNat < 4294967296 := by
 apply Nat.lt_pow_two_of_testBit (n := 32)
 intro i hi
 cases hb : (x.f2.toNat * 2 ^ x.f0.toNat).testBit i
 ·rfl
 ·have := val_sub hv i hb
  rw [Nat.testBit_lt_two_pow (Nat.lt_of_lt_of_le (fmask_lt hf) (Nat.pow_le_pow_right (n := 2) (i := 32) (by decide) hi))] at this
  exact absurd this (by simp)
/-- The sum's bits are none that were used. -/
theorem sum_bits : ∀ {l : List Fdx} {u : Nat}, apart u l = true → l.all fit = true → sumF l < 4294967296 ∧ ∀ i, (sumF l).testBit i = true → u.testBit i = false
 | [], _, _, _ => ⟨by simp [sumF], fun i hi => by simp [sumF] at hi⟩
 | x :: xs, u, h, hfit => by
  obtain ⟨hf, hc, ha⟩ := apart_cons h
  rw [List.all_cons, Bool.and_eq_true] at hfit
  have hv : x.f2.toNat < 2 ^ x.f1.toNat := of_decide_eq_true hfit.1
  obtain ⟨h1, h2⟩ := sum_bits ha hfit.2
  have hz : x.f2.toNat * 2 ^ x.f0.toNat &&& sumF xs = 0 := by
   apply Nat.eq_of_testBit_eq
   intro i
   rw [Nat.testBit_and, Nat.zero_testBit]
   cases hb : (sumF xs).testBit i
   ·simp
   ·have := h2 i hb
    rw [Nat.testBit_or, Bool.or_eq_false_iff] at this
    cases hb2 : (x.f2.toNat * 2 ^ x.f0.toNat).testBit i
    ·rfl
    ·have h3 := val_sub hv i hb2
     rw [this.2] at h3
     exact absurd h3 (by simp)
  have hs : sumF (x :: xs) = x.f2.toNat * 2 ^ x.f0.toNat ||| sumF xs := by
   have : sumF (x :: xs) = x.f2.toNat * 2 ^ x.f0.toNat + sumF xs := by simp [sumF]
   rw [this, add_or (n := 32) (val_lt hf hv) h1 hz]
  refine ⟨by rw [hs]; exact Nat.or_lt_two_pow (n := 32) (val_lt hf hv) h1, fun i hi => ?_⟩
  rw [hs, Nat.testBit_or, Bool.or_eq_true] at hi
  rcases hi with hi | hi
  ·have h3 := val_sub hv i hi
   have h4 := congrArg (fun z => Nat.testBit z i) hc
   simp only [Nat.testBit_and, Nat.zero_testBit, h3, Bool.and_true] at h4
   exact h4
  ·have := h2 i hi
   rw [Nat.testBit_or, Bool.or_eq_false_iff] at this
   exact this.1
theorem sum_cons {x : Fdx} {xs : List Fdx} {u : Nat} (h : apart u (x :: xs) = true) (hfit : (x :: xs).all fit = true) : sumF (x :: xs) = x.f2.toNat * 2 ^ x.f0.toNat ||| sumF xs := by
 obtain ⟨hf, hc, ha⟩ := apart_cons h
 rw [List.all_cons, Bool.and_eq_true] at hfit
 have hv : x.f2.toNat < 2 ^ x.f1.toNat := of_decide_eq_true hfit.1
 obtain ⟨h1, h2⟩ := sum_bits ha hfit.2
 have : sumF (x :: xs) = x.f2.toNat * 2 ^ x.f0.toNat + sumF xs := by simp [sumF]
 rw [this, add_or (n := 32) (val_lt hf hv) h1]
 apply Nat.eq_of_testBit_eq
 intro i
 rw [Nat.testBit_and, Nat.zero_testBit]
 cases hb : (sumF xs).testBit i
 ·simp
 ·have := h2 i hb
  rw [Nat.testBit_or, Bool.or_eq_false_iff] at this
  cases hb2 : (x.f2.toNat * 2 ^ x.f0.toNat).testBit i
  ·rfl
  ·have h3 := val_sub hv i hb2
   rw [this.2] at h3
   exact absurd h3 (by simp)
theorem sum_field : ∀ {l : List Fdx} {u : Nat}, apart u l = true → l.all fit = true → ∀ y ∈ l, ∀ j, j < y.f1.toNat → (sumF l).testBit (y.f0.toNat + j) = y.f2.toNat.testBit j
 | [], _, _, _, y, hy, _, _ => by simp at hy
 | x :: xs, u, h, hfit, y, hy, j, hj => by
  rw [sum_cons h hfit, Nat.testBit_or, Nat.testBit_mul_two_pow]
  obtain ⟨hf, hc, ha⟩ := apart_cons h
  rw [List.all_cons, Bool.and_eq_true] at hfit
  have hv : x.f2.toNat < 2 ^ x.f1.toNat := of_decide_eq_true hfit.1
  obtain ⟨h1, h2⟩ := sum_bits ha hfit.2
  have hcy : Cov y (y.f0.toNat + j) := ⟨by omega, by omega⟩
  have hby : (fmask y).testBit (y.f0.toNat + j) = true := by rw [fmask_bit]; exact decide_eq_true hcy
  rcases List.mem_cons.1 hy with rfl | hy
  ·have hz : (sumF xs).testBit (y.f0.toNat + j) = false := by
    cases hb : (sumF xs).testBit (y.f0.toNat + j)
    ·rfl
    ·have := h2 _ hb
     rw [Nat.testBit_or, hby] at this
     exact absurd this (by simp)
   rw [hz, Bool.or_false, decide_eq_true (by omega), Bool.true_and]
   congr 1
   omega
  ·have ih := sum_field ha hfit.2 y hy j hj
   have hd := (or_and_zero (apart_mem ha y hy).1).2
   have hz : (decide (x.f0.toNat ≤ y.f0.toNat + j) && x.f2.toNat.testBit (y.f0.toNat + j - x.f0.toNat)) = false := by
    rw [← Nat.testBit_mul_two_pow]
    cases hb : (x.f2.toNat * 2 ^ x.f0.toNat).testBit (y.f0.toNat + j)
    ·rfl
    ·have h3 := val_sub hv _ hb
     have h4 := congrArg (fun z => Nat.testBit z (y.f0.toNat + j)) hd
     simp only [Nat.testBit_and, Nat.zero_testBit, h3, hby] at h4
     simp at h4
   rw [hz, Bool.false_or, ih]
/-- Each field of the word reads as it was put. -/
theorem field_word {l : List Fdx} (h : apart 0 l = true) (hfit : l.all fit = true) (y : Fdx) (hy : y ∈ l) : sumF l / 2 ^ y.f0.toNat % 2 ^ y.f1.toNat = y.f2.toNat := by
 have hv : y.f2.toNat < 2 ^ y.f1.toNat := of_decide_eq_true (List.all_eq_true.1 hfit y hy)
 refine K.eq_of_bits (Nat.mod_lt _ (Nat.two_pow_pos _)) hv fun i hi => ?_
 rw [Nat.testBit_mod_two_pow, decide_eq_true hi, Bool.true_and, Nat.testBit_div_two_pow, Nat.add_comm]
 exact sum_field h hfit y hy i hi
end Go.Proofs.YtemenenkefcebaaDoor.B
