/- Words by their fields: what is put is read, what is read is put. Plain Lean. -/
import Derived.Test.YtemenenkefcebaaDoorBx
import Derived.Test.YtemenenkefcebaaDoorBp
import Derived.Test.YtemenenkefcebaaDoorCd0
import Derived.Test.YtemenenkefcebaaDoorPx5
import Derived.Test.YtemenenkefcebaaDoorPx7
import Derived.Test.YtemenenkefcebaaDoorPx8
namespace Go.Proofs.YtemenenkefcebaaDoor.Cd
open Go.RowKit Go.Proofs.YtemenenkefcebaaDoor.P Go.Proofs.YtemenenkefcebaaDoor.K Go.Proofs.YtemenenkefcebaaDoor.B Go.Proofs.YtemenenkefcebaaDoorW.PrintWords Go.Proofs.YtemenenkefcebaaDoorW.PrintLast Go.Proofs.YtemenenkefcebaaDoorW.PrintMore
set_option linter.unusedVariables false
set_option linter.unusedSimpArgs false
/-- n bits of u from at_ on. -/
def pt (u at_ n : Nat) : Nat := u / 2 ^ at_ % 2 ^ n
theorem pt_lt (u at_ n : Nat) : pt u at_ n < 2 ^ n := Nat.mod_lt _ (Nat.two_pow_pos _)
theorem pt_bit (u at_ n j : Nat) (h : j < n) : (pt u at_ n).testBit j = u.testBit (at_ + j) := by
 unfold pt
 rw [Nat.testBit_mod_two_pow, decide_eq_true h, Bool.true_and, Nat.testBit_div_two_pow, Nat.add_comm]
theorem part_pt {u : Nat} (hu : u < 4294967296) (a n : Nat) (hn : 1 ≤ n) (h : a + n ≤ 32) : code_part.f (u : Int) (a : Int) (n : Int) = some (pt u a n : Int) := by
 unfold code_part.f
 rw [field_ok u a n hu hn h, Option.bind_some]
 have h1 := pt_lt u a n
 have h2 := pow_le32 (n := n) (by omega)
 show some (wrap64 (pt u a n : Int)) = _
 rw [w64_in ⟨by omega, by omega⟩]
theorem signed_pt {u : Nat} (hu : u < 4294967296) (k : Nat) (hk : 1 ≤ k) (a n : Nat) (hn : 1 ≤ n) (h : a + n ≤ 32) : code_signed.f k (u : Int) (a : Int) (n : Int) = some (sgnN (pt u a n) n) := by
 unfold code_signed.f
 have h1 := pt_lt u a n
 have h2 := pow_le32 (n := n) (by omega)
 rw [field_ok u a n hu hn h, Option.bind_some]
 show (bits_Signed.f k (pt u a n : Int) (n : Int)).bind _ = _
 rw [signed_go k hk _ n (by omega) hn (by omega), if_pos h1]
 rfl
theorem packed_of (k : Nat) (hk : 1 ≤ k) (a : Int) (n : Nat) (s : Int) (hn : 1 ≤ n) (h : n ≤ 32) (hs : -((2 ^ (n - 1) : Nat) : Int) ≤ s ∧ s < ((2 ^ (n - 1) : Nat) : Int)) : code_packed.f k a (n : Int) s = some (a, (n : Int), (packN s n : Int)) := by
 unfold code_packed.f
 rw [pack_go k hk s n hn h, if_pos hs]
 rfl
/-! ### The operation of a word -/
theorem opcTest_is {u i : Nat} (hu : u < 4294967296) (hi : i < 40) : opcTest (u : Int) i = opT u i := by
 obtain ⟨h1, h2, h3, h4⟩ := t_bound i hi
 unfold opcTest opT
 rw [h3, h4, bn_nat .u32 u (fN i) hu h2]
 have e : (2 ^ IntKind.u32.bits - 1 - fN i) = 4294967295 - fN i := by show 4294967296 - 1 - fN i = _; rfl
 rw [e, wu32]
 have hb : u &&& (4294967295 - fN i) < 4294967296 := Nat.lt_of_le_of_lt Nat.and_le_left hu
 have : (((u &&& (4294967295 - fN i) : Nat) : Int) % 4294967296) = ((u &&& (4294967295 - fN i) : Nat) : Int) := by omega
 rw [this]
 by_cases h : u &&& (4294967295 - fN i) = bN i
 ·rw [beq_iff_eq.2 h, beq_iff_eq.2 (by rw [h])]
 ·rw [beq_eq_false_iff_ne.2 h, beq_eq_false_iff_ne.2 (fun e => h (by omega))]
theorem opcFrom_is {u : Nat} (hu : u < 4294967296) : ∀ f i, i + f ≤ 40 → opcFrom (u : Int) f i = (opF u f i : Int)
 | 0, _, _ => rfl
 | f + 1, i, h => by
  unfold opcFrom opF
  rw [opcTest_is hu (by omega)]
  split
  ·rfl
  ·exact opcFrom_is hu f (i + 1) (by omega)
def opN (u : Nat) : Nat := opF u 39 1
theorem opcode_is {u : Nat} (hu : u < 4294967296) : code_Opcode.f (u : Int) = some (opN u : Int) := congrArg some (opcFrom_is hu 39 1 (by omega))
theorem opN_lt (u : Nat) : opN u < 40 := by
 unfold opN
 by_cases h : opF u 39 1 = 0
 ·rw [h]; decide
 ·have := opF_sound 39 1 h; omega
theorem opN_has {u j : Nat} (h1 : 1 ≤ j) (hj : j < 40) (h : opT u j = true) : opN u = j := opF_has hj h h1 39 1 (by omega) h1 (by omega) (by omega)
theorem opN_sound {u : Nat} (h : opN u ≠ 0) : opT u (opN u) = true := (opF_sound 39 1 h).2.2
/-! ### Rows of fields -/
/-- All bits that a row of fields has. -/
def orM (l : List Fdx) : Nat := l.foldr (fun x m => fmask x ||| m) 0
theorem cov_orM : ∀ {l : List Fdx} {y : Fdx}, y ∈ l → ∀ j, Cov y j → (orM l).testBit j = true
 | x :: xs, y, hy, j, hc => by
  show (fmask x ||| orM xs).testBit j = true
  rw [Nat.testBit_or, Bool.or_eq_true]
  rcases List.mem_cons.1 hy with rfl | hy
  ·exact Or.inl (by rw [fmask_bit]; exact decide_eq_true hc)
  ·exact Or.inr (cov_orM hy j hc)
theorem part_mask (u : Nat) (x : Fdx) (hx : Fok x) : pt u x.f0.toNat x.f1.toNat * 2 ^ x.f0.toNat = u &&& fmask x := by
 apply Nat.eq_of_testBit_eq
 intro i
 rw [Nat.testBit_mul_two_pow, Nat.testBit_and, fmask_bit]
 by_cases h1 : x.f0.toNat ≤ i
 ·rw [decide_eq_true h1, Bool.true_and]
  by_cases h2 : i - x.f0.toNat < x.f1.toNat
  ·rw [pt_bit _ _ _ _ h2, show x.f0.toNat + (i - x.f0.toNat) = i by omega, decide_eq_true (show Cov x i from ⟨by omega, by omega⟩), Bool.and_true]
  ·have : (pt u x.f0.toNat x.f1.toNat).testBit (i - x.f0.toNat) = false := Nat.testBit_lt_two_pow (Nat.lt_of_lt_of_le (pt_lt _ _ _) (Nat.pow_le_pow_right (by decide) (by omega)))
   rw [this, decide_eq_false (fun h : Cov x i => h2 (by have := h.2; omega)), Bool.and_false]
 ·rw [decide_eq_false h1, Bool.false_and, decide_eq_false (fun h : Cov x i => h1 h.1), Bool.and_false]
theorem fit_of {l : List Fdx} {u : Nat} (h : ∀ x ∈ l, x.f2 = (pt u x.f0.toNat x.f1.toNat : Int)) : l.all fit = true := by
 rw [List.all_eq_true]
 intro x hx
 unfold fit
 rw [h x hx]
 exact decide_eq_true (by have := pt_lt u x.f0.toNat x.f1.toNat; simpa using this)
/-- A row of a word's own parts is the word in those bits. -/
theorem sum_parts (u : Nat) : ∀ {l : List Fdx} {m : Nat}, apart m l = true → (∀ x ∈ l, x.f2 = (pt u x.f0.toNat x.f1.toNat : Int)) → sumF l = u &&& orM l
 | [], _, _, _ => by simp [sumF, orM]
 | x :: xs, m, ha, h => by
  obtain ⟨hf, hc, ha'⟩ := apart_cons ha
  rw [sum_cons ha (fit_of h), sum_parts u ha' (fun y hy => h y (List.mem_cons_of_mem _ hy)), h x List.mem_cons_self]
  show (pt u x.f0.toNat x.f1.toNat : Int).toNat * 2 ^ x.f0.toNat ||| (u &&& orM xs) = u &&& (fmask x ||| orM xs)
  rw [Int.toNat_natCast, part_mask u x hf, Nat.and_or_distrib_left]
theorem sum_sub : ∀ {l : List Fdx} {m : Nat}, apart m l = true → l.all fit = true → Sub (sumF l) (orM l)
 | [], _, _, _ => fun i h => by simp [sumF] at h
 | x :: xs, m, ha, hfit => fun i h => by
  obtain ⟨hf, hc, ha'⟩ := apart_cons ha
  have hfit' := hfit
  rw [List.all_cons, Bool.and_eq_true] at hfit'
  rw [sum_cons ha hfit, Nat.testBit_or, Bool.or_eq_true] at h
  show (fmask x ||| orM xs).testBit i = true
  rw [Nat.testBit_or, Bool.or_eq_true]
  rcases h with h | h
  ·exact Or.inl (val_sub (of_decide_eq_true hfit'.1) i h)
  ·exact Or.inr (sum_sub ha' hfit'.2 i h)
/-- A word of a base and a row of fields, where the base has none of their bits. -/
structure Good (b f : Nat) (l : List Fdx) : Prop where
 ap : apart 0 l = true
 ft : l.all fit = true
 or_ : orM l = f
 bf : b &&& f = 0
 b32 : b < 4294967296
 f32 : f < 4294967296
def wN (b : Nat) (l : List Fdx) : Nat := b ||| sumF l
theorem wN_lt {b f : Nat} {l : List Fdx} (h : Good b f l) : wN b l < 4294967296 := by
 have := (sum_bits h.ap h.ft).1
 exact Nat.or_lt_two_pow (n := 32) h.b32 this
theorem not_bit (f i : Nat) (hf : f < 4294967296) : (4294967295 - f).testBit i = (decide (i < 32) && !f.testBit i) := by
 have := Nat.testBit_two_pow_sub_succ (n := 32) (x := f) hf i
 rw [show 2 ^ 32 - (f + 1) = 4294967295 - f by show 4294967296 - (f + 1) = _; omega] at this
 exact this
theorem base_bit {b f : Nat} (h : b &&& f = 0) (i : Nat) (hb : b.testBit i = true) : f.testBit i = false := by
 have := congrArg (fun z => Nat.testBit z i) h
 simp only [Nat.testBit_and, hb, Nat.zero_testBit, Bool.true_and] at this
 exact this
theorem wN_op {b f : Nat} {l : List Fdx} (h : Good b f l) : wN b l &&& (4294967295 - f) = b := by
 have hs := sum_sub h.ap h.ft
 rw [h.or_] at hs
 apply Nat.eq_of_testBit_eq
 intro i
 rw [Nat.testBit_and, not_bit f i h.f32]
 unfold wN
 rw [Nat.testBit_or]
 cases hb : b.testBit i
 ·cases hc : (sumF l).testBit i
  ·rfl
  ·rw [hs i hc]; simp
 ·have h32 : i < 32 := by
   rcases Nat.lt_or_ge i 32 with h1 | h1
   ·exact h1
   ·rw [Nat.testBit_lt_two_pow (Nat.lt_of_lt_of_le h.b32 (Nat.pow_le_pow_right (n := 2) (by decide) h1))] at hb; cases hb
  rw [base_bit h.bf i hb, decide_eq_true h32]; simp
theorem wN_part {b f : Nat} {l : List Fdx} (h : Good b f l) (y : Fdx) (hy : y ∈ l) : pt (wN b l) y.f0.toNat y.f1.toNat = y.f2.toNat := by
 have hv : y.f2.toNat < 2 ^ y.f1.toNat := of_decide_eq_true (List.all_eq_true.1 h.ft y hy)
 refine eq_of_bits (pt_lt _ _ _) hv fun i hi => ?_
 rw [pt_bit _ _ _ _ hi]
 unfold wN
 rw [Nat.testBit_or, sum_field h.ap h.ft y hy i hi]
 have hm := cov_orM hy (y.f0.toNat + i) ⟨by omega, by omega⟩
 rw [h.or_] at hm
 cases hb : b.testBit (y.f0.toNat + i)
 ·rfl
 ·rw [base_bit h.bf _ hb] at hm; cases hm
/-- A word whose bits beside f are b is made of its own parts. -/
theorem wN_back {u b f : Nat} {l : List Fdx} (h : Good b f l) (hu : u < 4294967296) (hb : u &&& (4294967295 - f) = b) (hp : ∀ x ∈ l, x.f2 = (pt u x.f0.toNat x.f1.toNat : Int)) : wN b l = u := by
 unfold wN
 rw [sum_parts u h.ap hp, h.or_, ← hb]
 apply Nat.eq_of_testBit_eq
 intro i
 rw [Nat.testBit_or, Nat.testBit_and, Nat.testBit_and, not_bit f i h.f32]
 by_cases hi : i < 32
 ·rw [decide_eq_true hi]
  cases u.testBit i <;> cases f.testBit i <;> rfl
 ·rw [Nat.testBit_lt_two_pow (Nat.lt_of_lt_of_le hu (Nat.pow_le_pow_right (n := 2) (by decide) (by omega : 32 ≤ i)))]
  rfl
theorem word_of {b f : Nat} {l : List Fdx} (h : Good b f l) (hl : l.length ≤ 5) (hw : ∀ x ∈ l, Wf x) (k : Nat) (hk : 300 ≤ k) : code_word.f k l = some (sumF l : Int) := by
 unfold code_word.f
 rw [word_f l (by omega) hw k (by omega), Option.bind_some]
 unfold wordZ
 rw [if_pos h.ap, if_pos h.ft]
theorem or_of {b f : Nat} {l : List Fdx} (h : Good b f l) : Go.bits .or .u32 (b : Int) (sumF l : Int) = (wN b l : Int) := by
 have hs := (sum_bits h.ap h.ft).1
 have := b32 b (sumF l) h.b32 hs
 rw [this.2]
 rfl
end Go.Proofs.YtemenenkefcebaaDoor.Cd
