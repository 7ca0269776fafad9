/- Plain facts on Go's whole numbers and bits, for this claim's texts: no program in sight. -/
import Derived.Test.YtemenenkefcebaaDoorWMore
namespace Go.Proofs.YtemenenkefcebaaDoor.K
open Go.RowKit Go.Proofs.YtemenenkefcebaaDoorW.PrintWords Go.Proofs.YtemenenkefcebaaDoorW.PrintLast Go.Proofs.YtemenenkefcebaaDoorW.PrintMore
set_option linter.unusedVariables false
set_option linter.unusedSimpArgs false

/-! ### wf -/
theorem wf_u32 {a : Int} (h : (Lit.int .u32 a).wf = true) : 0 ≤ a ∧ a < 4294967296 := by
 simp only [Lit.wf, IntKind.min, IntKind.max, IntKind.signed, IntKind.bits, Bool.and_eq_true, decide_eq_true_eq] at h
 simp at h
 omega
theorem wf_u64 {a : Int} (h : (Lit.int .u64 a).wf = true) : 0 ≤ a ∧ a < 18446744073709551616 := by
 simp only [Lit.wf, IntKind.min, IntKind.max, IntKind.signed, IntKind.bits, Bool.and_eq_true, decide_eq_true_eq] at h
 simp at h
 omega
theorem wf_u8 {a : Int} (h : (Lit.int .u8 a).wf = true) : 0 ≤ a ∧ a < 256 := by
 simp only [Lit.wf, IntKind.min, IntKind.max, IntKind.signed, IntKind.bits, Bool.and_eq_true, decide_eq_true_eq] at h
 simp at h
 omega
theorem wf_i64 {a : Int} (h : (Lit.int .i64 a).wf = true) : -9223372036854775808 ≤ a ∧ a ≤ 9223372036854775807 := by
 simp only [Lit.wf, IntKind.min, IntKind.max, IntKind.signed, IntKind.bits, Bool.and_eq_true, decide_eq_true_eq, if_true] at h
 omega

/-! ### wraps -/
theorem w64_in {n : Int} (h : -9223372036854775808 ≤ n ∧ n ≤ 9223372036854775807) : wrap64 n = n := by unfold wrap64; omega
theorem wu64 (n : Int) : IntKind.u64.wrap n = n % 18446744073709551616 := by simp [IntKind.wrap, IntKind.bits, IntKind.signed]
theorem wu32 (n : Int) : IntKind.u32.wrap n = n % 4294967296 := by simp [IntKind.wrap, IntKind.bits, IntKind.signed]
theorem wu8 (n : Int) : IntKind.u8.wrap n = n % 256 := by simp [IntKind.wrap, IntKind.bits, IntKind.signed]
theorem wi64 (n : Int) : IntKind.i64.wrap n = wrap64 n := by
 simp only [IntKind.wrap, IntKind.bits, IntKind.signed, wrap64]
 simp
 split <;> omega
theorem wu64_in {n : Int} (h : 0 ≤ n ∧ n < 18446744073709551616) : IntKind.u64.wrap n = n := by rw [wu64]; omega
theorem wu32_in {n : Int} (h : 0 ≤ n ∧ n < 4294967296) : IntKind.u32.wrap n = n := by rw [wu32]; omega
theorem wu64_nat (n : Nat) : IntKind.u64.wrap (n : Int) = ((n % 18446744073709551616 : Nat) : Int) := by rw [wu64]; omega
theorem wu32_nat (n : Nat) : IntKind.u32.wrap (n : Int) = ((n % 4294967296 : Nat) : Int) := by rw [wu32]; omega

/-! ### bits of natural numbers -/
theorem b64 (x y : Nat) (hx : x < 18446744073709551616) (hy : y < 18446744073709551616) :
  Go.bits .and .u64 (x : Int) (y : Int) = ((x &&& y : Nat) : Int) ∧ Go.bits .or .u64 (x : Int) (y : Int) = ((x ||| y : Nat) : Int) :=
 bits_nat .u64 64 (by decide) (fun n h0 h1 => wu64_in ⟨h0, h1⟩) x y hx hy
theorem b32 (x y : Nat) (hx : x < 4294967296) (hy : y < 4294967296) :
  Go.bits .and .u32 (x : Int) (y : Int) = ((x &&& y : Nat) : Int) ∧ Go.bits .or .u32 (x : Int) (y : Int) = ((x ||| y : Nat) : Int) :=
 bits_nat .u32 32 (by decide) (fun n h0 h1 => wu32_in ⟨h0, h1⟩) x y hx hy
theorem bx_nat (k : IntKind) (x y : Nat) (hx : x < 2 ^ k.bits) (hy : y < 2 ^ k.bits) : Go.bits .xor k (x : Int) (y : Int) = k.wrap ((x ^^^ y : Nat) : Int) := by
 simp only [Go.bits, BitVec.ofInt_natCast, BitVec.toNat_xor, BitVec.toNat_ofNat, Nat.mod_eq_of_lt hx, Nat.mod_eq_of_lt hy]
theorem bn_nat (k : IntKind) (x y : Nat) (hx : x < 2 ^ k.bits) (hy : y < 2 ^ k.bits) : Go.bits .andNot k (x : Int) (y : Int) = k.wrap ((x &&& (2 ^ k.bits - 1 - y) : Nat) : Int) := by
 simp only [Go.bits, BitVec.ofInt_natCast, BitVec.toNat_and, BitVec.toNat_not, BitVec.toNat_ofNat, Nat.mod_eq_of_lt hx, Nat.mod_eq_of_lt hy]
theorem x64 (x y : Nat) (hx : x < 18446744073709551616) (hy : y < 18446744073709551616) :
  Go.bits .xor .u64 (x : Int) (y : Int) = ((x ^^^ y : Nat) : Int) := by
 have hlt : x ^^^ y < 2 ^ 64 := Nat.xor_lt_two_pow hx hy
 rw [bx_nat .u64 x y hx hy]
 exact wu64_in (n := ((x ^^^ y : Nat) : Int)) ⟨by omega, by omega⟩
/-- x with the bits of y taken away. -/
theorem n64 (x y : Nat) (hx : x < 18446744073709551616) (hy : y < 18446744073709551616) :
  Go.bits .andNot .u64 (x : Int) (y : Int) = ((x &&& (18446744073709551615 - y) : Nat) : Int) := by
 have hlt : x &&& (18446744073709551615 - y) < 2 ^ 64 := Nat.and_lt_two_pow _ (by omega)
 rw [bn_nat .u64 x y hx hy, show (2 : Nat) ^ IntKind.u64.bits - 1 - y = 18446744073709551615 - y by rfl]
 exact wu64_in (n := ((x &&& (18446744073709551615 - y) : Nat) : Int)) ⟨by omega, by omega⟩
theorem n32 (x y : Nat) (hx : x < 4294967296) (hy : y < 4294967296) :
  Go.bits .andNot .u32 (x : Int) (y : Int) = ((x &&& (4294967295 - y) : Nat) : Int) := by
 have hlt : x &&& (4294967295 - y) < 2 ^ 32 := Nat.and_lt_two_pow _ (by omega)
 rw [bn_nat .u32 x y hx hy, show (2 : Nat) ^ IntKind.u32.bits - 1 - y = 4294967295 - y by rfl]
 exact wu32_in (n := ((x &&& (4294967295 - y) : Nat) : Int)) ⟨by omega, by omega⟩

/-! ### shifts -/
theorem pow_le64 {n : Nat} (h : n ≤ 64) : 2 ^ n ≤ 18446744073709551616 := Nat.pow_le_pow_right (n := 2) (j := 64) (by decide) h
theorem pow_lt64 {n : Nat} (h : n < 64) : 2 ^ n < 18446744073709551616 := Nat.pow_lt_pow_right (a := 2) (n := 64) (by decide) h
theorem pow_le32 {n : Nat} (h : n ≤ 32) : 2 ^ n ≤ 4294967296 := Nat.pow_le_pow_right (n := 2) (j := 32) (by decide) h
theorem pow_lt32 {n : Nat} (h : n < 32) : 2 ^ n < 4294967296 := Nat.pow_lt_pow_right (a := 2) (n := 32) (by decide) h
theorem pow_lt63 {n : Nat} (h : n < 63) : 2 ^ n < 9223372036854775808 := Nat.pow_lt_pow_right (a := 2) (n := 63) (by decide) h
theorem shl64 (x n : Nat) (hn : n ≤ 64) : shl .u64 (x : Int) (n : Int) = ((x * 2 ^ n % 18446744073709551616 : Nat) : Int) := by
 unfold shl
 rw [Int.toNat_natCast, Nat.min_eq_left (show n ≤ IntKind.u64.bits from hn), wu64]
 rw [Int.natCast_emod, Int.natCast_mul, Int.natCast_pow]; rfl
theorem shl32 (x n : Nat) (hn : n ≤ 32) : shl .u32 (x : Int) (n : Int) = ((x * 2 ^ n % 4294967296 : Nat) : Int) := by
 unfold shl
 rw [Int.toNat_natCast, Nat.min_eq_left (show n ≤ IntKind.u32.bits from hn), wu32]
 rw [Int.natCast_emod, Int.natCast_mul, Int.natCast_pow]; rfl
theorem shl64_one (n : Nat) (hn : n < 64) : shl .u64 1 (n : Int) = ((2 ^ n : Nat) : Int) := by
 have h := shl64 1 n (by omega)
 rw [Nat.one_mul, Nat.mod_eq_of_lt (pow_lt64 hn)] at h
 exact h
theorem shl32_one (n : Nat) (hn : n < 32) : shl .u32 1 (n : Int) = ((2 ^ n : Nat) : Int) := by
 have h := shl32 1 n (by omega)
 rw [Nat.one_mul, Nat.mod_eq_of_lt (pow_lt32 hn)] at h
 exact h
theorem shli64_one (n : Nat) (hn : n < 63) : shl .i64 1 (n : Int) = ((2 ^ n : Nat) : Int) := by
 unfold shl
 rw [Int.toNat_natCast, Nat.min_eq_left (show n ≤ IntKind.i64.bits by simp [IntKind.bits]; omega), wi64]
 have := pow_lt63 hn
 rw [Int.one_mul, show (2 : Int) ^ n = ((2 ^ n : Nat) : Int) by rw [Int.natCast_pow]; rfl]
 generalize 2 ^ n = p at *
 exact w64_in ⟨by omega, by omega⟩
theorem shr64 (x n : Nat) (hn : n ≤ 64) : shr .u64 (x : Int) (n : Int) = ((x / 2 ^ n : Nat) : Int) := by
 unfold shr
 rw [Int.toNat_natCast, Nat.min_eq_left (show n ≤ IntKind.u64.bits from hn)]
 rw [Int.natCast_ediv, Int.natCast_pow]; rfl
theorem shr32 (x n : Nat) (hn : n ≤ 32) : shr .u32 (x : Int) (n : Int) = ((x / 2 ^ n : Nat) : Int) := by
 unfold shr
 rw [Int.toNat_natCast, Nat.min_eq_left (show n ≤ IntKind.u32.bits from hn)]
 rw [Int.natCast_ediv, Int.natCast_pow]; rfl
/-- v and (1 << n) less 1. -/
theorem mask64 (x n : Nat) (hx : x < 18446744073709551616) (hn : n < 64) : Go.bits .and .u64 (x : Int) (IntKind.u64.wrap (shl .u64 1 (n : Int) - 1)) = ((x % 2 ^ n : Nat) : Int) := by
 have hp := Nat.two_pow_pos n
 have hl := pow_lt64 hn
 rw [shl64_one n hn, wu64_in ⟨by omega, by omega⟩, show ((2 ^ n : Nat) : Int) - 1 = ((2 ^ n - 1 : Nat) : Int) by omega, (b64 x (2 ^ n - 1) hx (by omega)).1, Nat.and_two_pow_sub_one_eq_mod]
theorem mask32 (x n : Nat) (hx : x < 4294967296) (hn : n ≤ 32) : Go.bits .and .u32 (x : Int) ((shl .u32 1 (n : Int) - 1) % 4294967296) = ((x % 2 ^ n : Nat) : Int) := by
 have hp := Nat.two_pow_pos n
 have hl := pow_le32 hn
 have e : (shl .u32 1 (n : Int) - 1) % 4294967296 = ((2 ^ n - 1 : Nat) : Int) := by
  by_cases h : n < 32
  ·rw [shl32_one n h]; have := pow_lt32 h; omega
  ·obtain rfl : n = 32 := by omega
   decide
 rw [e, (b32 x (2 ^ n - 1) hx (by omega)).1, Nat.and_two_pow_sub_one_eq_mod]
theorem mod_succ (x i : Nat) : x % 2 ^ (i + 1) = x % 2 ^ i + (x.testBit i).toNat * 2 ^ i := by
 rw [Nat.mod_pow_succ, Nat.toNat_testBit, Nat.mul_comm]

/-! ### a number of s bits, rotated to the right -/
def rotN (v b s : Nat) : Nat := v / 2 ^ b + v % 2 ^ b * 2 ^ (s - b)
theorem rotN_or {v b s : Nat} (hv : v < 2 ^ s) (hb : b ≤ s) : rotN v b s = v / 2 ^ b ||| v % 2 ^ b * 2 ^ (s - b) := by
 have hlt : v / 2 ^ b < 2 ^ (s - b) := by
  rw [Nat.div_lt_iff_lt_mul (Nat.two_pow_pos b), ← Nat.pow_add]
  rwa [Nat.sub_add_cancel hb]
 unfold rotN
 rw [Nat.add_comm, Nat.mul_comm, Nat.two_pow_add_eq_or_of_lt hlt, Nat.or_comm]
theorem rotN_lt {v b s : Nat} (hv : v < 2 ^ s) (hb : b ≤ s) : rotN v b s < 2 ^ s := by
 have hlt : v / 2 ^ b < 2 ^ (s - b) := by
  rw [Nat.div_lt_iff_lt_mul (Nat.two_pow_pos b), ← Nat.pow_add]
  rwa [Nat.sub_add_cancel hb]
 rw [rotN_or hv hb]
 refine Nat.or_lt_two_pow (Nat.lt_of_lt_of_le hlt (Nat.pow_le_pow_right (by decide) (by omega))) ?_
 have h1 : v % 2 ^ b < 2 ^ b := Nat.mod_lt _ (Nat.two_pow_pos b)
 calc v % 2 ^ b * 2 ^ (s - b) < 2 ^ b * 2 ^ (s - b) := Nat.mul_lt_mul_of_pos_right h1 (Nat.two_pow_pos _)
  _ = 2 ^ s := by rw [← Nat.pow_add, Nat.add_sub_cancel' hb]
theorem rotN_bit {v b s i : Nat} (hv : v < 2 ^ s) (hb : b < s) (hi : i < s) : (rotN v b s).testBit i = v.testBit ((i + b) % s) := by
 rw [rotN_or hv (by omega), Nat.testBit_or, Nat.testBit_div_two_pow, Nat.testBit_mul_two_pow, Nat.testBit_mod_two_pow]
 by_cases h : i + b < s
 ·rw [Nat.mod_eq_of_lt h, decide_eq_false (show ¬ s - b ≤ i by omega), Bool.false_and, Bool.or_false]
 ·rw [Nat.testBit_lt_two_pow (x := v) (i := i + b) (Nat.lt_of_lt_of_le hv (Nat.pow_le_pow_right (by decide) (by omega))), Bool.false_or, decide_eq_true (show s - b ≤ i by omega), Bool.true_and, decide_eq_true (show i - (s - b) < b by omega), Bool.true_and]
  congr 1
  have : (i + b) % s = i + b - s := by rw [Nat.mod_eq_sub_mod (by omega)]; exact Nat.mod_eq_of_lt (by omega)
  omega
theorem eq_of_bits {x y s : Nat} (hx : x < 2 ^ s) (hy : y < 2 ^ s) (h : ∀ i, i < s → x.testBit i = y.testBit i) : x = y := by
 apply Nat.eq_of_testBit_eq
 intro i
 by_cases hi : i < s
 ·exact h i hi
 ·rw [Nat.testBit_lt_two_pow (Nat.lt_of_lt_of_le hx (Nat.pow_le_pow_right (by decide) (by omega))), Nat.testBit_lt_two_pow (Nat.lt_of_lt_of_le hy (Nat.pow_le_pow_right (by decide) (by omega)))]
theorem rotN_rotN {v a b s : Nat} (hv : v < 2 ^ s) (ha : a < s) (hb : b < s) : rotN (rotN v a s) b s = rotN v ((a + b) % s) s := by
 have hs : 0 < s := by omega
 have hm : (a + b) % s < s := Nat.mod_lt _ hs
 refine eq_of_bits (rotN_lt (rotN_lt hv (by omega)) (by omega)) (rotN_lt hv (by omega)) fun i hi => ?_
 rw [rotN_bit (rotN_lt hv (by omega)) hb hi, rotN_bit hv ha (Nat.mod_lt _ hs), rotN_bit hv hm hi, Nat.mod_add_mod, Nat.add_mod_mod]
 congr 2
 omega
theorem rotN_zero {v s : Nat} : rotN v 0 s = v := by simp [rotN, Nat.mod_one]
/-- What Go's text makes: the low s bits of (v >> b | v << (s - b)), of 64 bits. -/
theorem rotN_go {v b s : Nat} (hv : v < 2 ^ s) (hb : b < s) (hs : s ≤ 64) : (v / 2 ^ b ||| v * 2 ^ (s - b) % 18446744073709551616) % 2 ^ s = rotN v b s := by
 rw [show (18446744073709551616 : Nat) = 2 ^ 64 by rfl]
 refine eq_of_bits (Nat.mod_lt _ (Nat.two_pow_pos s)) (rotN_lt hv (by omega)) fun i hi => ?_
 rw [rotN_or hv (by omega), Nat.testBit_mod_two_pow, decide_eq_true hi, Bool.true_and, Nat.testBit_or, Nat.testBit_or, Nat.testBit_mod_two_pow, decide_eq_true (show i < 64 by omega), Bool.true_and, Nat.testBit_mul_two_pow, Nat.testBit_mul_two_pow, Nat.testBit_mod_two_pow]
 by_cases h : s - b ≤ i
 ·rw [decide_eq_true h, decide_eq_true (show i - (s - b) < b by omega)]; simp
 ·rw [decide_eq_false h]; simp
theorem mod_mod_pow (x : Nat) {n m : Nat} (h : n ≤ m) : x % 2 ^ m % 2 ^ n = x % 2 ^ n := Nat.mod_mod_of_dvd _ (Nat.pow_dvd_pow 2 h)

end Go.Proofs.YtemenenkefcebaaDoor.K
