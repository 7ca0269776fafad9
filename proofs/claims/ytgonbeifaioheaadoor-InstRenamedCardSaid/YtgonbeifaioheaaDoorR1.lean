/- What the printed functions of the reference of layer 1 answer, over plain natural numbers. -/
import Derived.Test.YtgonbeifaioheaaDoorBs
import Derived.Test.YtgonbeifaioheaaDoorPx6
import Derived.Test.YtgonbeifaioheaaDoorPx7
namespace Go.Proofs.YtgonbeifaioheaaDoor.R1
open Go.RowKit Go.Proofs.YtgonbeifaioheaaDoor.P Go.Proofs.YtgonbeifaioheaaDoor.K Go.Proofs.YtgonbeifaioheaaDoor.B Go.Proofs.YtgonbeifaioheaaDoorW.PrintWords Go.Proofs.YtgonbeifaioheaaDoorW.PrintLast Go.Proofs.YtgonbeifaioheaaDoorW.PrintMore
set_option linter.unusedVariables false
set_option linter.unusedSimpArgs false
theorem power_l (n : Nat) (hn : n ≤ 64) : ∀ (d k i : Nat), i + d = n → d < k → cleatref01_Power.l0 k (n : Int) ((2 ^ i % 18446744073709551616 : Nat) : Int) (i : Int) = some ((2 ^ n % 18446744073709551616 : Nat) : Int) := by
 intro d
 induction d with
 | zero =>
  intro k i hi hk
  obtain ⟨k, rfl⟩ : ∃ m, k = m + 1 := ⟨k - 1, by omega⟩
  obtain rfl : i = n := by omega
  simp only [cleatref01_Power.l0]
  rw [if_neg (by omega)]
 | succ d ih =>
  intro k i hi hk
  obtain ⟨k, rfl⟩ : ∃ m, k = m + 1 := ⟨k - 1, by omega⟩
  simp only [cleatref01_Power.l0]
  rw [if_pos (by omega)]
  have e : IntKind.u64.wrap (2 * ((2 ^ i % 18446744073709551616 : Nat) : Int)) = ((2 ^ (i + 1) % 18446744073709551616 : Nat) : Int) := by
   rw [show (2 : Int) * ((2 ^ i % 18446744073709551616 : Nat) : Int) = ((2 * (2 ^ i % 18446744073709551616) : Nat) : Int) by omega, wu64_nat]
   congr 1
   rw [Nat.pow_succ]
   omega
  rw [e, show wrap64 ((i : Int) + 1) = ((i + 1 : Nat) : Int) by rw [w64_in ⟨by omega, by omega⟩]; omega]
  exact ih k (i + 1) (by omega) (by omega)
theorem power_f (n : Nat) (hn : n < 64) (k : Nat) (hk : 66 ≤ k) : cleatref01_Power.f k (n : Int) = some ((2 ^ n : Nat) : Int) := by
 have h := power_l n (by omega) n k 0 (by omega) (by omega)
 rw [Nat.mod_eq_of_lt (pow_lt64 hn)] at h
 exact h
theorem power_neg (n : Int) (hn : n ≤ 0) (k : Nat) (hk : 66 ≤ k) : cleatref01_Power.f k n = some 1 := by
 obtain ⟨k, rfl⟩ : ∃ m, k = m + 1 := ⟨k - 1, by omega⟩
 simp only [cleatref01_Power.f, cleatref01_Power.l0]
 rw [if_neg (by omega)]
theorem bit_f (v i : Nat) (hv : v < 18446744073709551616) (hi : i < 64) (k : Nat) (hk : 66 ≤ k) : cleatref01_Bit.f k (v : Int) (i : Int) = some (v.testBit i) := by
 have hp := Nat.two_pow_pos i
 unfold cleatref01_Bit.f
 rw [power_f i hi k hk, Option.bind_some, if_neg (by omega)]
 have hd : v / 2 ^ i < 18446744073709551616 := Nat.lt_of_le_of_lt (Nat.div_le_self _ _) hv
 rw [Nat.testBit_eq_decide_div_mod_eq, show Int.tdiv (v : Int) ((2 ^ i : Nat) : Int) = ((v / 2 ^ i : Nat) : Int) from rfl]
 generalize v / 2 ^ i = q at *
 rw [wu64_in ⟨by omega, by omega⟩, show Int.tmod (q : Int) 2 = ((q % 2 : Nat) : Int) from rfl]
 congr 1
 rw [Bool.eq_iff_iff, beq_iff_eq, decide_eq_true_iff]
 omega
theorem small_f (v : Nat) (n : Nat) (hv : v < 18446744073709551616) (k : Nat) (hk : 66 ≤ k) : cleatref01_Small.f k (v : Int) (n : Int) = some (decide (v < 2 ^ n)) := by
 unfold cleatref01_Small.f
 by_cases h : (n : Int) ≥ 64
 ·rw [if_pos h, decide_eq_true]
  exact Nat.lt_of_lt_of_le hv (Nat.pow_le_pow_right (n := 2) (i := 64) (by decide) (by omega))
 ·rw [if_neg h, power_f n (by omega) k hk, Option.bind_some]
  congr 1
  rw [Bool.eq_iff_iff, decide_eq_true_iff, decide_eq_true_iff]
  exact Int.ofNat_lt
theorem low_ref (v : Nat) (hv : v < 18446744073709551616) (n : Int) (k : Nat) (hk : 66 ≤ k) : cleatref01_Low.f k (v : Int) n = some ((lowZ v n : Nat) : Int) := by
 unfold cleatref01_Low.f lowZ
 by_cases h1 : n ≤ 0
 ·rw [if_pos h1, if_pos h1]; rfl
 ·rw [if_neg h1, if_neg h1]
  by_cases h2 : n ≥ 64
  ·rw [if_pos h2, if_pos h2]
  ·rw [if_neg h2, if_neg h2]
   obtain ⟨m, rfl⟩ := Int.eq_ofNat_of_zero_le (show 0 ≤ n by omega)
   have hp := Nat.two_pow_pos m
   rw [power_f m (by omega) k hk, Option.bind_some, if_neg (by omega)]
   rfl
theorem rot_l (v b s : Nat) (hv : v < 2 ^ s) (hb : b < s) (hs : s ≤ 64) : ∀ (d k i : Nat), i + d = s → d + 66 < k → cleatref01_Rotate.l0 k (v : Int) (b : Int) (s : Int) ((rotN v b s % 2 ^ i : Nat) : Int) (i : Int) = some ((rotN v b s : Int), 0) := by
 have hv64 : v < 18446744073709551616 := Nat.lt_of_lt_of_le hv (pow_le64 hs)
 have hr := rotN_lt hv (Nat.le_of_lt hb)
 intro d
 induction d with
 | zero =>
  intro k i hi hk
  obtain ⟨k, rfl⟩ : ∃ m, k = m + 1 := ⟨k - 1, by omega⟩
  obtain rfl : i = s := by omega
  simp only [cleatref01_Rotate.l0]
  rw [if_neg (by omega), Nat.mod_eq_of_lt hr]
 | succ d ih =>
  intro k i hi hk
  obtain ⟨k, rfl⟩ : ∃ m, k = m + 1 := ⟨k - 1, by omega⟩
  simp only [cleatref01_Rotate.l0]
  have hms : (i + b) % s < s := Nat.mod_lt _ (by omega)
  rw [if_pos (by omega), if_neg (by omega), show Int.tmod (wrap64 ((i : Int) + (b : Int))) (s : Int) = (((i + b) % s : Nat) : Int) by
   rw [w64_in ⟨by omega, by omega⟩]; rfl]
  rw [bit_f v _ hv64 (by omega) k (by omega), Option.bind_some, ← rotN_bit hv hb (show i < s by omega)]
  rw [show wrap64 ((i : Int) + 1) = ((i + 1 : Nat) : Int) by rw [w64_in ⟨by omega, by omega⟩]; omega]
  have hms2 := mod_succ (rotN v b s) i
  have hlt : rotN v b s % 2 ^ (i + 1) < 2 ^ (i + 1) := Nat.mod_lt _ (Nat.two_pow_pos _)
  have hp1 := pow_le64 (show i + 1 ≤ 64 by omega)
  by_cases hbit : (rotN v b s).testBit i = true
  ·rw [if_pos hbit, power_f i (by omega) k (by omega), Option.bind_some]
   rw [hbit] at hms2
   simp only [Bool.toNat_true, Nat.one_mul] at hms2
   rw [show ((rotN v b s % 2 ^ i : Nat) : Int) + ((2 ^ i : Nat) : Int) = ((rotN v b s % 2 ^ (i + 1) : Nat) : Int) by rw [hms2, Int.natCast_add]]
   rw [wu64_in ⟨by omega, by omega⟩]
   exact ih k (i + 1) (by omega) (by omega)
  ·rw [if_neg hbit]
   rw [Bool.not_eq_true] at hbit
   rw [hbit] at hms2
   simp only [Bool.toNat_false, Nat.zero_mul, Nat.add_zero] at hms2
   rw [← hms2]
   exact ih k (i + 1) (by omega) (by omega)
theorem rot_ref_j0 (k : Nat) (hk : 200 ≤ k) (v b s : Nat) (hv : v < 18446744073709551616) (hb : b < s) (hs : s ≤ 64) :
  cleatref01_Rotate.j0 k (v : Int) (b : Int) (s : Int) false = if v < 2 ^ s then some ((rotN v b s : Int), 0) else some (0, 4) := by
 obtain ⟨k, rfl⟩ : ∃ m, k = m + 1 := ⟨k - 1, by omega⟩
 simp only [cleatref01_Rotate.j0]
 rw [if_neg (by simp), small_f v s hv k (by omega), Option.bind_some]
 by_cases h : v < 2 ^ s
 ·rw [if_pos (decide_eq_true h), if_pos h]
  have := rot_l v b s h hb hs s k 0 (by omega) (by omega)
  rwa [Nat.pow_zero, Nat.mod_one] at this
 ·rw [if_neg (by simpa using h), if_neg h]
theorem rot_ref_true (k : Nat) (hk : 1 ≤ k) (v b s : Int) : cleatref01_Rotate.j0 k v b s true = some (0, 1) := by
 obtain ⟨k, rfl⟩ : ∃ m, k = m + 1 := ⟨k - 1, by omega⟩
 simp [cleatref01_Rotate.j0]
theorem rot_ref_f (k : Nat) (v b : Int) {s : Nat} (hs : Sz s) : cleatref01_Rotate.f k v b (s : Int) = if b < 0 then cleatref01_Rotate.j0 k v b (s : Int) true else cleatref01_Rotate.j0 k v b (s : Int) (decide (b ≥ (s : Int))) := by
 unfold cleatref01_Rotate.f
 rcases hs with rfl | rfl | rfl | rfl | rfl | rfl <;> simp
theorem rot_ref_bad (k : Nat) (hk : 1 ≤ k) (v b size : Int) (h : ¬ (size = 2 ∨ size = 4 ∨ size = 8 ∨ size = 16 ∨ size = 32 ∨ size = 64)) : cleatref01_Rotate.f k v b size = some (0, 1) := by
 unfold cleatref01_Rotate.f
 rw [if_neg (by omega), if_neg (by omega), if_neg (by omega), if_neg (by omega), if_neg (by omega), if_neg (by omega), rot_ref_true k hk]
/-- Both tell the same, of any numbers. -/
theorem rot_same (k : Nat) (hk : 200 ≤ k) (v by_ size : Int) (hv : 0 ≤ v ∧ v < 18446744073709551616) : ∃ r, bits_Rotate.f k v by_ size = some r ∧ cleatref01_Rotate.f k v by_ size = some r := by
 by_cases h : size = 2 ∨ size = 4 ∨ size = 8 ∨ size = 16 ∨ size = 32 ∨ size = 64
 ·obtain ⟨s, rfl, hs⟩ := sz_cast h
  by_cases hb : by_ < 0 ∨ by_ ≥ (s : Int)
  ·refine ⟨(0, 1), rot_by_bad k (by omega) v by_ hs hb, ?_⟩
   rw [rot_ref_f k v by_ hs]
   by_cases h1 : by_ < 0
   ·rw [if_pos h1, rot_ref_true k (by omega)]
   ·rw [if_neg h1, decide_eq_true (by omega), rot_ref_true k (by omega)]
  ·obtain ⟨x, rfl⟩ := Int.eq_ofNat_of_zero_le hv.1
   obtain ⟨b, rfl⟩ := Int.eq_ofNat_of_zero_le (show 0 ≤ by_ by omega)
   have e1 := rot_go k (by omega) x b hs (by omega) (by omega)
   have e2 := rot_ref_j0 k hk x b s (by omega) (by omega) hs.le.2
   rw [rot_ref_f k _ _ hs, if_neg (by omega), decide_eq_false (by omega), e1, e2]
   split
   ·exact ⟨_, rfl, rfl⟩
   ·exact ⟨_, rfl, rfl⟩
 ·exact ⟨(0, 1), rot_size_bad k v by_ size h, rot_ref_bad k (by omega) v by_ size h⟩
end Go.Proofs.YtgonbeifaioheaaDoor.R1
