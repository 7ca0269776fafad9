/- What the printed functions of package bits answer, over plain natural numbers. -/
import Derived.Test.YtemenenkefcebaaDoorKb
import Derived.Test.YtemenenkefcebaaDoorPx2
namespace Go.Proofs.YtemenenkefcebaaDoor.B
open Go.RowKit Go.Proofs.YtemenenkefcebaaDoor.P Go.Proofs.YtemenenkefcebaaDoor.K Go.Proofs.YtemenenkefcebaaDoorW.PrintWords Go.Proofs.YtemenenkefcebaaDoorW.PrintLast Go.Proofs.YtemenenkefcebaaDoorW.PrintMore
set_option linter.unusedVariables false
set_option linter.unusedSimpArgs false

/-! ### Low -/
def lowZ (v : Nat) (n : Int) : Nat := if n ≤ 0 then 0 else if n ≥ 64 then v else v % 2 ^ n.toNat
theorem low_f (v : Nat) (hv : v < 18446744073709551616) (n : Int) : bits_Low.f (v : Int) n = some ((lowZ v n : Nat) : Int) := by
 unfold bits_Low.f lowZ
 by_cases h1 : n ≤ 0
 ·rw [if_pos h1, if_pos h1]; rfl
 ·rw [if_neg h1, if_neg h1]
  by_cases h2 : n ≥ 64
  ·rw [if_pos h2, if_pos h2]
  ·rw [if_neg h2, if_neg h2, if_pos (by omega)]
   obtain ⟨m, rfl⟩ := Int.eq_ofNat_of_zero_le (show 0 ≤ n by omega)
   rw [mask64 v m hv (by omega)]
   rfl
theorem lowZ_nat (v n : Nat) (hv : v < 18446744073709551616) (hn : n ≤ 64) : lowZ v (n : Int) = v % 2 ^ n := by
 unfold lowZ
 by_cases h1 : (n : Int) ≤ 0
 ·obtain rfl : n = 0 := by omega
  simp [Nat.mod_one]
 ·rw [if_neg h1]
  by_cases h2 : (n : Int) ≥ 64
  ·obtain rfl : n = 64 := by omega
   rw [if_pos h2]
   exact (Nat.mod_eq_of_lt hv).symm
  ·rw [if_neg h2, Int.toNat_natCast]
theorem lowZ_lt (v : Nat) (n : Int) (hv : v < 18446744073709551616) : lowZ v n < 18446744073709551616 := by
 unfold lowZ
 split
 ·omega
 ·split
  ·exact hv
  ·exact Nat.lt_of_le_of_lt (Nat.mod_le _ _) hv

/-! ### Rotate -/
def Sz (s : Nat) : Prop := s = 2 ∨ s = 4 ∨ s = 8 ∨ s = 16 ∨ s = 32 ∨ s = 64
instance (s : Nat) : Decidable (Sz s) := by unfold Sz; infer_instance
theorem Sz.le {s : Nat} (h : Sz s) : 2 ≤ s ∧ s ≤ 64 := by unfold Sz at h; omega
theorem sz_cast {a : Int} (h : a = 2 ∨ a = 4 ∨ a = 8 ∨ a = 16 ∨ a = 32 ∨ a = 64) : ∃ s : Nat, a = (s : Int) ∧ Sz s := by
 rcases h with rfl | rfl | rfl | rfl | rfl | rfl
 ·exact ⟨2, rfl, by decide⟩
 ·exact ⟨4, rfl, by decide⟩
 ·exact ⟨8, rfl, by decide⟩
 ·exact ⟨16, rfl, by decide⟩
 ·exact ⟨32, rfl, by decide⟩
 ·exact ⟨64, rfl, by decide⟩
theorem rot_size_bad (k : Nat) (v by_ size : Int) (h : ¬ (size = 2 ∨ size = 4 ∨ size = 8 ∨ size = 16 ∨ size = 32 ∨ size = 64)) : bits_Rotate.f k v by_ size = some (0, 1) := by
 unfold bits_Rotate.f
 rw [if_neg (by omega), if_neg (by omega), if_neg (by omega), if_neg (by omega), if_neg (by omega), if_neg (by omega)]
theorem rot_j0 (k : Nat) (v by_ : Int) {s : Nat} (hs : Sz s) : bits_Rotate.f k v by_ (s : Int) = bits_Rotate.j0 k v by_ (s : Int) := by
 unfold bits_Rotate.f
 rcases hs with rfl | rfl | rfl | rfl | rfl | rfl <;> simp
theorem rot_by_bad (k : Nat) (hk : 2 ≤ k) (v by_ : Int) {s : Nat} (hs : Sz s) (h : by_ < 0 ∨ by_ ≥ (s : Int)) : bits_Rotate.f k v by_ (s : Int) = some (0, 1) := by
 rw [rot_j0 k v by_ hs]
 obtain ⟨k, rfl⟩ : ∃ m, k = m + 2 := ⟨k - 2, by omega⟩
 simp only [bits_Rotate.j0]
 by_cases h1 : by_ < 0
 ·rw [if_pos h1, bits_Rotate.j1, if_pos rfl]
 ·rw [if_neg h1, decide_eq_true (by omega), bits_Rotate.j1, if_pos rfl]
theorem rot_go (k : Nat) (hk : 2 ≤ k) (v b : Nat) {s : Nat} (hs : Sz s) (hv : v < 18446744073709551616) (hb : b < s) :
  bits_Rotate.f k (v : Int) (b : Int) (s : Int) = if v < 2 ^ s then some ((rotN v b s : Int), 0) else some (0, 4) := by
 have hs2 := hs.le
 rw [rot_j0 k _ _ hs]
 obtain ⟨k, rfl⟩ : ∃ m, k = m + 2 := ⟨k - 2, by omega⟩
 simp only [bits_Rotate.j0]
 rw [if_neg (by omega), decide_eq_false (by omega), bits_Rotate.j1, if_neg (by simp), low_f v hv, Option.bind_some, lowZ_nat v s hv hs2.2]
 by_cases h : v < 2 ^ s
 ·rw [if_pos h, if_pos (by rw [Nat.mod_eq_of_lt h]), if_pos (by omega)]
  have e : wrap64 ((s : Int) - (b : Int)) = ((s - b : Nat) : Int) := by rw [w64_in ⟨by omega, by omega⟩]; omega
  have hd : v / 2 ^ b < 18446744073709551616 := Nat.lt_of_le_of_lt (Nat.div_le_self _ _) hv
  have hm : v * 2 ^ (s - b) % 18446744073709551616 < 18446744073709551616 := Nat.mod_lt _ (by decide)
  rw [e, if_pos (by omega), shr64 v b (by omega), shl64 v (s - b) (by omega), (b64 _ _ hd hm).2, low_f _ (Nat.or_lt_two_pow (n := 64) hd hm), Option.bind_some, lowZ_nat _ s (Nat.or_lt_two_pow (n := 64) hd hm) hs2.2, rotN_go h hb hs2.2]
 ·rw [if_neg h, if_neg ?_]
  intro e
  have e2 : v % 2 ^ s = v := by exact_mod_cast e
  exact h (e2 ▸ Nat.mod_lt _ (Nat.two_pow_pos s))
theorem rot_ok (k : Nat) (hk : 2 ≤ k) (v b : Nat) {s : Nat} (hs : Sz s) (hv : v < 2 ^ s) (hb : b < s) : bits_Rotate.f k (v : Int) (b : Int) (s : Int) = some ((rotN v b s : Int), 0) := by
 rw [rot_go k hk v b hs (Nat.lt_of_lt_of_le hv (pow_le64 hs.le.2)) hb, if_pos hv]
end Go.Proofs.YtemenenkefcebaaDoor.B
