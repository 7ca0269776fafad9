/- What the functions of layer 24, and of its reference, answer, in plain numbers. -/
import Derived.Test.YtdckhlihhbobhaaKb
import Derived.Test.YtdckhlihhbobhaaPx2
import Derived.Test.YtdckhlihhbobhaaPx3
import Derived.Test.YtdckhlihhbobhaaPx4
import Derived.Test.YtdckhlihhbobhaaPx5
namespace Go.Proofs.Ytdckhlihhbobhaa.Pl
open Go.RowKit Go.Proofs.Ytdckhlihhbobhaa.P Go.Proofs.Ytdckhlihhbobhaa.K Go.Proofs.YtdckhlihhbobhaaW.PrintWords Go.Proofs.YtdckhlihhbobhaaW.PrintLast Go.Proofs.YtdckhlihhbobhaaW.PrintMore
set_option linter.unusedVariables false
set_option linter.unusedSimpArgs false
abbrev Bk := S34
theorem at_rounds {α : Type} {f : Nat → Option α} (hm : ∀ k, LeO (f k) (f (k + 1))) {a : Nat} {r : α} (hr : f a = some r) : ∀ {b : Nat}, a ≤ b → f b = some r := by
  intro b hb
  induction hb with
  | refl => exact hr
  | step _ ih => exact hm _ _ ih
theorem laid_t (k : Nat) (hk : 30 ≤ k) : cleatlaw24_laid.f k = some true := at_rounds cleatlaw24_laid.mono (a := 30) (by decide +kernel) hk
theorem rd_at (l : List Bk) (i : Nat) (hi : i < l.length) : rd_T34 l (i : Int) = l[i] := by
  unfold rd_T34
  rw [Int.toNat_natCast, List.getD_eq_getElem?_getD, List.getElem?_eq_getElem hi]
  rfl
theorem rdi_at (l : List Int) (i : Nat) (hi : i < l.length) : rd l (i : Int) = l[i] := by
  unfold rd
  rw [Int.toNat_natCast, List.getD_eq_getElem?_getD, List.getElem?_eq_getElem hi]
  rfl
theorem next_nat (i : Nat) (h : i < 4611686018427387904) : wrap64 ((i : Int) + 1) = ((i + 1 : Nat) : Int) := by rw [w64_in ⟨by omega, by omega⟩]; omega
theorem tmod_nat (a b : Nat) : Int.tmod (a : Int) (b : Int) = ((a % b : Nat) : Int) := rfl

/-! ### up -/
/-- The least multiple of p at a or more. -/
def upN (a p : Nat) : Nat := if a % p = 0 then a else a + (p - a % p)
theorem up_mod (a p : Nat) (hp : 0 < p) : upN a p % p = 0 := by
  unfold upN
  split
  · assumption
  · have h := Nat.mod_lt a hp
    have e := Nat.div_add_mod a p
    rw [show a + (p - a % p) = p * (a / p) + p by omega, Nat.mul_add_mod, Nat.mod_self]
theorem up_ge (a p : Nat) : a ≤ upN a p := by unfold upN; split <;> omega
theorem up_lt (a p : Nat) (hp : 0 < p) : upN a p < a + p := by unfold upN; split <;> omega
theorem up_of {a p : Nat} (h : a % p = 0) : upN a p = a := by simp [upN, h]
theorem up_le {a p m : Nat} (hp : 0 < p) (hm : m % p = 0) (h : a ≤ m) : upN a p ≤ m := by
  refine Nat.le_of_not_lt fun hlt => ?_
  have h1 := up_lt a p hp
  have h2 := up_mod a p hp
  obtain ⟨d, hd⟩ : ∃ d, upN a p = m + d := ⟨upN a p - m, by omega⟩
  rw [hd, Nat.add_mod, hm, Nat.zero_add, Nat.mod_mod, Nat.mod_eq_of_lt (by omega)] at h2
  omega
theorem up_eq (a p : Nat) (hp : 0 < p) : (a + (p - 1)) - (a + (p - 1)) % p = upN a p := by
  have hr := Nat.mod_lt a hp
  have e := Nat.div_add_mod a p
  unfold upN
  split
  · rename_i h
    rw [Nat.add_mod, h, Nat.zero_add, Nat.mod_mod, Nat.mod_eq_of_lt (by omega)]
    omega
  · rename_i h
    have e2 : (a + (p - 1)) % p = a % p - 1 := by
      rw [show a + (p - 1) = p * (a / p + 1) + (a % p - 1) by rw [Nat.mul_add]; omega, Nat.mul_add_mod, Nat.mod_eq_of_lt (by omega)]
    rw [e2]
    omega
theorem up_step {a p : Nat} (hp : 0 < p) (h : a % p ≠ 0) : upN (a + 1) p = upN a p := by
  have hr := Nat.mod_lt a hp
  have e := Nat.div_add_mod a p
  have e2 : (a + 1) % p = (a % p + 1) % p := by rw [show a + 1 = p * (a / p) + (a % p + 1) by omega, Nat.mul_add_mod]
  unfold upN
  rw [if_neg h, e2]
  by_cases hq : a % p + 1 = p
  · rw [hq, Nat.mod_self, if_pos rfl]; omega
  · rw [Nat.mod_eq_of_lt (by omega), if_neg (by omega)]; omega
theorem clear_low (x n : Nat) (hx : x < 18446744073709551616) (hn : n < 64) : x &&& (18446744073709551615 - (2 ^ n - 1)) = x - x % 2 ^ n := by
  have hp := Nat.two_pow_pos n
  have hl := pow_lt64 hn
  rw [show 18446744073709551615 - (2 ^ n - 1) = 2 ^ 64 - ((2 ^ n - 1) + 1) by omega]
  rw [show x - x % 2 ^ n = x / 2 ^ n * 2 ^ n by have := Nat.div_add_mod' x (2 ^ n); omega]
  apply Nat.eq_of_testBit_eq
  intro i
  rw [Nat.testBit_and, Nat.testBit_two_pow_sub_succ (by omega), Nat.testBit_two_pow_sub_one, Nat.testBit_mul_two_pow, Nat.testBit_div_two_pow]
  by_cases hi : i < n
  · simp [hi]
    intro h; omega
  · by_cases h64 : i < 64
    · simp [hi, h64, show n ≤ i by omega, show i - n + n = i by omega, show n + (i - n) = i by omega]
    · have hb : x.testBit i = false := Nat.testBit_lt_two_pow (Nat.lt_of_lt_of_le hx (Nat.pow_le_pow_right (n := 2) (i := 64) (by decide) (by omega)))
      simp [hi, h64, hb, show i - n + n = i by omega, show n + (i - n) = i by omega]
theorem p12 {n : Nat} (hn : n ≤ 12) : 0 < 2 ^ n ∧ 2 ^ n ≤ 4096 := ⟨Nat.two_pow_pos n, Nat.pow_le_pow_right (n := 2) (j := 12) (by decide) hn⟩
theorem up_f (a n : Nat) (hn : n ≤ 12) (ha : a ≤ 9223372036854775808) (k : Nat) (hk : 1 ≤ k) : place_Up.f k (a : Int) (n : Int) = some (((upN a (2 ^ n) : Nat) : Int), 0) := by
  obtain ⟨k, rfl⟩ : ∃ j, k = j + 1 := ⟨k - 1, by omega⟩
  obtain ⟨hp, hl⟩ := p12 hn
  unfold place_Up.f
  rw [if_neg (by omega), decide_eq_false (by omega)]
  simp only [place_Up.j0]
  rw [if_neg (by simp), if_neg (by omega), if_pos (by omega), shl64_one n (by omega), wu64_in (n := ((2 ^ n : Nat) : Int) - 1) ⟨by omega, by omega⟩, show ((2 ^ n : Nat) : Int) - 1 = ((2 ^ n - 1 : Nat) : Int) by omega, show (a : Int) + ((2 ^ n - 1 : Nat) : Int) = ((a + (2 ^ n - 1) : Nat) : Int) by omega, wu64_in ⟨by omega, by omega⟩, n64 _ _ (by omega) (by omega), clear_low _ _ (by omega) (by omega), up_eq _ _ hp]
theorem up_bad (a n : Int) (h : n < 0 ∨ 12 < n) (k : Nat) (hk : 1 ≤ k) : place_Up.f k a n = some (0, 1) := by
  obtain ⟨k, rfl⟩ : ∃ j, k = j + 1 := ⟨k - 1, by omega⟩
  unfold place_Up.f
  simp only [place_Up.j0]
  by_cases h0 : n < 0
  · rw [if_pos h0, if_pos trivial]
  · rw [if_neg h0, decide_eq_true (by omega), if_pos rfl]
theorem up_far (a n : Int) (h : ¬ (n < 0 ∨ 12 < n)) (ha : 9223372036854775808 < a) (k : Nat) (hk : 1 ≤ k) : place_Up.f k a n = some (0, 4) := by
  obtain ⟨k, rfl⟩ : ∃ j, k = j + 1 := ⟨k - 1, by omega⟩
  unfold place_Up.f
  simp only [place_Up.j0]
  rw [if_neg (by omega), decide_eq_false (by omega), if_neg (by simp), if_pos ha]
theorem power_l (n : Nat) (hn : n ≤ 64) : ∀ (d k i : Nat), i + d = n → d < k → cleatref01_Power.l0 k (n : Int) ((2 ^ i % 18446744073709551616 : Nat) : Int) (i : Int) = some ((2 ^ n % 18446744073709551616 : Nat) : Int) := by
  intro d
  induction d with
  | zero =>
    intro k i hi hk
    obtain ⟨k, rfl⟩ : ∃ m, k = m + 1 := ⟨k - 1, by omega⟩
    obtain rfl : i = n := by omega
    simp only [cleatref01_Power.l0]
    rw [if_neg (by omega)]
  | succ d ih =>
    intro k i hi hk
    obtain ⟨k, rfl⟩ : ∃ m, k = m + 1 := ⟨k - 1, by omega⟩
    simp only [cleatref01_Power.l0]
    rw [if_pos (by omega)]
    have e : IntKind.u64.wrap (2 * ((2 ^ i % 18446744073709551616 : Nat) : Int)) = ((2 ^ (i + 1) % 18446744073709551616 : Nat) : Int) := by
      rw [show (2 : Int) * ((2 ^ i % 18446744073709551616 : Nat) : Int) = ((2 * (2 ^ i % 18446744073709551616) : Nat) : Int) by omega, wu64_nat]
      congr 1
      rw [Nat.pow_succ]
      omega
    rw [e, show wrap64 ((i : Int) + 1) = ((i + 1 : Nat) : Int) by rw [w64_in ⟨by omega, by omega⟩]; omega]
    exact ih k (i + 1) (by omega) (by omega)
theorem power_f (n : Nat) (hn : n < 64) (k : Nat) (hk : 66 ≤ k) : cleatref01_Power.f k (n : Int) = some ((2 ^ n : Nat) : Int) := by
  have h := power_l n (by omega) n k 0 (by omega) (by omega)
  rw [Nat.mod_eq_of_lt (pow_lt64 hn)] at h
  exact h
theorem rup_l (n : Nat) (hn : n ≤ 12) : ∀ (d k a : Nat), upN a (2 ^ n) = a + d → d < k → a + d < 18446744073709551616 → cleatref24_Up.l0 k (a : Int) ((2 ^ n : Nat) : Int) = some (((upN a (2 ^ n) : Nat) : Int), 0) := by
  obtain ⟨hp, hl⟩ := p12 hn
  intro d
  induction d with
  | zero =>
    intro k a h hk hb
    obtain ⟨k, rfl⟩ : ∃ j, k = j + 1 := ⟨k - 1, by omega⟩
    simp only [cleatref24_Up.l0]
    have h0 : a % 2 ^ n = 0 := by have := up_mod a (2 ^ n) hp; rwa [h] at this
    rw [if_neg (by omega), tmod_nat, if_pos (by omega), h]
    rfl
  | succ d ih =>
    intro k a h hk hb
    obtain ⟨k, rfl⟩ : ∃ j, k = j + 1 := ⟨k - 1, by omega⟩
    simp only [cleatref24_Up.l0]
    have h0 : a % 2 ^ n ≠ 0 := fun e => by rw [up_of e] at h; omega
    rw [if_neg (by omega), tmod_nat, if_neg (by omega), show IntKind.u64.wrap ((a : Int) + 1) = ((a + 1 : Nat) : Int) by rw [wu64_in ⟨by omega, by omega⟩]; omega, ih k (a + 1) (by rw [up_step hp h0]; omega) (by omega) (by omega), up_step hp h0]
theorem rup_f (a n : Nat) (hn : n ≤ 12) (ha : a ≤ 9223372036854775808) (k : Nat) (hk : 4200 ≤ k) : cleatref24_Up.f k (a : Int) (n : Int) = some (((upN a (2 ^ n) : Nat) : Int), 0) := by
  obtain ⟨k, rfl⟩ : ∃ j, k = j + 1 := ⟨k - 1, by omega⟩
  obtain ⟨hp, hl⟩ := p12 hn
  have h1 := up_ge a (2 ^ n)
  have h2 := up_lt a (2 ^ n) hp
  unfold cleatref24_Up.f
  rw [if_neg (by omega), decide_eq_false (by omega)]
  simp only [cleatref24_Up.j0]
  rw [if_neg (by simp), if_neg (by omega), power_f n (by omega) k (by omega), Option.bind_some]
  exact rup_l n hn (upN a (2 ^ n) - a) k a (by omega) (by omega) (by omega)
theorem rup_bad (a n : Int) (h : n < 0 ∨ 12 < n) (k : Nat) (hk : 1 ≤ k) : cleatref24_Up.f k a n = some (0, 1) := by
  obtain ⟨k, rfl⟩ : ∃ j, k = j + 1 := ⟨k - 1, by omega⟩
  unfold cleatref24_Up.f
  simp only [cleatref24_Up.j0]
  by_cases h0 : n < 0
  · rw [if_pos h0, if_pos trivial]
  · rw [if_neg h0, decide_eq_true (by omega), if_pos rfl]
theorem rup_far (a n : Int) (h : ¬ (n < 0 ∨ 12 < n)) (ha : 9223372036854775808 < a) (k : Nat) (hk : 1 ≤ k) : cleatref24_Up.f k a n = some (0, 4) := by
  obtain ⟨k, rfl⟩ : ∃ j, k = j + 1 := ⟨k - 1, by omega⟩
  unfold cleatref24_Up.f
  simp only [cleatref24_Up.j0]
  rw [if_neg (by omega), decide_eq_false (by omega), if_neg (by simp), if_pos ha]

/-! ### Lay -/
def layS : List Bk → Nat → List Int × Nat
  | [], b => ([], b)
  | x :: l, b => (((upN b (2 ^ x.f1.toNat) : Nat) : Int) :: (layS l (upN b (2 ^ x.f1.toNat) + x.f0.toNat)).1, (layS l (upN b (2 ^ x.f1.toNat) + x.f0.toNat)).2)
theorem bad_iff (x : Bk) : lBad x = false ↔ (0 ≤ x.f0 ∧ x.f0 ≤ 16384 ∧ 0 ≤ x.f1 ∧ x.f1 ≤ 12) := by
  unfold lBad
  simp only [Bool.or_eq_false_iff, decide_eq_false_iff_not]
  omega
def gd (l : List Bk) : Prop := l.any lBad = false
theorem gd_cons {x : Bk} {l : List Bk} (h : gd (x :: l)) : (0 ≤ x.f0 ∧ x.f0 ≤ 16384 ∧ 0 ≤ x.f1 ∧ x.f1 ≤ 12) ∧ gd l := by
  unfold gd at h
  rw [List.any_cons, Bool.or_eq_false_iff] at h
  exact ⟨(bad_iff x).1 h.1, h.2⟩
theorem gd_drop {l : List Bk} (h : gd l) (i : Nat) : gd (l.drop i) := by
  unfold gd at *
  rw [List.any_eq_false] at *
  intro x hx
  exact h x (List.mem_of_mem_drop hx)
theorem layS_len : ∀ (l : List Bk) (b : Nat), (layS l b).1.length = l.length
  | [], b => rfl
  | x :: l, b => by simp [layS, layS_len l]
theorem layS_app : ∀ (l m : List Bk) (b : Nat), layS (l ++ m) b = ((layS l b).1 ++ (layS m (layS l b).2).1, (layS m (layS l b).2).2)
  | [], m, b => by simp [layS]
  | x :: l, m, b => by simp [layS, layS_app l m]
theorem layS_le : ∀ (l : List Bk) (b : Nat), gd l → b ≤ (layS l b).2 ∧ (layS l b).2 ≤ b + 20480 * l.length
  | [], b, _ => by simp [layS]
  | x :: l, b, h => by
    obtain ⟨hx, hl⟩ := gd_cons h
    obtain ⟨hp, hq⟩ := p12 (n := x.f1.toNat) (by omega)
    have h1 := up_ge b (2 ^ x.f1.toNat)
    have h2 := up_lt b (2 ^ x.f1.toNat) hp
    have h3 := layS_le l (upN b (2 ^ x.f1.toNat) + x.f0.toNat) hl
    simp only [layS, List.length_cons]
    omega
theorem lay_l1 (l : List Bk) (hg : gd l) (hn : l.length ≤ 256) : ∀ (d k i b : Nat) (out : List Int), i + d = l.length → d + 1 < k → b + 20480 * d ≤ 9223372036854775808 → out.length + d ≤ 300 → place_Lay.l1 k l (b : Int) out (i : Int) = some (out ++ (layS (l.drop i) b).1, (((layS (l.drop i) b).2 : Nat) : Int), 0) := by
  intro d
  induction d with
  | zero =>
    intro k i b out hi hk hb ho
    obtain ⟨k, rfl⟩ : ∃ j, k = j + 1 := ⟨k - 1, by omega⟩
    obtain rfl : i = l.length := by omega
    simp only [place_Lay.l1]
    rw [if_neg (by omega), List.drop_length]
    simp [layS]
  | succ d ih =>
    intro k i b out hi hk hb ho
    obtain ⟨k, rfl⟩ : ∃ j, k = j + 1 := ⟨k - 1, by omega⟩
    have hil : i < l.length := by omega
    simp only [place_Lay.l1]
    have hd := List.drop_eq_getElem_cons hil
    have hgd := gd_drop hg i
    rw [if_pos (by omega), if_pos (by omega), rd_at l i hil, hd]
    rw [hd] at hgd
    obtain ⟨hx, _⟩ := gd_cons hgd
    generalize l[i] = x at *
    obtain ⟨f0, f1⟩ := x
    simp only at hx ⊢
    obtain ⟨s, rfl⟩ : ∃ s : Nat, f0 = s := ⟨f0.toNat, by omega⟩
    obtain ⟨n, rfl⟩ : ∃ n : Nat, f1 = n := ⟨f1.toNat, by omega⟩
    obtain ⟨hp, hq⟩ := p12 (n := n) (by omega)
    have h1 := up_ge b (2 ^ n)
    have h2 := up_lt b (2 ^ n) hp
    rw [up_f b n (by omega) (by omega) k (by omega), Option.bind_some]
    simp only [layS, Int.toNat_natCast]
    rw [if_pos trivial, if_pos (by omega), next_nat i (by omega), wu64_in (n := (s : Int)) ⟨by omega, by omega⟩, show ((upN b (2 ^ n) : Nat) : Int) + (s : Int) = ((upN b (2 ^ n) + s : Nat) : Int) by omega, wu64_in ⟨by omega, by omega⟩]
    rw [ih k (i + 1) _ _ (by omega) (by omega) (by omega) (by simp; omega), List.append_assoc]
    rfl
set_option maxRecDepth 50000 in
theorem rlay_l1 (l : List Bk) (hg : gd l) (hn : l.length ≤ 256) : ∀ (d k i b : Nat) (out : List Int), i + d = l.length → d + 4300 < k → b + 20480 * d ≤ 9223372036854775808 → out.length + d ≤ 300 → cleatref24_Lay.l1 k l (b : Int) out (i : Int) = some (out ++ (layS (l.drop i) b).1, (((layS (l.drop i) b).2 : Nat) : Int), 0) := by
  intro d
  induction d with
  | zero =>
    intro k i b out hi hk hb ho
    obtain ⟨k, rfl⟩ : ∃ j, k = j + 1 := ⟨k - 1, by omega⟩
    obtain rfl : i = l.length := by omega
    simp only [cleatref24_Lay.l1]
    rw [if_neg (by omega), List.drop_length]
    simp [layS]
  | succ d ih =>
    intro k i b out hi hk hb ho
    obtain ⟨k, rfl⟩ : ∃ j, k = j + 1 := ⟨k - 1, by omega⟩
    have hil : i < l.length := by omega
    simp only [cleatref24_Lay.l1]
    have hd := List.drop_eq_getElem_cons hil
    have hgd := gd_drop hg i
    rw [if_pos (by omega), if_pos (by omega), rd_at l i hil, hd]
    rw [hd] at hgd
    obtain ⟨hx, _⟩ := gd_cons hgd
    generalize l[i] = x at *
    obtain ⟨f0, f1⟩ := x
    simp only at hx ⊢
    obtain ⟨s, rfl⟩ : ∃ s : Nat, f0 = s := ⟨f0.toNat, by omega⟩
    obtain ⟨n, rfl⟩ : ∃ n : Nat, f1 = n := ⟨f1.toNat, by omega⟩
    obtain ⟨hp, hq⟩ := p12 (n := n) (by omega)
    have h1 := up_ge b (2 ^ n)
    have h2 := up_lt b (2 ^ n) hp
    rw [rup_f b n (by omega) (by omega) k (by omega), Option.bind_some]
    simp only [layS, Int.toNat_natCast]
    rw [if_pos (by omega), next_nat i (by omega), wu64_in (n := (s : Int)) ⟨by omega, by omega⟩, show ((upN b (2 ^ n) : Nat) : Int) + (s : Int) = ((upN b (2 ^ n) + s : Nat) : Int) by omega, wu64_in ⟨by omega, by omega⟩]
    rw [ih k (i + 1) _ _ (by omega) (by omega) (by omega) (by simp; omega), List.append_assoc]
    rfl
def layF (l : List Bk) (a : Nat) : List Int × Int × Int :=
  if l.any lBad = true then ([], 0, 1) else if (l.length : Int) > 256 then ([], 0, 2) else if (a : Int) > 4611686018427387904 then ([], 0, 4) else ((layS l a).1, (((layS l a).2 : Nat) : Int), 0)
theorem lay_l0 (l : List Bk) (a : Nat) (hn : l.length ≤ 300) : ∀ (d k i : Nat), i + d = l.length → d + 400 < k → l.any lBad = (l.drop i).any lBad → place_Lay.l0 k l (a : Int) (i : Int) = some (layF l a) := by
  intro d
  induction d with
  | zero =>
    intro k i hi hk hq
    obtain ⟨k, rfl⟩ : ∃ j, k = j + 1 := ⟨k - 1, by omega⟩
    obtain rfl : i = l.length := by omega
    rw [List.drop_length] at hq
    simp only [place_Lay.l0]
    rw [if_neg (by omega)]
    unfold layF
    rw [if_neg (show ¬ (l.any lBad = true) by rw [hq]; simp)]
    by_cases h1 : (l.length : Int) > 256
    · rw [if_pos h1, if_pos h1]
    · rw [if_neg h1, if_neg h1]
      by_cases h2 : (a : Int) > 4611686018427387904
      · rw [if_pos h2, if_pos h2]
      · rw [if_neg h2, if_neg h2]
        have := lay_l1 l hq (by omega) l.length k 0 a [] (by omega) (by omega) (by omega) (by simp; omega)
        simpa using this
  | succ d ih =>
    intro k i hi hk hq
    obtain ⟨k, rfl⟩ : ∃ j, k = j + 1 := ⟨k - 1, by omega⟩
    have hil : i < l.length := by omega
    simp only [place_Lay.l0]
    rw [List.drop_eq_getElem_cons hil, List.any_cons] at hq
    rw [if_pos (by omega), if_pos (by omega), rd_at l i hil]
    cases hb : lBad l[i]
    · rw [hb, Bool.false_or] at hq
      rw [if_neg (by simp), next_nat i (by omega)]
      exact ih k (i + 1) (by omega) (by omega) hq
    · rw [hb, Bool.true_or] at hq
      unfold layF
      rw [if_pos rfl, if_pos hq]
theorem lay_f (l : List Bk) (a : Nat) (hn : l.length ≤ 300) (k : Nat) (hk : 800 ≤ k) : place_Lay.f k l (a : Int) = some (layF l a) := lay_l0 l a hn l.length k 0 (by omega) (by omega) rfl
theorem ifs (x : Bk) {α : Type} (A B : α) : (if x.f0 < 0 then A else if x.f0 > 16384 then A else if x.f1 < 0 then A else if x.f1 > 12 then A else B) = if lBad x = true then A else B := by
  cases h : lBad x
  · have := (bad_iff x).1 h
    rw [if_neg (by omega), if_neg (by omega), if_neg (by omega), if_neg (by omega), if_neg (by simp)]
  · have h2 : ¬ (0 ≤ x.f0 ∧ x.f0 ≤ 16384 ∧ 0 ≤ x.f1 ∧ x.f1 ≤ 12) := fun e => by rw [(bad_iff x).2 e] at h; simp at h
    rw [if_pos rfl]
    by_cases h3 : x.f0 < 0
    · rw [if_pos h3]
    · rw [if_neg h3]
      by_cases h4 : x.f0 > 16384
      · rw [if_pos h4]
      · rw [if_neg h4]
        by_cases h5 : x.f1 < 0
        · rw [if_pos h5]
        · rw [if_neg h5, if_pos (by omega)]
set_option maxRecDepth 50000 in
theorem rlay_l0 (l : List Bk) (a : Nat) (hn : l.length ≤ 300) : ∀ (d k i : Nat), i + d = l.length → d + 4700 < k → l.any lBad = (l.drop i).any lBad → cleatref24_Lay.l0 k l (a : Int) (i : Int) = some (layF l a) := by
  intro d
  induction d with
  | zero =>
    intro k i hi hk hq
    obtain ⟨k, rfl⟩ : ∃ j, k = j + 1 := ⟨k - 1, by omega⟩
    obtain rfl : i = l.length := by omega
    rw [List.drop_length] at hq
    simp only [cleatref24_Lay.l0]
    rw [if_neg (by omega)]
    unfold layF
    rw [if_neg (show ¬ (l.any lBad = true) by rw [hq]; simp)]
    by_cases h1 : (l.length : Int) > 256
    · rw [if_pos h1, if_pos h1]
    · rw [if_neg h1, if_neg h1]
      by_cases h2 : (a : Int) > 4611686018427387904
      · rw [if_pos h2, if_pos h2]
      · rw [if_neg h2, if_neg h2]
        have := rlay_l1 l hq (by omega) l.length k 0 a [] (by omega) (by omega) (by omega) (by simp; omega)
        simpa using this
  | succ d ih =>
    intro k i hi hk hq
    obtain ⟨k, rfl⟩ : ∃ j, k = j + 1 := ⟨k - 1, by omega⟩
    have hil : i < l.length := by omega
    simp only [cleatref24_Lay.l0]
    rw [List.drop_eq_getElem_cons hil, List.any_cons] at hq
    rw [if_pos (by omega), if_pos (by omega), rd_at l i hil, ifs]
    cases hb : lBad l[i]
    · rw [hb, Bool.false_or] at hq
      rw [if_neg (by simp), next_nat i (by omega)]
      exact ih k (i + 1) (by omega) (by omega) hq
    · rw [hb, Bool.true_or] at hq
      unfold layF
      rw [if_pos rfl, if_pos hq]
theorem rlay_f (l : List Bk) (a : Nat) (hn : l.length ≤ 300) (k : Nat) (hk : 5100 ≤ k) : cleatref24_Lay.f k l (a : Int) = some (layF l a) := rlay_l0 l a hn l.length k 0 (by omega) (by omega) rfl

/-! ### Same -/
theorem same_l (l : List Int) (hn : l.length < 4611686018427387904) : ∀ (d k i : Nat), i + d = l.length → d < k → cleatref24_Same.l0 k l l (i : Int) = some true := by
  intro d
  induction d with
  | zero =>
    intro k i hi hk
    obtain ⟨k, rfl⟩ : ∃ j, k = j + 1 := ⟨k - 1, by omega⟩
    simp only [cleatref24_Same.l0]
    rw [if_neg (by omega)]
  | succ d ih =>
    intro k i hi hk
    obtain ⟨k, rfl⟩ : ∃ j, k = j + 1 := ⟨k - 1, by omega⟩
    simp only [cleatref24_Same.l0]
    rw [if_pos (by omega), if_pos (by omega), if_pos (by omega), if_pos trivial, next_nat i (by omega)]
    exact ih k (i + 1) (by omega) (by omega)
theorem same_f (l : List Int) (hn : l.length < 4611686018427387904) (k : Nat) (hk : l.length < k) : cleatref24_Same.f k l l = some true := by
  unfold cleatref24_Same.f
  rw [if_pos rfl]
  exact same_l l hn l.length k 0 (by omega) hk
theorem layF_len (l : List Bk) (a : Nat) : (layF l a).1.length ≤ l.length := by
  unfold layF
  split
  · simp
  · split
    · simp
    · split
      · simp
      · rw [layS_len]; omega
end Go.Proofs.Ytdckhlihhbobhaa.Pl
