/- Each field of a word that was made of fields reads as it was put; a word is made of three fields that are all of it. No conditions. -/
import Derived.Test.YthhknfbpfdmggaaBx
import Derived.Test.YthhknfbpfdmggaaQBitsBack
import Derived.Test.YthhknfbpfdmggaaPx4
import Derived.Test.YthhknfbpfdmggaaPx8
namespace Go.Proofs.Ythhknfbpfdmggaa.Pure
open Go.RowKit Go.Proofs.Ythhknfbpfdmggaa.P Go.Proofs.Ythhknfbpfdmggaa.K Go.Proofs.Ythhknfbpfdmggaa.B Go.Proofs.Ythhknfbpfdmggaa.Q Go.Proofs.YthhknfbpfdmggaaW.PrintWords Go.Proofs.YthhknfbpfdmggaaW.PrintLast Go.Proofs.YthhknfbpfdmggaaW.PrintMore
theorem told_k (k : Nat) (hk : 400 ≤ k) : cleatlaw01_told.f k = some true := at_rounds cleatlaw01_told.mono hk (by decide +kernel)
theorem back_j2t (k : Nat) (hk : 401 ≤ k) (w a n : Int) : cleatlaw01_BitsBack.j2 k w a n true = some true := by
  obtain ⟨k, rfl⟩ : ∃ m, k = m + 1 := ⟨k - 1, by omega⟩
  simp only [cleatlaw01_BitsBack.j2]
  rw [if_pos trivial, told_k k (by omega)]; rfl
theorem three (w a n : Nat) (hw : w < 4294967296) (h1 : a + n < 32) : w % 2 ^ a * 2 ^ 0 + (w / 2 ^ a % 2 ^ n * 2 ^ a + (w / 2 ^ (a + n) % 2 ^ (32 - a - n) * 2 ^ (a + n) + 0)) = w := by
  have e1 : w / 2 ^ (a + n) % 2 ^ (32 - a - n) = w / 2 ^ (a + n) := by
    apply Nat.mod_eq_of_lt
    rw [Nat.div_lt_iff_lt_mul (Nat.two_pow_pos _), ← Nat.pow_add, show 32 - a - n + (a + n) = 32 by omega]
    exact hw
  rw [e1, Nat.pow_zero, Nat.mul_one, Nat.add_zero, Nat.pow_add, ← Nat.div_div_eq_div_mul]
  have h2 := Nat.div_add_mod (w / 2 ^ a) (2 ^ n)
  have h3 := Nat.div_add_mod w (2 ^ a)
  generalize w / 2 ^ a = q at *
  generalize hA : 2 ^ a = A at *
  generalize hB : 2 ^ n = B at *
  have h4 : q / B * (A * B) + q % B * A = q * A := by
    rw [← Nat.mul_assoc, Nat.mul_right_comm, ← Nat.add_mul, Nat.mul_comm (q / B) B, h2]
  have h5 : q * A = A * q := Nat.mul_comm _ _
  omega
theorem back_j2f (k : Nat) (hk : 402 ≤ k) (w a n : Nat) (hw : w < 4294967296) (ha : 1 ≤ a) (hn : 1 ≤ n) (h1 : a + n < 32) : cleatlaw01_BitsBack.j2 k w a n false = some true := by
  obtain ⟨k, rfl⟩ : ∃ m, k = m + 1 := ⟨k - 1, by omega⟩
  simp only [cleatlaw01_BitsBack.j2]
  rw [if_neg (by simp)]
  rw [show bits_Field.f (w : Int) 0 (a : Int) = some (((w / 2 ^ 0 % 2 ^ a : Nat) : Int), 0) from field_ok w 0 a hw ha (by omega), Option.bind_some, field_ok w a n hw hn (by omega), Option.bind_some]
  rw [show wrap64 ((a : Int) + (n : Int)) = ((a + n : Nat) : Int) by rw [w64_in ⟨by omega, by omega⟩]; omega]
  rw [show wrap64 (wrap64 (32 - (a : Int)) - (n : Int)) = ((32 - a - n : Nat) : Int) by rw [w64_in (n := 32 - (a : Int)) ⟨by omega, by omega⟩, w64_in ⟨by omega, by omega⟩]; omega]
  rw [field_ok w (a + n) (32 - a - n) hw (by omega) (by omega), Option.bind_some]
  have b0 : w / 2 ^ 0 % 2 ^ a < 2 ^ a := Nat.mod_lt _ (Nat.two_pow_pos _)
  have b1 : w / 2 ^ a % 2 ^ n < 2 ^ n := Nat.mod_lt _ (Nat.two_pow_pos _)
  have b2 : w / 2 ^ (a + n) % 2 ^ (32 - a - n) < 2 ^ (32 - a - n) := Nat.mod_lt _ (Nat.two_pow_pos _)
  have p0 := pow_le32 (show a ≤ 32 by omega)
  have p1 := pow_le32 (show n ≤ 32 by omega)
  have p2 := pow_le32 (show 32 - a - n ≤ 32 by omega)
  generalize hl : ([(⟨0, (a : Int), ((w / 2 ^ 0 % 2 ^ a : Nat) : Int)⟩ : Fdx), (⟨(a : Int), (n : Int), ((w / 2 ^ a % 2 ^ n : Nat) : Int)⟩ : Fdx), (⟨((a + n : Nat) : Int), ((32 - a - n : Nat) : Int), ((w / 2 ^ (a + n) % 2 ^ (32 - a - n) : Nat) : Int)⟩ : Fdx)] : List Fdx) = l
  have hwf : ∀ x ∈ l, Wf x := by
    subst hl
    intro x hx
    simp only [List.mem_cons, List.not_mem_nil, or_false] at hx
    rcases hx with rfl | rfl | rfl <;> (unfold Wf; dsimp only; omega)
  have hlen : l.length = 3 := by subst hl; rfl
  have hap : apart 0 l = true := by
    have key : ∀ (x y : Fdx), (∀ j, ¬ (Cov x j ∧ Cov y j)) → fmask x &&& fmask y = 0 := by
      intro x y h
      apply Nat.eq_of_testBit_eq
      intro j
      rw [Nat.testBit_and, fmask_bit, fmask_bit, Nat.zero_testBit, ← Bool.decide_and]
      exact decide_eq_false (h j)
    subst hl
    simp only [apart, Nat.zero_and, Nat.zero_or]
    rw [decide_eq_true (by unfold Fok; dsimp only; omega), decide_eq_true (by unfold Fok; dsimp only; omega), decide_eq_true (by unfold Fok; dsimp only; omega)]
    have or_and : ∀ x y z : Nat, x &&& z = 0 → y &&& z = 0 → (x ||| y) &&& z = 0 := by
      intro x y z h1 h2
      rw [Nat.and_comm, Nat.and_or_distrib_left, Nat.and_comm z x, Nat.and_comm z y, h1, h2]; rfl
    rw [key _ _ (fun j h => by have h1 := h.1; have h2 := h.2; unfold Cov at h1 h2; dsimp only at h1 h2; omega)]
    rw [or_and _ _ _ (key _ _ (fun j h => by have h1 := h.1; have h2 := h.2; unfold Cov at h1 h2; dsimp only at h1 h2; omega)) (key _ _ (fun j h => by have h1 := h.1; have h2 := h.2; unfold Cov at h1 h2; dsimp only at h1 h2; omega))]
    rfl
  have hfit : l.all fit = true := by
    subst hl
    simp only [List.all_cons, List.all_nil, fit, Int.toNat_natCast]
    rw [decide_eq_true b0, decide_eq_true b1, decide_eq_true b2]; rfl
  have hsum : sumF l = w := by
    subst hl
    simp only [sumF, List.map_cons, List.map_nil, List.sum_cons, List.sum_nil, Int.toNat_natCast]
    have := three w a n hw h1
    rw [Nat.pow_zero, Nat.div_one]
    exact this
  rw [word_f l (by omega) hwf k (by omega), Option.bind_some, told_k k (by omega), Option.bind_some, if_pos rfl, if_pos rfl, if_pos rfl, if_pos rfl]
  unfold wordZ
  rw [if_pos hap, if_pos hfit, hsum, if_pos rfl]
  simp
theorem back_tail (k : Nat) (hk : 403 ≤ k) (l : List Fdx) (w : Nat) (a n : Int) (hw : w < 4294967296) (ha : -9223372036854775808 ≤ a ∧ a ≤ 9223372036854775807) (c e i : Int) :
    cleatlaw01_BitsBack.j1 k l w a n c e i false = some true := by
  obtain ⟨k, rfl⟩ : ∃ m, k = m + 1 := ⟨k - 1, by omega⟩
  simp only [cleatlaw01_BitsBack.j1]
  rw [if_neg (by simp)]
  by_cases h1 : a < 1
  · rw [if_pos h1]; exact back_j2t k (by omega) _ _ _
  · rw [if_neg h1]
    by_cases h2 : a > 30
    · rw [if_pos h2]; exact back_j2t k (by omega) _ _ _
    · rw [if_neg h2]
      by_cases h3 : n < 1
      · rw [if_pos h3]; exact back_j2t k (by omega) _ _ _
      · rw [if_neg h3, w64_in ⟨by omega, by omega⟩]
        by_cases h4 : n > 31 - a
        · rw [decide_eq_true h4]; exact back_j2t k (by omega) _ _ _
        · rw [decide_eq_false h4]
          obtain ⟨a, rfl⟩ := Int.eq_ofNat_of_zero_le (show 0 ≤ a by omega)
          obtain ⟨n, rfl⟩ := Int.eq_ofNat_of_zero_le (show 0 ≤ n by omega)
          exact back_j2f k (by omega) w a n hw (by omega) (by omega) (by omega)
theorem back_l (l : List Fdx) (hl : l.length ≤ 40) (hwf : ∀ x ∈ l, Wf x) (w : Nat) (a n : Int) (hw : w < 4294967296) (ha : -9223372036854775808 ≤ a ∧ a ≤ 9223372036854775807) :
    ∀ (d k i : Nat), i + d = l.length → 2 * d + 405 < k → cleatlaw01_BitsBack.l0 k l w a n (wordZ l).1 (wordZ l).2 i = some true := by
  intro d
  induction d with
  | zero =>
    intro k i hi hk
    obtain ⟨k, rfl⟩ : ∃ m, k = m + 1 := ⟨k - 1, by omega⟩
    simp only [cleatlaw01_BitsBack.l0]
    rw [if_neg (by omega)]
    exact back_tail k (by omega) l w a n hw ha _ _ _
  | succ d ih =>
    intro k i hi hk
    obtain ⟨k, rfl⟩ : ∃ m, k = m + 1 := ⟨k - 1, by omega⟩
    have hil : i < l.length := by omega
    simp only [cleatlaw01_BitsBack.l0]
    rw [if_pos (by omega)]
    by_cases he : (wordZ l).2 = 0
    · rw [beq_iff_eq.2 he]
      obtain ⟨k, rfl⟩ : ∃ m, k = m + 1 := ⟨k - 1, by omega⟩
      simp only [cleatlaw01_BitsBack.j1]
      rw [if_pos trivial, if_pos (by omega), if_pos (by omega), rd_at l i hil]
      have hx : l[i] ∈ l := List.getElem_mem hil
      generalize l[i] = x at *
      have hap : apart 0 l = true := by
        cases h : apart 0 l
        · unfold wordZ at he; rw [h] at he; simp at he
        · rfl
      have hfit : l.all fit = true := by
        cases h : l.all fit
        · unfold wordZ at he; rw [if_pos hap, h] at he; simp at he
        · rfl
      have hz : wordZ l = (((sumF l : Nat) : Int), 0) := by unfold wordZ; rw [if_pos hap, if_pos hfit]
      have hf := (apart_mem hap x hx).2
      unfold Fok at hf
      have h2 := hwf x hx
      unfold Wf at h2
      have hfw := field_word hap hfit x hx
      have hlt := (sum_bits hap hfit).1
      rw [hz]
      have e := field_ok (sumF l) x.f0.toNat x.f1.toNat hlt (by omega) (by omega)
      rw [show ((x.f0.toNat : Nat) : Int) = x.f0 by omega, show ((x.f1.toNat : Nat) : Int) = x.f1 by omega, hfw, show ((x.f2.toNat : Nat) : Int) = x.f2 by omega] at e
      dsimp only
      rw [e, Option.bind_some, if_pos rfl, if_pos rfl, show wrap64 ((i : Int) + 1) = ((i + 1 : Nat) : Int) by rw [w64_in ⟨by omega, by omega⟩]; omega]
      have := ih k (i + 1) (by omega) (by omega)
      rwa [hz] at this
    · rw [beq_eq_false_iff_ne.2 he]
      exact back_tail k (by omega) l w a n hw ha _ _ _
theorem BitsBack : cleatlaw01_BitsBack.Pure := by
  intro l w a n _ hl hw ha hn
  refine ⟨2000, ?_⟩
  have hwf : ∀ x ∈ l, Wf x := fun x hx => ⟨wf_i64 (hl x hx).1, wf_i64 (hl x hx).2.1, wf_u32 (hl x hx).2.2⟩
  unfold cleatlaw01_BitsBack.f
  by_cases h : (l.length : Int) > 40
  · rw [if_pos h]
  · rw [if_neg h, word_f l (by omega) hwf 2000 (by omega), Option.bind_some]
    have hw2 := wf_u32 hw
    obtain ⟨w, rfl⟩ := Int.eq_ofNat_of_zero_le hw2.1
    exact back_l l (by omega) hwf w a n (by omega) (wf_i64 ha) l.length 2000 0 (by omega) (by omega)
end Go.Proofs.Ythhknfbpfdmggaa.Pure
