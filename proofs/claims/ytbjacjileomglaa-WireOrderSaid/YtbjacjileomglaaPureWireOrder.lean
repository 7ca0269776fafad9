/- A greater number has no fewer bytes; each has as few as can be. No conditions. -/
import Derived.Test.YtbjacjileomglaaWr
import Derived.Test.YtbjacjileomglaaPx3
namespace Go.Proofs.Ytbjacjileomglaa.Pure
open Go.RowKit Go.Proofs.Ytbjacjileomglaa.P Go.Proofs.Ytbjacjileomglaa.K Go.Proofs.Ytbjacjileomglaa.Wr Go.Proofs.YtbjacjileomglaaW.PrintWords Go.Proofs.YtbjacjileomglaaW.PrintLast Go.Proofs.YtbjacjileomglaaW.PrintMore
set_option linter.unusedVariables false
set_option linter.unusedSimpArgs false
theorem len_spec : ∀ (f v : Nat), v < 128 ^ (f + 1) → v < 128 ^ (enc f v).length ∧ ((enc f v).length = 1 ∨ 128 ^ ((enc f v).length - 1) ≤ v)
  | 0, v, h => by simpa [enc] using h
  | f + 1, v, h => by
    unfold enc
    by_cases hv : 128 ≤ v
    · rw [if_pos hv]
      obtain ⟨h1, h2⟩ := len_spec f (v / 128) (by rw [Nat.div_lt_iff_lt_mul (by decide)]; rw [Nat.pow_succ] at h; exact h)
      have h3 := (enc_len f (v / 128)).2
      simp only [List.length_cons, Nat.add_sub_cancel]
      generalize (enc f (v / 128)).length = m at *
      obtain ⟨m, rfl⟩ : ∃ j, m = j + 1 := ⟨m - 1, by omega⟩
      rw [Nat.pow_succ] at h1 ⊢
      rw [Nat.pow_succ]
      simp only [Nat.add_sub_cancel] at h2
      refine ⟨by generalize 128 ^ m = p at *; omega, Or.inr ?_⟩
      rcases h2 with h2 | h2
      · obtain rfl : m = 0 := by omega
        simpa using hv
      · generalize 128 ^ m = p at *
        omega
    · rw [if_neg hv]
      simp; omega
theorem len_specE {v : Nat} (hv : v < 18446744073709551616) : v < 128 ^ (E v).length ∧ ((E v).length = 1 ∨ 128 ^ ((E v).length - 1) ≤ v) := len_spec 9 v (pow10 hv)
theorem len_mono {v w : Nat} (hv : v < 18446744073709551616) (hw : w < 18446744073709551616) (h : v ≤ w) : (E v).length ≤ (E w).length := by
  obtain ⟨h1, h2⟩ := len_specE hv
  obtain ⟨h3, h4⟩ := len_specE hw
  have h5 : 1 ≤ (E w).length := (enc_len 9 w).2
  refine Nat.le_of_not_lt fun hl => ?_
  rcases h2 with h2 | h2
  · omega
  · have := Nat.pow_le_pow_right (n := 128) (by decide) (show (E w).length ≤ (E v).length - 1 by omega)
    omega
theorem WireOrder : cleatlaw18_WireOrder.Pure := by
  intro v w hv hw
  replace hv := wf_u64 hv
  replace hw := wf_u64 hw
  obtain ⟨v, rfl⟩ : ∃ x : Nat, v = x := ⟨v.toNat, by omega⟩
  obtain ⟨w, rfl⟩ : ∃ x : Nat, w = x := ⟨w.toNat, by omega⟩
  have hv1 : v < 18446744073709551616 := by omega
  have hw1 : w < 18446744073709551616 := by omega
  refine ⟨200, ?_⟩
  unfold cleatlaw18_WireOrder.f
  rw [put_f v hv1 200 (by omega), put_f w hw1 200 (by omega)]
  simp only [Option.bind_some]
  rw [strOfNums_size, strOfNums_size, List.length_map, List.length_map]
  obtain ⟨h1, h2⟩ := len_specE hv1
  have h3 : (E v).length ≤ 9 + 1 ∧ 1 ≤ (E v).length := enc_len 9 v
  have hmono : ¬ (v : Int) > (w : Int) → ((E v).length : Int) ≤ ((E w).length : Int) := fun h => by have := len_mono hv1 hw1 (by omega); omega
  have loop : ∀ (d k n : Nat), n + d = 9 → 1 ≤ n → d + 70 < k → n ≤ (E v).length → cleatlaw18_WireOrder.l0 k (v : Int) (w : Int) ((E v).length : Int) ((E w).length : Int) ((128 ^ n : Nat) : Int) (n : Int) = some true := by
    intro d
    induction d with
    | zero =>
      intro k n hn h0 hk hle
      obtain ⟨k, rfl⟩ : ∃ j, k = j + 1 := ⟨k - 1, by omega⟩
      obtain rfl : n = 9 := by omega
      simp only [cleatlaw18_WireOrder.l0]
      rw [sent_t k (by omega)]
      simp only [Option.bind_some]
      rw [if_pos (by omega)]
      by_cases hb : (v : Int) ≥ ((128 ^ 9 : Nat) : Int)
      · have hlen : (E v).length = 10 := by
          have : (E v).length ≠ 9 := fun e => by rw [e] at h1; omega
          omega
        rw [if_pos hb, if_neg (by omega), if_pos (by omega)]
        by_cases hvw : (v : Int) > (w : Int)
        · simp [hvw, hlen]
        · have := hmono hvw
          simp [hvw, hlen] at this ⊢
          omega
      · have hlen : (E v).length = 9 := by
          rcases h2 with h2 | h2
          · omega
          · refine Nat.le_antisymm (Nat.le_of_not_lt fun hl => ?_) hle
            have := Nat.pow_le_pow_right (n := 128) (by decide) (show 9 ≤ (E v).length - 1 by omega)
            omega
        rw [if_neg hb]
        by_cases hvw : (v : Int) > (w : Int)
        · simp [hvw, hlen]
        · have := hmono hvw
          simp [hvw, hlen] at this ⊢
          omega
    | succ d ih =>
      intro k n hn h0 hk hle
      obtain ⟨k, rfl⟩ : ∃ j, k = j + 1 := ⟨k - 1, by omega⟩
      simp only [cleatlaw18_WireOrder.l0]
      rw [sent_t k (by omega)]
      simp only [Option.bind_some]
      rw [if_pos (by omega)]
      by_cases hb : (v : Int) ≥ ((128 ^ n : Nat) : Int)
      · have hlen : (E v).length ≠ n := fun e => by rw [e] at h1; omega
        have hp : 128 ^ (n + 1) ≤ 128 ^ 9 := Nat.pow_le_pow_right (n := 128) (by decide) (by omega)
        have e : IntKind.u64.wrap (128 * ((128 ^ n : Nat) : Int)) = ((128 ^ (n + 1) : Nat) : Int) := by
          rw [Nat.pow_succ] at hp ⊢
          generalize 128 ^ n = p at *
          rw [wu64_in ⟨by omega, by omega⟩]; omega
        rw [if_pos hb, if_pos (by omega), e, next_nat n (by omega)]
        exact ih k (n + 1) (by omega) (by omega) (by omega) (by omega)
      · have hlen : (E v).length = n := by
          rcases h2 with h2 | h2
          · omega
          · refine Nat.le_antisymm (Nat.le_of_not_lt fun hl => ?_) hle
            have := Nat.pow_le_pow_right (n := 128) (by decide) (show n ≤ (E v).length - 1 by omega)
            omega
        rw [if_neg hb, if_neg (show ¬ ((n : Int) = 9) by omega)]
        by_cases hvw : (v : Int) > (w : Int)
        · simp [hvw, hlen]
          rw [if_pos (by omega), decide_eq_true (by omega)]
        · have := hmono hvw
          simp [hvw, hlen] at this ⊢
          repeat (first | rw [if_pos (by omega)] | rw [decide_eq_true (by omega)])
  have := loop 8 200 1 (by omega) (by omega) (by omega) (by omega)
  simpa using this
end Go.Proofs.Ytbjacjileomglaa.Pure
