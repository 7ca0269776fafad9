/- What is laid in two parts is as in one. No conditions. -/
import Derived.Test.YtdckhlihhbobhaaPl
import Derived.Test.YtdckhlihhbobhaaQPlaceParts
namespace Go.Proofs.Ytdckhlihhbobhaa.Pure
open Go.RowKit Go.Proofs.Ytdckhlihhbobhaa.P Go.Proofs.Ytdckhlihhbobhaa.K Go.Proofs.Ytdckhlihhbobhaa.Pl Go.Proofs.YtdckhlihhbobhaaW.PrintWords Go.Proofs.YtdckhlihhbobhaaW.PrintLast Go.Proofs.YtdckhlihhbobhaaW.PrintMore
set_option linter.unusedVariables false
set_option linter.unusedSimpArgs false
/-- Whole pages: they grow by four at most with each block. -/
theorem pages : ∀ (l : List Bk) (b : Nat), gd l → ((layS l b).2 + 4095) / 4096 ≤ (b + 4095) / 4096 + 4 * l.length
  | [], b, _ => by simp [layS]
  | x :: l, b, h => by
    obtain ⟨hx, hl⟩ := gd_cons h
    obtain ⟨hp, hq⟩ := p12 (n := x.f1.toNat) (by omega)
    have h3 := pages l (upN b (2 ^ x.f1.toNat) + x.f0.toNat) hl
    have h4 : upN b (2 ^ x.f1.toNat) ≤ (b + 4095) / 4096 * 4096 := by
      refine up_le hp ?_ (by omega)
      exact Nat.mod_eq_zero_of_dvd (Nat.dvd_trans (show 2 ^ x.f1.toNat ∣ 2 ^ 12 from Nat.pow_dvd_pow 2 (by omega)) (Nat.dvd_mul_left _ _))
    simp only [layS, List.length_cons]
    omega
theorem any_app (l m : List Bk) (h : l.any lBad = false) : (l ++ m).any lBad = m.any lBad := by rw [List.any_append, h, Bool.false_or]
theorem PlaceParts : Q.cleatlaw24_PlaceParts.Pure := by
  intro l m a hl hw hl2 hw2 ha
  replace ha := wf_u64 ha
  obtain ⟨a, rfl⟩ : ∃ x : Nat, a = x := ⟨a.toNat, by omega⟩
  refine ⟨1000, ?_⟩
  unfold cleatlaw24_PlaceParts.f
  rw [w64_in ⟨by omega, by omega⟩]
  by_cases h : (l.length : Int) + (m.length : Int) > 250
  · rw [if_pos h]
  · rw [if_neg h, lay_f l a (by omega) 1000 (by omega)]
    simp only [Option.bind_some]
    have hbad : ∀ x b e, (e = 0 → 4611686018422387904 < (a : Int)) → cleatlaw24_PlaceParts.j0 1000 l m a x b e true = some true := by
      intro x b e he
      simp only [cleatlaw24_PlaceParts.j0]
      rw [if_pos trivial, laid_t 999 (by omega)]
      simp only [Option.bind_some]
      rw [if_pos trivial]
      by_cases h0 : e = 0
      · rw [if_pos h0, decide_eq_true (he h0)]
      · rw [if_neg h0]
    unfold layF
    by_cases h1 : l.any lBad = true
    · rw [if_pos h1]
      simp only
      rw [if_neg (show ¬ ((1 : Int) = 0) by decide)]
      exact hbad _ _ _ (by simp)
    · rw [if_neg h1, if_neg (show ¬ ((l.length : Int) > 256) by omega)]
      by_cases h3 : (a : Int) > 4611686018427387904
      · rw [if_pos h3]
        simp only
        rw [if_neg (show ¬ ((4 : Int) = 0) by decide)]
        exact hbad _ _ _ (by simp)
      · rw [if_neg h3]
        simp only
        rw [if_pos trivial]
        have hg : gd l := Bool.eq_false_iff.2 h1
        have hpg := pages l a hg
        have hle := layS_le l a hg
        by_cases h4 : (((layS l a).2 : Nat) : Int) > 4611686018427387904
        · rw [decide_eq_true h4]
          exact hbad _ _ _ (fun _ => by omega)
        · rw [decide_eq_false h4]
          simp only [cleatlaw24_PlaceParts.j0]
          have hlm : ([] ++ l ++ m).length ≤ 300 := by simp; omega
          rw [if_neg (by simp), lay_f m _ (by omega) 999 (by omega), laid_t 999 (by omega)]
          simp only [Option.bind_some]
          rw [if_pos (by simp; omega), if_pos (by simp; omega), lay_f _ a hlm 999 (by omega)]
          simp only [Option.bind_some]
          have hS : layF ([] ++ l ++ m) a = if m.any lBad = true then ([], 0, 1) else ((layS l a).1 ++ (layS m (layS l a).2).1, (((layS m (layS l a).2).2 : Nat) : Int), 0) := by
            unfold layF
            rw [List.nil_append, any_app l m hg, if_neg (show ¬ (((l ++ m).length : Int) > 256) by simp; omega), if_neg h3, layS_app]
          have hM : layF m (layS l a).2 = if m.any lBad = true then ([], 0, 1) else ((layS m (layS l a).2).1, (((layS m (layS l a).2).2 : Nat) : Int), 0) := by
            unfold layF
            rw [if_neg (show ¬ ((m.length : Int) > 256) by omega), if_neg h4]
          rw [hS, hM]
          by_cases h5 : m.any lBad = true
          · simp only [if_pos h5]; rfl
          · simp only [if_neg h5]
            have hn1 := layS_len l a
            have hn2 := layS_len m (layS l a).2
            try simp only
            rw [if_pos trivial, if_pos (by simp; omega), if_pos (by simp; omega), if_pos trivial, if_pos trivial, List.nil_append, same_f _ (by simp; omega) 999 (by simp; omega)]
            simp
end Go.Proofs.Ytdckhlihhbobhaa.Pure
