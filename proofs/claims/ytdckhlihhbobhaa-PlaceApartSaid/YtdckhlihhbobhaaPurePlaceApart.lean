/- Blocks are aligned, do not overlap, and between two is less than the second one's alignment. No conditions. -/
import Derived.Test.YtdckhlihhbobhaaPl
import Derived.Test.YtdckhlihhbobhaaQPlaceApart
namespace Go.Proofs.Ytdckhlihhbobhaa.Pure
open Go.RowKit Go.Proofs.Ytdckhlihhbobhaa.P Go.Proofs.Ytdckhlihhbobhaa.K Go.Proofs.Ytdckhlihhbobhaa.Pl Go.Proofs.YtdckhlihhbobhaaW.PrintWords Go.Proofs.YtdckhlihhbobhaaW.PrintLast Go.Proofs.YtdckhlihhbobhaaW.PrintMore
set_option linter.unusedVariables false
set_option linter.unusedSimpArgs false
theorem apart_l (l : List Bk) (hg : gd l) (hn : l.length ≤ 256) (x : List Int) (en : Nat) : ∀ (d k i b : Nat), i + d = l.length → d + 40 < k → b + 20480 * d ≤ 9223372036854775808 → x.length = l.length → x.drop i = (layS (l.drop i) b).1 → (layS (l.drop i) b).2 = en → cleatlaw24_PlaceApart.l0 k l x (en : Int) (b : Int) (i : Int) = some true := by
  intro d
  induction d with
  | zero =>
    intro k i b hi hk hb hx he hq
    obtain ⟨k, rfl⟩ : ∃ j, k = j + 1 := ⟨k - 1, by omega⟩
    obtain rfl : i = l.length := by omega
    rw [List.drop_length] at hq
    simp only [layS] at hq
    simp only [cleatlaw24_PlaceApart.l0]
    rw [if_neg (by omega), laid_t k (by omega)]
    simp [hq]
  | succ d ih =>
    intro k i b hi hk hb hx he hq
    obtain ⟨k, rfl⟩ : ∃ j, k = j + 1 := ⟨k - 1, by omega⟩
    have hil : i < l.length := by omega
    have hix : i < x.length := by omega
    simp only [cleatlaw24_PlaceApart.l0]
    have hd := List.drop_eq_getElem_cons hil
    have hgd := gd_drop hg i
    rw [hd] at he hq hgd
    rw [List.drop_eq_getElem_cons hix] at he
    rw [if_pos (by omega), if_pos (by omega), rd_at l i hil, rdi_at x i hix]
    obtain ⟨hb0, _⟩ := gd_cons hgd
    generalize l[i] = y at *
    obtain ⟨f0, f1⟩ := y
    simp only at hb0
    obtain ⟨s, rfl⟩ : ∃ s : Nat, f0 = s := ⟨f0.toNat, by omega⟩
    obtain ⟨n, rfl⟩ : ∃ n : Nat, f1 = n := ⟨f1.toNat, by omega⟩
    obtain ⟨hp, hl⟩ := p12 (n := n) (by omega)
    have h1 := up_ge b (2 ^ n)
    have h2 := up_lt b (2 ^ n) hp
    have h3 := up_mod b (2 ^ n) hp
    simp only [layS, Int.toNat_natCast, List.cons.injEq] at he hq
    obtain ⟨e0, e1⟩ := he
    rw [e0]
    simp only
    rw [if_pos (by omega), if_pos (by omega), if_neg (by omega), shl64_one n (by omega), wu64_in (n := ((upN b (2 ^ n) : Nat) : Int) - b) ⟨by omega, by omega⟩, if_neg (by omega), if_neg (by omega), tmod_nat, h3, if_pos (by rfl), next_nat i (by omega), wu64_in (n := (s : Int)) ⟨by omega, by omega⟩, show ((upN b (2 ^ n) : Nat) : Int) + (s : Int) = ((upN b (2 ^ n) + s : Nat) : Int) by omega, wu64_in ⟨by omega, by omega⟩]
    exact ih k (i + 1) _ (by omega) (by omega) (by omega) hx e1 hq
theorem PlaceApart : Q.cleatlaw24_PlaceApart.Pure := by
  intro l a hl hw ha
  replace ha := wf_u64 ha
  obtain ⟨a, rfl⟩ : ∃ x : Nat, a = x := ⟨a.toNat, by omega⟩
  refine ⟨1000, ?_⟩
  unfold cleatlaw24_PlaceApart.f
  by_cases h : (l.length : Int) > 300
  · rw [if_pos h]
  · rw [if_neg h, lay_f l a (by omega) 1000 (by omega), laid_t 1000 (by omega)]
    simp only [Option.bind_some]
    unfold layF
    by_cases h1 : l.any lBad = true
    · rw [if_pos h1]; rfl
    · rw [if_neg h1]
      by_cases h2 : (l.length : Int) > 256
      · rw [if_pos h2]; rfl
      · rw [if_neg h2]
        by_cases h3 : (a : Int) > 4611686018427387904
        · rw [if_pos h3]; rfl
        · rw [if_neg h3]
          simp only
          rw [if_pos trivial, layS_len, if_pos rfl]
          exact apart_l l (Bool.eq_false_iff.2 h1) (by omega) _ _ l.length 1000 0 a (by omega) (by omega) (by omega) (layS_len _ _) rfl rfl
end Go.Proofs.Ytdckhlihhbobhaa.Pure
