/- Options are good, or not, numbers are rounded up, and blocks are laid or refused, as the reference says. No conditions. -/
import Derived.Test.YtdckhlihhbobhaaPl
import Derived.Test.YtdckhlihhbobhaaQPlaceDoes
import Derived.Test.YtdckhlihhbobhaaPx2
import Derived.Test.YtdckhlihhbobhaaPx3
import Derived.Test.YtdckhlihhbobhaaPx6
import Derived.Test.YtdckhlihhbobhaaPx7
namespace Go.Proofs.Ytdckhlihhbobhaa.Pure
open Go.RowKit Go.Proofs.Ytdckhlihhbobhaa.P Go.Proofs.Ytdckhlihhbobhaa.K Go.Proofs.Ytdckhlihhbobhaa.Pl Go.Proofs.YtdckhlihhbobhaaW.PrintWords Go.Proofs.YtdckhlihhbobhaaW.PrintLast Go.Proofs.YtdckhlihhbobhaaW.PrintMore
set_option linter.unusedVariables false
set_option linter.unusedSimpArgs false
theorem even_same (a : Int) : cleatref24_even.f a = some (gEven a) := by
  unfold cleatref24_even.f gEven
  by_cases h : Int.tmod a 4096 = 0
  · rw [if_pos h, h]
    by_cases h2 : a ≤ 2305843009213693952
    · rw [decide_eq_true h2, decide_eq_false (by omega)]; rfl
    · rw [decide_eq_false h2, decide_eq_true (by omega)]; rfl
  · rw [if_neg h, show (Int.tmod a 4096 != 0) = true from bne_iff_ne.2 h]; rfl
theorem apart_same (a b : Int) : cleatref24_apart.f a b = some (gApart b a) := by
  unfold cleatref24_apart.f gApart mx mn
  by_cases h : a < b
  · rw [if_pos h, if_neg (by omega), if_pos h]
    by_cases h2 : IntKind.u64.wrap (b - a) ≥ 16777216
    · rw [decide_eq_true h2, decide_eq_false (by omega)]; rfl
    · rw [decide_eq_false h2, decide_eq_true (by omega)]; rfl
  · rw [if_neg h]
    have e : (if b < a then a else b) = a := by split <;> omega
    rw [e, if_neg h]
    by_cases h2 : IntKind.u64.wrap (a - b) ≥ 16777216
    · rw [decide_eq_true h2, decide_eq_false (by omega)]; rfl
    · rw [decide_eq_false h2, decide_eq_true (by omega)]; rfl
theorem good_same (a b c d : Int) : cleatref24_Good.f a b c d = place_Good.f a b c d := by
  unfold cleatref24_Good.f place_Good.f
  simp only [even_same, apart_same, Option.bind_some]
  generalize gEven a = p1
  generalize gEven b = p2
  generalize gEven c = p3
  generalize gApart b a = p4
  generalize gApart c a = p5
  generalize gApart c b = p6
  by_cases h : Int.tmod d 4 = 0
  · rw [if_pos h, show (Int.tmod d 4 == 0) = true from beq_iff_eq.2 h]
    by_cases h2 : d ≥ 8192
    · rw [if_pos h2, decide_eq_true h2]
      generalize decide (d ≤ 134217724) = p7
      revert p1 p2 p3 p4 p5 p6 p7
      decide
    · rw [if_neg h2, decide_eq_false h2]
      generalize decide (d ≤ 134217724) = p7
      revert p1 p2 p3 p4 p5 p6 p7
      decide
  · rw [if_neg h, show (Int.tmod d 4 == 0) = false from beq_eq_false_iff_ne.2 h]
    generalize decide (d ≤ 134217724) = p7
    generalize decide (8192 ≤ d) = p8
    revert p1 p2 p3 p4 p5 p6 p7 p8
    decide
theorem up_same (a n : Int) (ha : 0 ≤ a) : ∃ r, place_Up.f 6000 a n = some r ∧ cleatref24_Up.f 6000 a n = some r := by
  by_cases h1 : n < 0 ∨ 12 < n
  · exact ⟨_, up_bad a n h1 _ (by omega), rup_bad a n h1 _ (by omega)⟩
  · by_cases h2 : 9223372036854775808 < a
    · exact ⟨_, up_far a n h1 h2 _ (by omega), rup_far a n h1 h2 _ (by omega)⟩
    · obtain ⟨a, rfl⟩ : ∃ x : Nat, a = x := ⟨a.toNat, by omega⟩
      obtain ⟨n, rfl⟩ : ∃ x : Nat, n = x := ⟨n.toNat, by omega⟩
      exact ⟨_, up_f a n (by omega) (by omega) _ (by omega), rup_f a n (by omega) (by omega) _ (by omega)⟩
theorem PlaceDoes : Q.cleatlaw24_PlaceDoes.Pure := by
  intro o0 o1 o2 o3 a n l b h0 h1 h2 h3 ha hn hl hw hb
  replace ha := wf_u64 ha
  replace hb := wf_u64 hb
  obtain ⟨b, rfl⟩ : ∃ x : Nat, b = x := ⟨b.toNat, by omega⟩
  refine ⟨6000, ?_⟩
  unfold cleatlaw24_PlaceDoes.f
  by_cases h : (l.length : Int) > 300
  · rw [if_pos h]
  · rw [if_neg h]
    obtain ⟨r, e1, e2⟩ := up_same a n ha.1
    have e3 : cleatref24_Own.f l = some l := by
      unfold cleatref24_Own.f
      rw [if_pos (by simp; omega)]
      rfl
    rw [e1, e2, e3, lay_f l b (by omega) 6000 (by omega)]
    simp only [Option.bind_some]
    rw [rlay_f l b (by omega) 6000 (by omega)]
    simp only [Option.bind_some]
    have hlen := layF_len l b
    generalize layF l b = t at *
    obtain ⟨v, hv⟩ : ∃ v, place_Good.f o0 o1 o2 o3 = some v := ⟨_, rfl⟩
    have loop : ∀ (d k i : Nat), i + d = l.length → d + 400 < k → cleatlaw24_PlaceDoes.l0 k l l r.1 r.2 r.1 r.2 t.1 t.2.1 t.2.2 t.1 t.2.1 t.2.2 (i : Int) o0 o1 o2 o3 = some true := by
      intro d
      induction d with
      | zero =>
        intro k i hi hk
        obtain ⟨k, rfl⟩ : ∃ j, k = j + 1 := ⟨k - 1, by omega⟩
        simp only [cleatlaw24_PlaceDoes.l0]
        rw [if_neg (by omega), laid_t k (by omega), good_same, hv, same_f t.1 (by omega) k (by omega)]
        simp
      | succ d ih =>
        intro k i hi hk
        obtain ⟨k, rfl⟩ : ∃ j, k = j + 1 := ⟨k - 1, by omega⟩
        simp only [cleatlaw24_PlaceDoes.l0]
        rw [if_pos (by omega), if_pos (by omega), if_pos (by omega), next_nat i (by omega), ih k (i + 1) (by omega) (by omega)]
        simp
    exact loop l.length 6000 0 (by omega) (by omega)
end Go.Proofs.Ytdckhlihhbobhaa.Pure
