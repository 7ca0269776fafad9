/- What is split off stands ahead of what is left, which has no label ahead; a label more is one more: the plain half. No conditions. -/
import Derived.Test.YtmolcgkahhdkgaaDoorQLocalSplits
import Derived.Test.YtmolcgkahhdkgaaDoorLc1
import Derived.Test.YtmolcgkahhdkgaaDoorPx10
namespace Go.Proofs.YtmolcgkahhdkgaaDoor.Pure
open Go.Lib Go.RowKit Go.Proofs.YtmolcgkahhdkgaaDoor.P Go.Proofs.YtmolcgkahhdkgaaDoor.Q Go.Proofs.YtmolcgkahhdkgaaDoorW.PrintWords Go.Proofs.YtmolcgkahhdkgaaDoorW.PrintLast Go.Proofs.YtmolcgkahhdkgaaDoorW.PrintMore
set_option linter.unusedVariables false
abbrev Tk : Type := S30
theorem toks_at {l : List Tk} {i : Nat} {t : Tk} (h : l[i]? = some t) (z : Int) (hz : z = (i : Int)) : rd_T30 l z = t := by
 subst hz
 unfold rd_T30
 rw [List.getD_eq_getElem?_getD, Int.toNat_natCast, h]
 rfl
theorem texts_at {l : List ByteArray} {i : Nat} {t : ByteArray} (h : l[i]? = some t) (z : Int) (hz : z = (i : Int)) : rdOf ByteArray.empty l z = t := by
 subst hz
 unfold rdOf
 rw [List.getD_eq_getElem?_getD, Int.toNat_natCast, h]
 rfl
theorem split_f (l : List Tk) (h : l.length ≤ 1000000) : local_Split.f l = some (splitA l []) := by unfold local_Split.f; rw [if_pos h]
theorem splits_j3 (l : List Tk) (s : ByteArray) (a : List ByteArray) (x : List Tk) (hl : l.length ≤ 60) (hs : ∀ T, splitA l T = (T ++ a, x, 0)) (h1 : 2 * a.length + x.length = l.length) (h2 : l.drop (2 * a.length) = x) (h3 : ∀ i, i < a.length → ∃ t c, l[2 * i]? = some t ∧ l[2 * i + 1]? = some c ∧ a[i]? = some t.f1 ∧ c.f1.toList = [58]) (h4 : ∀ T, splitA x T = (T, x, 0)) (k : Nat) (b : Bool) (hb : b = !nameB s) : cleatlaw14_LocalSplits.j3 (k + 1) l s a x [] x 0 b = some true := by
 simp only [cleatlaw14_LocalSplits.j3]
 have hlb : cleatlaw14_labeled.f = some true := rfl
 rw [hlb, Option.bind_some, Option.bind_some, if_pos rfl]
 cases hn : nameB s
 ·rw [hn] at hb
  rw [if_pos (show b = true by rw [hb]; rfl)]
  simp
 ·rw [hn] at hb
  rw [if_neg (by rw [hb]; decide), if_pos (by simp; omega), split_f _ (by simp; omega)]
  have hd : headB (⟨1, s, 0⟩ : Tk) (⟨4, ⟨#[58]⟩, 0⟩ : Tk) = true := by
   unfold headB
   rw [ByteArray.toList_eq]
   rfl
  have e : splitA (([(⟨1, s, 0⟩ : Tk), (⟨4, ⟨#[58]⟩, 0⟩ : Tk)] : List Tk) ++ l) [] = (s :: a, x, 0) := by
   show splitA ((⟨1, s, 0⟩ : Tk) :: (⟨4, ⟨#[58]⟩, 0⟩ : Tk) :: l) [] = _
   rw [splitA_more hd (by unfold labT; rw [if_pos rfl]; exact hn), hs]
   rfl
  rw [e, Option.bind_some, Option.bind_some]
  have hw : wrap64 ((a.length : Int) + 1) = (a.length : Int) + 1 := by unfold wrap64; omega
  simp only [List.length_cons]
  rw [if_pos trivial, if_pos trivial, hw, if_pos (by omega), if_pos (by omega), texts_at (i := 0) (t := s) rfl 0 rfl, if_pos rfl]
  simp
theorem splits_l1 (l : List Tk) (s : ByteArray) (a : List ByteArray) (x : List Tk) (hl : l.length ≤ 60) (hs : ∀ T, splitA l T = (T ++ a, x, 0)) (h1 : 2 * a.length + x.length = l.length) (h2 : l.drop (2 * a.length) = x) (h3 : ∀ i, i < a.length → ∃ t c, l[2 * i]? = some t ∧ l[2 * i + 1]? = some c ∧ a[i]? = some t.f1 ∧ c.f1.toList = [58]) (h4 : ∀ T, splitA x T = (T, x, 0)) (d : Nat) : ∀ (k i : Nat), x.length - i = d → d + 2 < k → i ≤ x.length → cleatlaw14_LocalSplits.l1 k l s a x (i : Int) = some true := by
 have hw : wrap64 (2 * (a.length : Int)) = 2 * (a.length : Int) := by unfold wrap64; omega
 induction d with
 | zero =>
  intro k i g1 g2 g3
  obtain ⟨k, rfl⟩ : ∃ m, k = m + 2 := ⟨k - 2, by omega⟩
  simp only [cleatlaw14_LocalSplits.l1]
  rw [if_neg (by omega), split_f x (by omega), h4, Option.bind_some]
  simp only
  rw [if_pos trivial, if_pos (by simp), if_pos trivial, name_f k s, Option.bind_some]
  exact splits_j3 l s a x hl hs h1 h2 h3 h4 k _ rfl
 | succ d ih =>
  intro k i g1 g2 g3
  obtain ⟨k, rfl⟩ : ∃ m, k = m + 1 := ⟨k - 1, by omega⟩
  have hi : i < x.length := by omega
  have hwi : wrap64 ((i : Int) + 1) = ((i + 1 : Nat) : Int) := by unfold wrap64; omega
  have hw2 : wrap64 (2 * (a.length : Int) + (i : Int)) = 2 * (a.length : Int) + (i : Int) := by unfold wrap64; omega
  have hx : x[i]? = some (x[i]'hi) := List.getElem?_eq_getElem hi
  have hlx : l[2 * a.length + i]? = some (x[i]'hi) := by rw [← List.getElem?_drop, h2]; exact hx
  simp only [cleatlaw14_LocalSplits.l1]
  rw [if_pos (by omega), hw, hw2, if_pos (by omega), if_pos (by omega), if_pos (by omega), toks_at hlx _ (by omega), toks_at hx _ rfl, hwi, ih k (i + 1) (by omega) (by omega) (by omega)]
  simp
theorem splits_l0 (l : List Tk) (s : ByteArray) (a : List ByteArray) (x : List Tk) (hl : l.length ≤ 60) (hs : ∀ T, splitA l T = (T ++ a, x, 0)) (h1 : 2 * a.length + x.length = l.length) (h2 : l.drop (2 * a.length) = x) (h3 : ∀ i, i < a.length → ∃ t c, l[2 * i]? = some t ∧ l[2 * i + 1]? = some c ∧ a[i]? = some t.f1 ∧ c.f1.toList = [58]) (h4 : ∀ T, splitA x T = (T, x, 0)) (d : Nat) : ∀ (k i : Nat), a.length - i = d → d + x.length + 3 < k → i ≤ a.length → cleatlaw14_LocalSplits.l0 k l s a x (i : Int) = some true := by
 induction d with
 | zero =>
  intro k i g1 g2 g3
  obtain ⟨k, rfl⟩ : ∃ m, k = m + 1 := ⟨k - 1, by omega⟩
  simp only [cleatlaw14_LocalSplits.l0]
  rw [if_neg (by omega)]
  exact splits_l1 l s a x hl hs h1 h2 h3 h4 x.length k 0 rfl (by omega) (Nat.zero_le _)
 | succ d ih =>
  intro k i g1 g2 g3
  obtain ⟨k, rfl⟩ : ∃ m, k = m + 1 := ⟨k - 1, by omega⟩
  have hi : i < a.length := by omega
  obtain ⟨t, c, e1, e2, e3, e4⟩ := h3 i hi
  have hwi : wrap64 ((i : Int) + 1) = ((i + 1 : Nat) : Int) := by unfold wrap64; omega
  have hw2 : wrap64 (2 * (i : Int)) = 2 * (i : Int) := by unfold wrap64; omega
  have hw3 : wrap64 (2 * (i : Int) + 1) = 2 * (i : Int) + 1 := by unfold wrap64; omega
  simp only [cleatlaw14_LocalSplits.l0]
  rw [if_pos (by omega), hw2, hw3, if_pos (by omega), if_pos (by omega), if_pos (by omega), toks_at e1 _ (by omega), texts_at e3 _ rfl, if_pos rfl, if_pos (by omega), if_pos (by omega), toks_at e2 _ (by omega), if_pos e4, hwi, ih k (i + 1) (by omega) (by omega) (by omega)]
theorem LocalSplits : cleatlaw14_LocalSplits.Pure := by
 intro l0 a1 hlen hall h1
 refine ⟨200, ?_⟩
 have ht : cleatlaw14_LocalSplits.j0 200 l0 a1 true = some true := by simp only [cleatlaw14_LocalSplits.j0]; rw [if_pos trivial]
 unfold cleatlaw14_LocalSplits.f
 by_cases h60 : (l0.length : Int) > 60
 ·rw [if_pos h60, ht]
 rw [if_neg h60]
 by_cases h100 : (a1.size : Int) > 100
 ·rw [decide_eq_true h100, ht]
 rw [decide_eq_false h100]
 show cleatlaw14_LocalSplits.j0 (199 + 1) l0 a1 false = some true
 simp only [cleatlaw14_LocalSplits.j0]
 rw [if_neg (by decide), split_f l0 (by omega), Option.bind_some]
 rcases splitA_parts l0.length l0 (Nat.le_refl _) with e | ⟨a, x, hs, g1, g2, g3, g4⟩
 ·rw [e]
  have hlb : cleatlaw14_labeled.f = some true := rfl
  have hw0 : wrap64 (((0 : Nat) : Int) + ((0 : Nat) : Int)) = 0 := by unfold wrap64; omega
  simp only [List.length_nil]
  rw [if_neg (by decide), hlb, Option.bind_some, if_pos rfl, if_pos hw0]
  rfl
 ·rw [hs]
  simp only [List.nil_append]
  have hw : wrap64 (wrap64 (2 * (a.length : Int)) + (x.length : Int)) = (l0.length : Int) := by
   have : wrap64 (2 * (a.length : Int)) = 2 * (a.length : Int) := by unfold wrap64; omega
   rw [this]; unfold wrap64; omega
  rw [if_pos trivial, if_pos hw]
  exact splits_l0 l0 a1 a x (by omega) hs g1 g2 g3 g4 a.length 199 0 rfl (by omega) (Nat.zero_le _)
end Go.Proofs.YtmolcgkahhdkgaaDoor.Pure
