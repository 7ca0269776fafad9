/- What the printed reference of Field and Word answers: the same as the program's. -/
import Derived.Test.YthhknfbpfdmggaaBx
import Derived.Test.YthhknfbpfdmggaaR1
import Derived.Test.YthhknfbpfdmggaaPx6
import Derived.Test.YthhknfbpfdmggaaPx7
namespace Go.Proofs.Ythhknfbpfdmggaa.R1
open Go.RowKit Go.Proofs.Ythhknfbpfdmggaa.P Go.Proofs.Ythhknfbpfdmggaa.K Go.Proofs.Ythhknfbpfdmggaa.B Go.Proofs.YthhknfbpfdmggaaW.PrintWords Go.Proofs.YthhknfbpfdmggaaW.PrintLast Go.Proofs.YthhknfbpfdmggaaW.PrintMore
set_option linter.unusedVariables false
set_option linter.unusedSimpArgs false
theorem right_ref (a n : Int) (ha : -9223372036854775808 ≤ a ∧ a ≤ 9223372036854775807) : cleatref01_Right.f a n = some (decide (a ≥ 0 ∧ n ≥ 1 ∧ n ≤ 32 ∧ a ≤ 32 - n)) := by
  unfold cleatref01_Right.f
  by_cases h1 : a ≥ 0
  · rw [if_pos h1]
    by_cases h2 : a ≤ 31
    · rw [if_pos h2]
      by_cases h3 : n ≥ 1
      · rw [if_pos h3, w64_in ⟨by omega, by omega⟩]
        congr 1
        rw [Bool.eq_iff_iff, decide_eq_true_iff, decide_eq_true_iff]
        omega
      · rw [if_neg h3, decide_eq_false (by omega)]
    · rw [if_neg h2, decide_eq_false (by omega)]
  · rw [if_neg h1, decide_eq_false (by omega)]
theorem field_same (k : Nat) (hk : 200 ≤ k) (w at_ n : Int) (hw : 0 ≤ w ∧ w < 4294967296) (ha : -9223372036854775808 ≤ at_ ∧ at_ ≤ 9223372036854775807) (hn : -9223372036854775808 ≤ n ∧ n ≤ 9223372036854775807) :
    ∃ r, bits_Field.f w at_ n = some r ∧ cleatref01_Field.f k w at_ n = some r := by
  by_cases h : at_ ≥ 0 ∧ n ≥ 1 ∧ n ≤ 32 ∧ at_ ≤ 32 - n
  · obtain ⟨w, rfl⟩ := Int.eq_ofNat_of_zero_le hw.1
    obtain ⟨a, rfl⟩ := Int.eq_ofNat_of_zero_le h.1
    obtain ⟨n, rfl⟩ := Int.eq_ofNat_of_zero_le (show 0 ≤ n by omega)
    refine ⟨_, field_ok w a n (by omega) (by omega) (by omega), ?_⟩
    have hp := Nat.two_pow_pos a
    have hq := Nat.two_pow_pos n
    unfold cleatref01_Field.f
    rw [right_ref _ _ ha, decide_eq_true h, Option.bind_some, if_pos rfl, power_f a (by omega) k (by omega), Option.bind_some, if_neg (by omega), power_f n (by omega) k (by omega), Option.bind_some, if_neg (by omega)]
    have hd : w / 2 ^ a < 4294967296 := Nat.lt_of_le_of_lt (Nat.div_le_self _ _) (by omega)
    have hm : w / 2 ^ a % 2 ^ n < 4294967296 := Nat.lt_of_le_of_lt (Nat.mod_le _ _) hd
    rw [wu64_in (n := (w : Int)) ⟨by omega, by omega⟩, show Int.tdiv (w : Int) ((2 ^ a : Nat) : Int) = ((w / 2 ^ a : Nat) : Int) from rfl]
    generalize w / 2 ^ a = q at *
    rw [wu64_in ⟨by omega, by omega⟩, show Int.tmod (q : Int) ((2 ^ n : Nat) : Int) = ((q % 2 ^ n : Nat) : Int) from rfl]
    generalize q % 2 ^ n = r at *
    congr 2
    omega
  · refine ⟨_, field_bad w at_ n hn h, ?_⟩
    unfold cleatref01_Field.f
    rw [right_ref _ _ ha, decide_eq_false h, Option.bind_some, if_neg (by simp)]
/-- The places that are taken, as bits. -/
def Tk (t : List Bool) (u : Nat) : Prop := t.length = 32 ∧ ∀ j, j < 32 → t.getD j false = u.testBit j
theorem tk_set {t : List Bool} {u p : Nat} (h : Tk t u) (hp : p < 32) : Tk (t.set p true) (u ||| 2 ^ p) := by
  refine ⟨by rw [List.length_set]; exact h.1, fun j hj => ?_⟩
  rw [Nat.testBit_or, ← h.2 j hj, Nat.testBit_two_pow, List.getD_eq_getElem?_getD, List.getD_eq_getElem?_getD]
  by_cases e : p = j
  · subst e
    rw [List.getElem?_set_self (by have := h.1; omega)]
    simp
  · rw [List.getElem?_set_ne e]
    simp [e]
theorem ref_l1 (l : List Fdx) (j : Nat) (hj : j < l.length) (x : Fdx) (hx : l[j] = x) (hf : Fok x) : ∀ (d k i u : Nat) (t : List Bool), Tk t u → i + d = x.f1.toNat → d < k →
    ((∀ p, x.f0.toNat + i ≤ p → p < x.f0.toNat + x.f1.toNat → u.testBit p = false) → ∃ t', Tk t' (u ||| (2 ^ d - 1) * 2 ^ (x.f0.toNat + i)) ∧ cleatref01_Word.l1 k l t (j : Int) ((x.f0.toNat + i : Nat) : Int) = cleatref01_Word.l0 (k - d - 1) l t' (wrap64 ((j : Int) + 1))) ∧
    ((¬ ∀ p, x.f0.toNat + i ≤ p → p < x.f0.toNat + x.f1.toNat → u.testBit p = false) → cleatref01_Word.l1 k l t (j : Int) ((x.f0.toNat + i : Nat) : Int) = some (0, 1)) := by
  have hx2 := hf
  unfold Fok at hx2
  intro d
  induction d with
  | zero =>
    intro k i u t ht hi hk
    obtain ⟨k, rfl⟩ : ∃ m, k = m + 1 := ⟨k - 1, by omega⟩
    refine ⟨fun _ => ⟨t, by simpa using ht, ?_⟩, fun hn => absurd (fun p h1 h2 => by omega) hn⟩
    simp only [cleatref01_Word.l1]
    rw [if_pos (by omega), if_pos (by omega), rd_at l j hj, hx, w64_in ⟨by omega, by omega⟩, if_neg (by omega)]
    simp
  | succ d ih =>
    intro k i u t ht hi hk
    obtain ⟨k, rfl⟩ : ∃ m, k = m + 1 := ⟨k - 1, by omega⟩
    have hlt : x.f0.toNat + i < 32 := by omega
    have hl := ht.1
    simp only [cleatref01_Word.l1]
    rw [if_pos (by omega), if_pos (by omega), rd_at l j hj, hx, w64_in (n := x.f0 + x.f1) ⟨by omega, by omega⟩, if_pos (by omega), if_pos (by omega), if_pos (by omega)]
    rw [show rdOf false t ((x.f0.toNat + i : Nat) : Int) = t.getD (x.f0.toNat + i) false from rfl, ht.2 _ hlt]
    by_cases hb : u.testBit (x.f0.toNat + i) = false
    · rw [hb, if_neg (by simp), Int.toNat_natCast, show wrap64 (((x.f0.toNat + i : Nat) : Int) + 1) = ((x.f0.toNat + (i + 1) : Nat) : Int) by rw [w64_in ⟨by omega, by omega⟩]; omega]
      obtain ⟨iy, in_⟩ := ih k (i + 1) _ _ (tk_set ht hlt) (by omega) (by omega)
      have hs : (u ||| 2 ^ (x.f0.toNat + i)) ||| (2 ^ d - 1) * 2 ^ (x.f0.toNat + (i + 1)) = u ||| (2 ^ (d + 1) - 1) * 2 ^ (x.f0.toNat + i) := by
        apply Nat.eq_of_testBit_eq
        intro q
        simp only [Nat.testBit_or, Nat.testBit_mul_two_pow, Nat.testBit_two_pow_sub_one, Nat.testBit_two_pow, Bool.or_assoc]
        congr 1
        rw [Bool.eq_iff_iff]
        simp only [Bool.or_eq_true, Bool.and_eq_true, decide_eq_true_iff]
        omega
      rw [hs, show k - d - 1 = k + 1 - (d + 1) - 1 by omega] at iy
      constructor
      · intro hc
        refine iy fun p h1 h2 => ?_
        rw [Nat.testBit_or, hc p (by omega) h2, Nat.testBit_two_pow, decide_eq_false (by omega)]; rfl
      · intro hc
        refine in_ fun hc2 => hc fun p h1 h2 => ?_
        by_cases e : p = x.f0.toNat + i
        · rw [e]; exact hb
        · have := hc2 p (by omega) h2
          rw [Nat.testBit_or, Bool.or_eq_false_iff] at this
          exact this.1
    · constructor
      · intro hc
        exact absurd (hc _ (Nat.le_refl _) (by omega)) hb
      · intro _
        rw [Bool.not_eq_false] at hb
        rw [hb, if_pos rfl]
theorem ref_l0 (l : List Fdx) (hl : l.length ≤ 1000) (hw : ∀ x ∈ l, Wf x) : ∀ (d k j u : Nat) (t : List Bool), Tk t u → j + d = l.length → 40 * d + 1 < k →
    ∃ k', k ≤ k' + 40 * d + 1 ∧ cleatref01_Word.l0 k l t (j : Int) = if apart u (l.drop j) = true then cleatref01_Word.l2 k' l 0 0 else some (0, 1) := by
  intro d
  induction d with
  | zero =>
    intro k j u t ht hj hk
    obtain ⟨k, rfl⟩ : ∃ m, k = m + 1 := ⟨k - 1, by omega⟩
    refine ⟨k, by omega, ?_⟩
    simp only [cleatref01_Word.l0]
    rw [if_neg (by omega), List.drop_of_length_le (by omega)]; rfl
  | succ d ih =>
    intro k j u t ht hj hk
    obtain ⟨k, rfl⟩ : ∃ m, k = m + 1 := ⟨k - 1, by omega⟩
    have hjl : j < l.length := by omega
    simp only [cleatref01_Word.l0]
    rw [if_pos (by omega), if_pos (by omega), rd_at l j hjl, List.drop_eq_getElem_cons hjl]
    have hx : l[j] = l[j] := rfl
    have hwx : Wf l[j] := hw _ (List.getElem_mem hjl)
    generalize hxx : l[j] = x at *
    rw [right_ref _ _ hwx.1, Option.bind_some]
    by_cases hf : Fok x
    · have hf2 := hf
      unfold Fok at hf2
      rw [if_pos (decide_eq_true ⟨hf2.1, hf2.2.1, hf2.2.2⟩)]
      have HW := ref_l1 l j hjl x hxx hf x.f1.toNat k 0 u t ht (by omega) (by omega)
      rw [show ((x.f0.toNat + 0 : Nat) : Int) = x.f0 by omega] at HW
      by_cases hc : u &&& fmask x = 0
      · obtain ⟨t', ht', e1⟩ := HW.1 ((clash_iff u x).1 hc)
        rw [e1, show wrap64 ((j : Int) + 1) = ((j + 1 : Nat) : Int) by rw [w64_in ⟨by omega, by omega⟩]; omega]
        obtain ⟨k', hk', he⟩ := ih (k - x.f1.toNat - 1) (j + 1) _ t' ht' (by omega) (by omega)
        refine ⟨k', by omega, ?_⟩
        have ea : apart u (x :: l.drop (j + 1)) = apart (u ||| fmask x) (l.drop (j + 1)) := by
          show (decide (Fok x) && (u &&& fmask x == 0) && apart (u ||| fmask x) (l.drop (j + 1))) = _
          rw [decide_eq_true hf, beq_iff_eq.2 hc]; rfl
        rw [ea]
        exact he
      · refine ⟨k, by omega, ?_⟩
        have ea : apart u (x :: l.drop (j + 1)) = false := by
          show (decide (Fok x) && (u &&& fmask x == 0) && apart (u ||| fmask x) (l.drop (j + 1))) = _
          rw [beq_eq_false_iff_ne.2 hc]; simp
        rw [HW.2 (fun h => hc ((clash_iff u x).2 h)), ea]
        rfl
    · refine ⟨k, by omega, ?_⟩
      have ea : apart u (x :: l.drop (j + 1)) = false := by
        show (decide (Fok x) && (u &&& fmask x == 0) && apart (u ||| fmask x) (l.drop (j + 1))) = _
        rw [decide_eq_false hf]; rfl
      rw [if_neg, ea]
      · rfl
      · rw [decide_eq_true_iff]
        intro h
        exact hf ⟨h.1, h.2.1, h.2.2⟩
theorem ref_l2 (l : List Fdx) (hl : l.length ≤ 1000) (hw : ∀ x ∈ l, Wf x) : ∀ (d k j s m : Nat), s < 4294967296 → Sub s m → apart m (l.drop j) = true → j + d = l.length → d + 70 < k →
    cleatref01_Word.l2 k l (s : Int) (j : Int) = if (l.drop j).all fit = true then some (((s + sumF (l.drop j) : Nat) : Int), 0) else some (0, 4) := by
  intro d
  induction d with
  | zero =>
    intro k j s m hs hsub ha hj hk
    obtain ⟨k, rfl⟩ : ∃ m, k = m + 1 := ⟨k - 1, by omega⟩
    simp only [cleatref01_Word.l2]
    rw [if_neg (by omega), List.drop_of_length_le (by omega)]
    simp [sumF]
    omega
  | succ d ih =>
    intro k j s m hs hsub ha hj hk
    obtain ⟨k, rfl⟩ : ∃ m, k = m + 1 := ⟨k - 1, by omega⟩
    have hjl : j < l.length := by omega
    rw [List.drop_eq_getElem_cons hjl] at ha ⊢
    simp only [cleatref01_Word.l2]
    rw [if_pos (by omega), if_pos (by omega), rd_at l j hjl]
    have hwx : Wf l[j] := hw _ (List.getElem_mem hjl)
    generalize l[j] = x at *
    obtain ⟨hf, hc, ha⟩ := apart_cons ha
    have hf2 := hf
    unfold Fok at hf2
    obtain ⟨v, hv⟩ := Int.eq_ofNat_of_zero_le hwx.2.2.1
    have hv32 : v < 4294967296 := by have := hwx.2.2.2; omega
    obtain ⟨n, hn⟩ := Int.eq_ofNat_of_zero_le (show 0 ≤ x.f1 by omega)
    obtain ⟨a, haa⟩ := Int.eq_ofNat_of_zero_le (show 0 ≤ x.f0 by omega)
    have hvn : x.f2.toNat = v := by omega
    have hnn : x.f1.toNat = n := by omega
    have han : x.f0.toNat = a := by omega
    rw [hv, hn, haa, wu64_in (n := (v : Int)) ⟨by omega, by omega⟩, small_f v n (by omega) k (by omega), Option.bind_some]
    by_cases hfit : v < 2 ^ n
    · have hfit2 : x.f2.toNat < 2 ^ x.f1.toNat := by rw [hvn, hnn]; exact hfit
      have hsv := val_sub hfit2
      have hlt := val_lt hf hfit2
      rw [hvn, han] at hlt
      have hz : s &&& v * 2 ^ a = 0 := by
        have := and_zero hsub hsv hc
        rwa [hvn, han] at this
      have hor := Nat.or_lt_two_pow (n := 32) hs hlt
      rw [← add_or (n := 32) hs hlt hz] at hor
      rw [if_pos (decide_eq_true hfit), power_f a (by omega) k (by omega), Option.bind_some]
      rw [show (v : Int) * ((2 ^ a : Nat) : Int) = ((v * 2 ^ a : Nat) : Int) from rfl]
      have hsub2 : Sub (s + v * 2 ^ a) (m ||| fmask x) := by
        rw [add_or (n := 32) hs hlt hz]
        exact sub_or hsub (by rw [hvn, han] at hsv; exact hsv)
      have e2 : sumF (x :: l.drop (j + 1)) = v * 2 ^ a + sumF (l.drop (j + 1)) := by
        simp only [sumF, List.map_cons, List.sum_cons]
        rw [hvn, han]
      rw [e2]
      generalize v * 2 ^ a = y at *
      rw [wu64_in (n := (y : Int)) ⟨by omega, by omega⟩, show (s : Int) + (y : Int) = ((s + y : Nat) : Int) by omega, wu64_in ⟨by omega, by omega⟩, show wrap64 ((j : Int) + 1) = ((j + 1 : Nat) : Int) by rw [w64_in ⟨by omega, by omega⟩]; omega]
      rw [ih k (j + 1) (s + y) (m ||| fmask x) hor hsub2 ha (by omega) (by omega)]
      have e1 : (x :: l.drop (j + 1)).all fit = (l.drop (j + 1)).all fit := by
        simp only [List.all_cons, fit]
        rw [decide_eq_true hfit2, Bool.true_and]
      rw [e1, Nat.add_assoc]
    · have e1 : (x :: l.drop (j + 1)).all fit = false := by
        simp only [List.all_cons, fit]
        rw [hvn, hnn, decide_eq_false hfit]
        simp
      rw [if_neg (by simpa using hfit), e1]
      rfl
theorem word_ref (l : List Fdx) (hl : l.length ≤ 1000) (hw : ∀ x ∈ l, Wf x) (k : Nat) (hk : 41 * l.length + 100 ≤ k) : cleatref01_Word.f k l = some (wordZ l) := by
  unfold cleatref01_Word.f wordZ
  rw [if_pos (by omega)]
  have ht : Tk (List.replicate 32 false) 0 := by
    refine ⟨by simp, fun j hj => ?_⟩
    rw [Nat.zero_testBit, List.getD_eq_getElem?_getD, List.getElem?_replicate]
    split <;> rfl
  obtain ⟨k', hk', he⟩ := ref_l0 l hl hw l.length k 0 0 _ ht (by omega) (by omega)
  rw [List.drop_zero] at he
  refine he.trans ?_
  by_cases ha : apart 0 l = true
  · rw [if_pos ha, if_pos ha]
    have h2 := ref_l2 l hl hw l.length k' 0 0 0 (by omega) (fun i hi => by simp at hi) (by rw [List.drop_zero]; exact ha) (by omega) (by omega)
    rw [List.drop_zero] at h2
    refine h2.trans ?_
    by_cases hf : l.all fit = true
    · rw [if_pos hf, if_pos hf, Nat.zero_add]
    · rw [if_neg hf, if_neg hf]
  · rw [if_neg ha, if_neg ha]
theorem same_refl (l : List Fdx) : ∀ (d k i : Nat), i + d = l.length → l.length ≤ 1000 → d < k → cleatref01_Same.l0 k l l (i : Int) = some true := by
  intro d
  induction d with
  | zero =>
    intro k i hi hl hk
    obtain ⟨k, rfl⟩ : ∃ m, k = m + 1 := ⟨k - 1, by omega⟩
    simp only [cleatref01_Same.l0]
    rw [if_neg (by omega)]
  | succ d ih =>
    intro k i hi hl hk
    obtain ⟨k, rfl⟩ : ∃ m, k = m + 1 := ⟨k - 1, by omega⟩
    simp only [cleatref01_Same.l0]
    rw [if_pos (by omega), if_pos (by omega), if_pos (by omega), if_neg (by simp), show wrap64 ((i : Int) + 1) = ((i + 1 : Nat) : Int) by rw [w64_in ⟨by omega, by omega⟩]; omega]
    exact ih k (i + 1) (by omega) hl (by omega)
end Go.Proofs.Ythhknfbpfdmggaa.R1
