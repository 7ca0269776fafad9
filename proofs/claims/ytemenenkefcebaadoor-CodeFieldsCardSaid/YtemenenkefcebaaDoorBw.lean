/- What the printed Word and Field of package bits answer, over plain numbers. -/
import Derived.Test.YtemenenkefcebaaDoorBs
import Derived.Test.YtemenenkefcebaaDoorPx5
namespace Go.Proofs.YtemenenkefcebaaDoor.B
open Go.RowKit Go.Proofs.YtemenenkefcebaaDoor.P Go.Proofs.YtemenenkefcebaaDoor.K Go.Proofs.YtemenenkefcebaaDoorW.PrintWords Go.Proofs.YtemenenkefcebaaDoorW.PrintLast Go.Proofs.YtemenenkefcebaaDoorW.PrintMore
set_option linter.unusedVariables false
set_option linter.unusedSimpArgs false

theorem add_or {x y n : Nat} (hx : x < 2 ^ n) (hy : y < 2 ^ n) (h : x &&& y = 0) : x + y = x ||| y := by
 have hp : 2 ^ (n + 1) = 2 * 2 ^ n := by rw [Nat.pow_succ, Nat.mul_comm]
 have ho : x ||| y < 2 ^ n := Nat.or_lt_two_pow hx hy
 have e := BitVec.add_eq_or_of_and_eq_zero (BitVec.ofNat (n + 1) x) (BitVec.ofNat (n + 1) y) (by
  apply BitVec.eq_of_toNat_eq
  rw [BitVec.toNat_and, BitVec.toNat_ofNat, BitVec.toNat_ofNat, Nat.mod_eq_of_lt (by omega), Nat.mod_eq_of_lt (by omega), h]
  simp)
 have e2 := congrArg BitVec.toNat e
 rw [BitVec.toNat_add, BitVec.toNat_or, BitVec.toNat_ofNat, BitVec.toNat_ofNat, Nat.mod_eq_of_lt (show x < 2 ^ (n + 1) by omega), Nat.mod_eq_of_lt (show y < 2 ^ (n + 1) by omega), Nat.mod_eq_of_lt (by omega)] at e2
 exact e2

abbrev Fdx := S64
/-- Is it a field of a word? -/
def Fok (x : Fdx) : Prop := 0 ≤ x.f0 ∧ 1 ≤ x.f1 ∧ x.f1 ≤ 32 ∧ x.f0 ≤ 32 - x.f1
instance (x : Fdx) : Decidable (Fok x) := by unfold Fok; infer_instance
def Cov (x : Fdx) (j : Nat) : Prop := x.f0.toNat ≤ j ∧ j < x.f0.toNat + x.f1.toNat
instance (x : Fdx) (j : Nat) : Decidable (Cov x j) := by unfold Cov; infer_instance
/-- The bits of a field. -/
def fmask (x : Fdx) : Nat := (2 ^ x.f1.toNat - 1) * 2 ^ x.f0.toNat
theorem fmask_bit (x : Fdx) (j : Nat) : (fmask x).testBit j = decide (Cov x j) := by
 unfold fmask Cov
 rw [Nat.testBit_mul_two_pow, Nat.testBit_two_pow_sub_one]
 by_cases h1 : x.f0.toNat ≤ j
 ·rw [decide_eq_true h1, Bool.true_and]
  congr 1
  exact propext ⟨fun h => ⟨h1, by omega⟩, fun h => by omega⟩
 ·rw [decide_eq_false h1, Bool.false_and]
  exact (decide_eq_false (fun h => h1 h.1)).symm
theorem fmask_lt {x : Fdx} (h : Fok x) : fmask x < 4294967296 := by
 apply Nat.lt_pow_two_of_testBit (n := 32)
 intro i hi
 rw [fmask_bit]
 apply decide_eq_false
 unfold Cov
 unfold Fok at h
 omega

theorem right_f (a n : Int) (hn : -9223372036854775808 ≤ n ∧ n ≤ 9223372036854775807) : bits_right.f a n = some (decide (a ≥ 0 ∧ n ≥ 1 ∧ n ≤ 32 ∧ a ≤ 32 - n)) := by
 unfold bits_right.f
 by_cases h1 : a ≥ 0
 ·rw [if_pos h1]
  by_cases h2 : n ≥ 1
  ·rw [if_pos h2]
   by_cases h3 : n ≤ 32
   ·rw [if_pos h3, w64_in ⟨by omega, by omega⟩]
    congr 1
    rw [Bool.eq_iff_iff, decide_eq_true_iff, decide_eq_true_iff]
    omega
   ·rw [if_neg h3, decide_eq_false (by omega)]
  ·rw [if_neg h2, decide_eq_false (by omega)]
 ·rw [if_neg h1, decide_eq_false (by omega)]

/-- Field. -/
theorem field_bad (w at_ n : Int) (hn : -9223372036854775808 ≤ n ∧ n ≤ 9223372036854775807) (h : ¬ (at_ ≥ 0 ∧ n ≥ 1 ∧ n ≤ 32 ∧ at_ ≤ 32 - n)) : bits_Field.f w at_ n = some (0, 1) := by
 unfold bits_Field.f
 rw [right_f at_ n hn, decide_eq_false h, Option.bind_some, if_neg (by simp)]
theorem field_ok (w a n : Nat) (hw : w < 4294967296) (hn : 1 ≤ n) (ha : a + n ≤ 32) : bits_Field.f (w : Int) (a : Int) (n : Int) = some (((w / 2 ^ a % 2 ^ n : Nat) : Int), 0) := by
 unfold bits_Field.f
 rw [right_f _ _ ⟨by omega, by omega⟩, decide_eq_true (by omega), Option.bind_some, if_pos rfl, if_pos (by omega), if_pos (by omega)]
 rw [shr32 w a (by omega), mask32 (w / 2 ^ a) n (Nat.lt_of_le_of_lt (Nat.div_le_self _ _) hw) (by omega)]

/-! ### Word -/
/-- Do fields, behind some bits that are used, stand apart? -/
def apart : Nat → List Fdx → Bool
 | _, [] => true
 | u, x :: xs => decide (Fok x) && (u &&& fmask x == 0) && apart (u ||| fmask x) xs
def Wf (x : Fdx) : Prop := (-9223372036854775808 ≤ x.f0 ∧ x.f0 ≤ 9223372036854775807) ∧ (-9223372036854775808 ≤ x.f1 ∧ x.f1 ≤ 9223372036854775807) ∧ 0 ≤ x.f2 ∧ x.f2 < 4294967296
theorem rd_at (l : List Fdx) (i : Nat) (hi : i < l.length) : rd_T64 l (i : Int) = l[i] := by
 unfold rd_T64
 rw [Int.toNat_natCast, List.getD_eq_getElem?_getD, List.getElem?_eq_getElem hi]
 rfl
theorem and_bit_zero (u p : Nat) : u &&& 2 ^ p = 0 ↔ u.testBit p = false := by
 constructor
 ·intro h
  have := congrArg (fun z => Nat.testBit z p) h
  simp only [Nat.testBit_and, Nat.zero_testBit, Nat.testBit_two_pow_self, Bool.and_true] at this
  exact this
 ·intro h
  apply Nat.eq_of_testBit_eq
  intro i
  rw [Nat.testBit_and, Nat.zero_testBit, Nat.testBit_two_pow]
  by_cases e : p = i
  ·subst e; rw [h]; simp
  ·simp [e]
/-- The inner loop, at a field that is right: the bits from At + i on are taken, or the word is refused. -/
theorem word_l1 (l : List Fdx) (j : Nat) (w : Int) (len : Int) (x : Fdx) (hx : Fok x) : ∀ (d k i u : Nat), u < 4294967296 → i + d = x.f1.toNat → d < k →
  ((∀ p, x.f0.toNat + i ≤ p → p < x.f0.toNat + x.f1.toNat → u.testBit p = false) → bits_Word.l1 k l (u : Int) w l len (j : Int) x.f1 (i : Int) x.f0 x.f1 x.f2 = bits_Word.l0 (k - d - 1) l ((u ||| (2 ^ d - 1) * 2 ^ (x.f0.toNat + i) : Nat) : Int) w l len (wrap64 ((j : Int) + 1))) ∧
  ((¬ ∀ p, x.f0.toNat + i ≤ p → p < x.f0.toNat + x.f1.toNat → u.testBit p = false) → bits_Word.l1 k l (u : Int) w l len (j : Int) x.f1 (i : Int) x.f0 x.f1 x.f2 = some (0, 1)) := by
 have hx2 := hx
 unfold Fok at hx2
 intro d
 induction d with
 | zero =>
  intro k i u hu hi hk
  obtain ⟨k, rfl⟩ : ∃ m, k = m + 1 := ⟨k - 1, by omega⟩
  refine ⟨fun _ => ?_, fun hn => absurd (fun p h1 h2 => by omega) hn⟩
  simp only [bits_Word.l1]
  rw [if_neg (by omega)]
  simp
 | succ d ih =>
  intro k i u hu hi hk
  obtain ⟨k, rfl⟩ : ∃ m, k = m + 1 := ⟨k - 1, by omega⟩
  simp only [bits_Word.l1]
  have e1 : wrap64 (x.f0 + (i : Int)) = ((x.f0.toNat + i : Nat) : Int) := by rw [w64_in ⟨by omega, by omega⟩]; omega
  have hlt : x.f0.toNat + i < 32 := by omega
  have hp := pow_lt32 hlt
  rw [if_pos (by omega), e1, if_pos (by omega), shl32_one _ hlt, (b32 u _ hu hp).1]
  by_cases hb : u.testBit (x.f0.toNat + i) = false
  ·rw [if_pos (by rw [(and_bit_zero u _).2 hb]; rfl), (b32 u _ hu hp).2, show wrap64 ((i : Int) + 1) = ((i + 1 : Nat) : Int) by rw [w64_in ⟨by omega, by omega⟩]; omega]
   have hu' : u ||| 2 ^ (x.f0.toNat + i) < 4294967296 := Nat.or_lt_two_pow (n := 32) hu hp
   obtain ⟨iy, in_⟩ := ih k (i + 1) _ hu' (by omega) (by omega)
   have hs : (u ||| 2 ^ (x.f0.toNat + i)) ||| (2 ^ d - 1) * 2 ^ (x.f0.toNat + (i + 1)) = u ||| (2 ^ (d + 1) - 1) * 2 ^ (x.f0.toNat + i) := by
    apply Nat.eq_of_testBit_eq
    intro q
    simp only [Nat.testBit_or, Nat.testBit_mul_two_pow, Nat.testBit_two_pow_sub_one, Nat.testBit_two_pow, Bool.or_assoc]
    congr 1
    rw [Bool.eq_iff_iff]
    simp only [Bool.or_eq_true, Bool.and_eq_true, decide_eq_true_iff]
    omega
   rw [hs, show k - d - 1 = k + 1 - (d + 1) - 1 by omega] at iy
   constructor
   ·intro hc
    refine iy fun p h1 h2 => ?_
    rw [Nat.testBit_or, hc p (by omega) h2, Nat.testBit_two_pow, decide_eq_false (by omega)]; rfl
   ·intro hc
    refine in_ fun hc2 => hc fun p h1 h2 => ?_
    by_cases e : p = x.f0.toNat + i
    ·rw [e]; exact hb
    ·have := hc2 p (by omega) h2
     rw [Nat.testBit_or, Bool.or_eq_false_iff] at this
     exact this.1
  ·constructor
   ·intro hc
    exact absurd (hc _ (Nat.le_refl _) (by omega)) hb
   ·intro _
    rw [if_neg]
    intro hz
    exact hb ((and_bit_zero u _).1 (by exact_mod_cast hz))
theorem clash_iff (u : Nat) (x : Fdx) : (u &&& fmask x = 0) ↔ ∀ p, x.f0.toNat + 0 ≤ p → p < x.f0.toNat + x.f1.toNat → u.testBit p = false := by
 constructor
 ·intro h p h1 h2
  have := congrArg (fun z => Nat.testBit z p) h
  simp only [Nat.testBit_and, Nat.zero_testBit, fmask_bit] at this
  rw [decide_eq_true (show Cov x p from ⟨by omega, h2⟩), Bool.and_true] at this
  exact this
 ·intro h
  apply Nat.eq_of_testBit_eq
  intro p
  rw [Nat.testBit_and, Nat.zero_testBit, fmask_bit]
  by_cases hc : Cov x p
  ·rw [h p (by have := hc.1; omega) hc.2]; simp
  ·rw [decide_eq_false hc]; simp
/-- The rounds that a row of fields may want. -/
theorem word_l0 (l : List Fdx) (hl : l.length ≤ 1000) (hw : ∀ x ∈ l, Wf x) (w : Int) : ∀ (d k j u : Nat), u < 4294967296 → j + d = l.length → 40 * d + 1 < k →
  ∃ k', k ≤ k' + 40 * d + 1 ∧ bits_Word.l0 k l (u : Int) w l (l.length : Int) (j : Int) = if apart u (l.drop j) = true then bits_Word.l2 k' w l (l.length : Int) 0 else some (0, 1) := by
 intro d
 induction d with
 | zero =>
  intro k j u hu hj hk
  obtain ⟨k, rfl⟩ : ∃ m, k = m + 1 := ⟨k - 1, by omega⟩
  refine ⟨k, by omega, ?_⟩
  simp only [bits_Word.l0]
  rw [if_neg (by omega), List.drop_of_length_le (by omega)]; rfl
 | succ d ih =>
  intro k j u hu hj hk
  obtain ⟨k, rfl⟩ : ∃ m, k = m + 1 := ⟨k - 1, by omega⟩
  have hjl : j < l.length := by omega
  simp only [bits_Word.l0]
  rw [if_pos (by omega), if_pos (by omega), if_pos (by omega), rd_at l j hjl, List.drop_eq_getElem_cons hjl]
  generalize hx : l[j] = x
  have hwx : Wf x := hw x (hx ▸ List.getElem_mem hjl)
  rw [right_f _ _ hwx.2.1, Option.bind_some]
  by_cases hf : Fok x
  ·have hf2 := hf
   unfold Fok at hf2
   rw [if_pos (decide_eq_true ⟨hf2.1, hf2.2.1, hf2.2.2⟩)]
   have HW := word_l1 l j w l.length x hf x.f1.toNat k 0 u hu (by omega) (by omega)
   rw [show ((0 : Nat) : Int) = 0 from rfl] at HW
   have hm := fmask_lt hf
   have hor : u ||| fmask x < 4294967296 := Nat.or_lt_two_pow (n := 32) hu hm
   by_cases hc : u &&& fmask x = 0
   ·rw [HW.1 ((clash_iff u x).1 hc), show wrap64 ((j : Int) + 1) = ((j + 1 : Nat) : Int) by rw [w64_in ⟨by omega, by omega⟩]; omega]
    obtain ⟨k', hk', he⟩ := ih (k - x.f1.toNat - 1) (j + 1) (u ||| fmask x) hor (by omega) (by omega)
    refine ⟨k', by omega, ?_⟩
    have ea : apart u (x :: l.drop (j + 1)) = apart (u ||| fmask x) (l.drop (j + 1)) := by
     show (decide (Fok x) && (u &&& fmask x == 0) && apart (u ||| fmask x) (l.drop (j + 1))) = _
     rw [decide_eq_true hf, beq_iff_eq.2 hc]; rfl
    rw [ea]
    exact he
   ·refine ⟨k, by omega, ?_⟩
    have ea : apart u (x :: l.drop (j + 1)) = false := by
     show (decide (Fok x) && (u &&& fmask x == 0) && apart (u ||| fmask x) (l.drop (j + 1))) = _
     rw [beq_eq_false_iff_ne.2 hc]; simp
    rw [HW.2 (fun h => hc ((clash_iff u x).2 h)), ea]
    rfl
  ·refine ⟨k, by omega, ?_⟩
   have ea : apart u (x :: l.drop (j + 1)) = false := by
    show (decide (Fok x) && (u &&& fmask x == 0) && apart (u ||| fmask x) (l.drop (j + 1))) = _
    rw [decide_eq_false hf]; rfl
   rw [if_neg, ea]
   ·rfl
   ·rw [decide_eq_true_iff]
    intro h
    exact hf ⟨h.1, h.2.1, h.2.2⟩
/-- The numbers in their fields. -/
def sumF (l : List Fdx) : Nat := (l.map fun x => x.f2.toNat * 2 ^ x.f0.toNat).sum
def fit (x : Fdx) : Bool := decide (x.f2.toNat < 2 ^ x.f1.toNat)
/-- w's bits are some of m's. -/
def Sub (w m : Nat) : Prop := ∀ i, w.testBit i = true → m.testBit i = true
theorem val_sub {x : Fdx} (hv : x.f2.toNat < 2 ^ x.f1.toNat) : Sub (x.f2.toNat * 2 ^ x.f0.toNat) (fmask x) := by
 intro i hi
 rw [Nat.testBit_mul_two_pow, Bool.and_eq_true, decide_eq_true_iff] at hi
 rw [fmask_bit, decide_eq_true_iff]
 refine ⟨hi.1, ?_⟩
 by_cases h : i < x.f0.toNat + x.f1.toNat
 ·exact h
 ·rw [Nat.testBit_lt_two_pow (Nat.lt_of_lt_of_le hv (Nat.pow_le_pow_right (by decide) (by omega)))] at hi
  exact absurd hi.2 (by simp)
theorem and_zero {a b m n : Nat} (ha : Sub a m) (hb : Sub b n) (h : m &&& n = 0) : a &&& b = 0 := by
 apply Nat.eq_of_testBit_eq
 intro i
 rw [Nat.testBit_and, Nat.zero_testBit]
 cases h1 : a.testBit i
 ·rfl
 ·cases h2 : b.testBit i
  ·rfl
  ·have h3 := congrArg (fun z => Nat.testBit z i) h
   simp only [Nat.testBit_and, Nat.zero_testBit, ha i h1, hb i h2] at h3
   simp at h3
theorem sub_or {a b m n : Nat} (ha : Sub a m) (hb : Sub b n) : Sub (a ||| b) (m ||| n) := by
 intro i hi
 rw [Nat.testBit_or, Bool.or_eq_true] at hi ⊢
 exact hi.elim (fun h => .inl (ha i h)) (fun h => .inr (hb i h))
theorem word_l2 (l : List Fdx) (hl : l.length ≤ 1000) (hw : ∀ x ∈ l, Wf x) : ∀ (d k j w m : Nat), w < 4294967296 → Sub w m → apart m (l.drop j) = true → j + d = l.length → d < k →
  bits_Word.l2 k (w : Int) l (l.length : Int) (j : Int) = if (l.drop j).all fit = true then some (((w + sumF (l.drop j) : Nat) : Int), 0) else some (0, 4) := by
 intro d
 induction d with
 | zero =>
  intro k j w m hwl hs ha hj hk
  obtain ⟨k, rfl⟩ : ∃ m, k = m + 1 := ⟨k - 1, by omega⟩
  simp only [bits_Word.l2]
  rw [if_neg (by omega), List.drop_of_length_le (by omega)]
  simp [sumF]
 | succ d ih =>
  intro k j w m hwl hs ha hj hk
  obtain ⟨k, rfl⟩ : ∃ m, k = m + 1 := ⟨k - 1, by omega⟩
  have hjl : j < l.length := by omega
  rw [List.drop_eq_getElem_cons hjl] at ha ⊢
  simp only [bits_Word.l2]
  rw [if_pos (by omega), if_pos (by omega), if_pos (by omega), rd_at l j hjl]
  generalize hx : l[j] = x at *
  have hwx : Wf x := hw x (hx ▸ List.getElem_mem hjl)
  simp only [apart, Bool.and_eq_true, beq_iff_eq, decide_eq_true_iff] at ha
  obtain ⟨⟨hf, hc⟩, ha⟩ := ha
  have hf2 := hf
  unfold Fok at hf2
  obtain ⟨v, hv⟩ := Int.eq_ofNat_of_zero_le hwx.2.2.1
  have hv32 : v < 4294967296 := by have := hwx.2.2.2; omega
  obtain ⟨n, hn⟩ := Int.eq_ofNat_of_zero_le (show 0 ≤ x.f1 by omega)
  obtain ⟨a, haa⟩ := Int.eq_ofNat_of_zero_le (show 0 ≤ x.f0 by omega)
  rw [if_pos (by omega), hv, hn, shr32 v n (by omega)]
  have hvn : x.f2.toNat = v := by omega
  have hnn : x.f1.toNat = n := by omega
  have han : x.f0.toNat = a := by omega
  have hp := Nat.two_pow_pos n
  by_cases hfit : v < 2 ^ n
  ·have hfit2 : x.f2.toNat < 2 ^ x.f1.toNat := by rw [hvn, hnn]; exact hfit
   have hsub := val_sub hfit2
   have hlt : x.f2.toNat * 2 ^ x.f0.toNat < 4294967296 := by
    apply Nat.lt_pow_two_of_testBit (n := 32)
    intro i hi
    cases hb : (x.f2.toNat * 2 ^ x.f0.toNat).testBit i
    ·rfl
    ·have := hsub i hb
     rw [Nat.testBit_lt_two_pow (Nat.lt_of_lt_of_le (fmask_lt hf) (Nat.pow_le_pow_right (n := 2) (i := 32) (by decide) hi))] at this
     exact absurd this (by simp)
   rw [hvn, han] at hlt
   have hz : w &&& v * 2 ^ a = 0 := by
    have := and_zero hs hsub hc
    rwa [hvn, han] at this
   rw [if_pos (by rw [Nat.div_eq_of_lt hfit]; rfl), if_pos (by omega), haa, shl32 v a (by omega), Nat.mod_eq_of_lt hlt, (b32 w _ hwl hlt).2, show wrap64 ((j : Int) + 1) = ((j + 1 : Nat) : Int) by rw [w64_in ⟨by omega, by omega⟩]; omega]
   rw [ih k (j + 1) (w ||| v * 2 ^ a) (m ||| fmask x) (Nat.or_lt_two_pow (n := 32) hwl hlt) (sub_or hs (by rw [hvn, han] at hsub; exact hsub)) ha (by omega) (by omega)]
   rw [← add_or (n := 32) hwl hlt hz]
   have e1 : (x :: l.drop (j + 1)).all fit = (l.drop (j + 1)).all fit := by
    simp only [List.all_cons, fit]
    rw [decide_eq_true hfit2, Bool.true_and]
   rw [e1]
   have e2 : sumF (x :: l.drop (j + 1)) = v * 2 ^ a + sumF (l.drop (j + 1)) := by
    simp only [sumF, List.map_cons, List.sum_cons]
    rw [hvn, han]
   rw [e2, Nat.add_assoc]
  ·rw [if_neg, if_neg]
   ·simp only [List.all_cons, fit]
    rw [hvn, hnn, decide_eq_false hfit]
    simp
   ·have := Nat.div_pos (show 2 ^ n ≤ v by omega) hp
    omega
/-- Word. -/
def wordZ (l : List Fdx) : Int × Int := if apart 0 l = true then (if l.all fit = true then ((sumF l : Nat), 0) else (0, 4)) else (0, 1)
theorem word_f (l : List Fdx) (hl : l.length ≤ 1000) (hw : ∀ x ∈ l, Wf x) (k : Nat) (hk : 41 * l.length + 10 ≤ k) : bits_Word.f k l = some (wordZ l) := by
 unfold bits_Word.f wordZ
 obtain ⟨k', hk', he⟩ := word_l0 l hl hw 0 l.length k 0 0 (by omega) (by omega) (by omega)
 rw [List.drop_zero] at he
 refine he.trans ?_
 by_cases ha : apart 0 l = true
 ·rw [if_pos ha, if_pos ha]
  have h2 := word_l2 l hl hw l.length k' 0 0 0 (by omega) (fun i hi => by simp at hi) (by rw [List.drop_zero]; exact ha) (by omega) (by omega)
  rw [List.drop_zero] at h2
  refine h2.trans ?_
  by_cases hf : l.all fit = true
  ·rw [if_pos hf, if_pos hf, Nat.zero_add]
  ·rw [if_neg hf, if_neg hf]
 ·rw [if_neg ha, if_neg ha]
end Go.Proofs.YtemenenkefcebaaDoor.B
