/- Numbers as texts, without Go: what Value answers, of lists of bytes; the numerals to ten and to sixteen. -/
import Derived.Test.YtefofaamhaiejaaDoorNm1
namespace Go.Proofs.YtefofaamhaiejaaDoor.Nm
open Go.RowKit Go.Proofs.YtefofaamhaiejaaDoor.P Go.Proofs.YtefofaamhaiejaaDoor.K Go.Proofs.YtefofaamhaiejaaDoorW.PrintWords Go.Proofs.YtefofaamhaiejaaDoorW.PrintLast Go.Proofs.YtefofaamhaiejaaDoorW.PrintMore
def dN (c : UInt8) : Nat := (dgI c.toNat).toNat
/-- The number of digits, most significant first, behind v. -/
def valN (b : Nat) : List UInt8 → Nat → Nat
  | [], v => v
  | c :: r, v => valN b r (v * b + dN c)
theorem valN_le (b : Nat) (hb : 1 ≤ b) : ∀ (l : List UInt8) (v : Nat), v ≤ valN b l v
  | [], v => Nat.le_refl v
  | c :: r, v => by
    have h1 : v ≤ v * b := Nat.le_mul_of_pos_right v hb
    have := valN_le b hb r (v * b + dN c)
    show v ≤ valN b r (v * b + dN c)
    omega
theorem valL_eq (b : Nat) (hb : 1 ≤ b) : ∀ (l : List UInt8) (v : Nat), v < 18446744073709551616 → valL b l v = if valN b l v < 18446744073709551616 then some (valN b l v) else none
  | [], v, h => by rw [valL, valN, if_pos h]
  | c :: r, v, h => by
    show (if v * b + dN c < 18446744073709551616 then valL b r (v * b + dN c) else none) = if valN b r (v * b + dN c) < 18446744073709551616 then some (valN b r (v * b + dN c)) else none
    by_cases hc : v * b + dN c < 18446744073709551616
    · rw [if_pos hc, valL_eq b hb r _ hc]
    · rw [if_neg hc, if_neg (by have := valN_le b hb r (v * b + dN c); omega)]
theorem valN_append (b : Nat) : ∀ (l m : List UInt8) (v : Nat), valN b (l ++ m) v = valN b m (valN b l v)
  | [], _, _ => rfl
  | c :: r, m, v => valN_append b r m (v * b + dN c)
/-- Value's answer, of a base and the digits. -/
def ansL (b : Nat) (l : List UInt8) : Int × Int := if valN b l 0 < 18446744073709551616 then ((valN b l 0 : Nat), 0) else (0, 4)
theorem value_ok {s : ByteArray} (h : okB (restS s) (baseS s) = true) : num_Value.f s = some (ansL (baseS s) (restS s).data.toList) := by
  have hb : 1 ≤ baseS s := by unfold baseS; split <;> decide
  unfold num_Value.f
  rw [if_pos h, valL_eq _ hb _ 0 (by decide)]
  unfold ansL
  split
  · rename_i h; rw [if_pos (by split at h <;> simp_all)]; split at h <;> simp_all
  · rename_i h; rw [if_neg (by split at h <;> simp_all)]
theorem value_no {s : ByteArray} (h : okB (restS s) (baseS s) = false) : num_Value.f s = some (0, 3) := by
  unfold num_Value.f
  rw [if_neg (by rw [h]; decide)]
/-- A byte that is a digit of ten. -/
def dec (c : UInt8) : Bool := decide (48 ≤ c.toNat) && decide (c.toNat ≤ 57)
theorem dec_iff {c : UInt8} : dec c = true ↔ 48 ≤ c.toNat ∧ c.toNat ≤ 57 := by unfold dec; simp
theorem dN_dec {c : UInt8} (h : dec c = true) : dN c = c.toNat - 48 := by
  have := dec_iff.1 h
  unfold dN dgI
  rw [if_pos (by omega)]
  omega
theorem dgB_dec : ∀ c : UInt8, dgB 10 c = dec c := by
  intro c
  have h : ∀ n : Nat, n < 256 → (dgP 10 n).2 = (decide (48 ≤ n) && decide (n ≤ 57)) := by decide +kernel
  exact h c.toNat (UInt8.toNat_lt c)
theorem okB_dec {s : ByteArray} : okB s 10 = (s.data.toList.all dec && !s.data.toList.isEmpty) := by
  unfold okB
  have e : dgB 10 = dec := funext dgB_dec
  rw [e]
/-- A text of digits of ten alone does not begin with 0x. -/
theorem hexS_dec {s : ByteArray} (h : s.data.toList.all dec = true) : hexS s = false := by
  unfold hexS
  by_cases h2 : 2 ≤ s.size
  · rw [decide_eq_true h2, Bool.true_and]
    have e : (s.extract 0 2).toList = s.data.toList.take 2 := by simp [ByteArray.toList_eq]
    rw [e]
    cases hl : s.data.toList with
    | nil => rfl
    | cons a r =>
      cases r with
      | nil => exact beq_eq_false_iff_ne.2 (by simp)
      | cons b r =>
        rw [hl] at h
        simp only [List.all_cons, Bool.and_eq_true] at h
        have hb := dec_iff.1 h.2.1
        show ([a, b] == [48, 120]) = false
        rw [beq_eq_false_iff_ne]
        intro e
        injection e with _ e
        injection e with e _
        subst e
        exact absurd hb (by decide)
  · rw [decide_eq_false h2]
    rfl
theorem value_dec {s : ByteArray} (h : s.data.toList.all dec = true) (hne : s.data.toList ≠ []) : num_Value.f s = some (ansL 10 s.data.toList) := by
  have hx := hexS_dec h
  have er : restS s = s := by unfold restS; rw [hx]; rfl
  have eb : baseS s = 10 := by unfold baseS; rw [hx]; rfl
  have hok : okB (restS s) (baseS s) = true := by
    rw [er, eb]
    show okB s 10 = true
    rw [okB_dec, h]
    cases hl : s.data.toList with
    | nil => exact absurd hl hne
    | cons a r => rfl
  rw [value_ok hok, er, eb]
theorem value_hex (l : List UInt8) (h : l.all (dgB 16) = true) (hne : l ≠ []) : num_Value.f ⟨(48 :: 120 :: l).toArray⟩ = some (ansL 16 l) := by
  have hx : hexS ⟨(48 :: 120 :: l).toArray⟩ = true := by
    unfold hexS
    rw [decide_eq_true (by simp [ByteArray.size])]
    have e : ((⟨(48 :: 120 :: l).toArray⟩ : ByteArray).extract 0 2).toList = [48, 120] := by simp [ByteArray.toList_eq]
    rw [e]
    rfl
  have er : (restS ⟨(48 :: 120 :: l).toArray⟩).data.toList = l := by
    unfold restS
    rw [hx, if_pos rfl]
    simp [ByteArray.size]
  have eb : baseS ⟨(48 :: 120 :: l).toArray⟩ = 16 := by unfold baseS; rw [hx]; rfl
  have hok : okB (restS ⟨(48 :: 120 :: l).toArray⟩) (baseS ⟨(48 :: 120 :: l).toArray⟩) = true := by
    unfold okB
    rw [er, eb]
    show (l.all (dgB 16) && !l.isEmpty) = true
    rw [h]
    cases l with
    | nil => exact absurd rfl hne
    | cons a r => rfl
  rw [value_ok hok, er, eb]
/-! ### the numeral to ten -/
theorem decC : ∀ n : Nat, n < 10 → dec (UInt8.ofNat (48 + n)) = true ∧ dN (UInt8.ofNat (48 + n)) = n ∧ (UInt8.ofNat (48 + n) = 48 ↔ n = 0) := by decide +kernel
theorem decDigits_big {u : Nat} (h : ¬ u < 10) : Go.Lib.decDigits u = Go.Lib.decDigits (u / 10) ++ [UInt8.ofNat (48 + u % 10)] := by rw [Go.Lib.decDigits, dif_neg h]
theorem dec_facts : ∀ (n v : Nat), v < n → (Go.Lib.decDigits v).all dec = true ∧ valN 10 (Go.Lib.decDigits v) 0 = v ∧ ∃ c r, Go.Lib.decDigits v = c :: r ∧ (c = 48 ↔ v = 0) := by
  intro n
  induction n with
  | zero => intro v h; omega
  | succ n ih =>
    intro v h
    by_cases h10 : v < 10
    · rw [Go.Lib.decDigits_one h10]
      obtain ⟨h1, h2, h3⟩ := decC v h10
      refine ⟨by rw [List.all_cons, h1]; rfl, ?_, _, _, rfl, h3⟩
      show 0 * 10 + dN _ = v
      rw [h2]; omega
    · obtain ⟨h1, h2, c, r, h3, h4⟩ := ih (v / 10) (by omega)
      obtain ⟨g1, g2, g3⟩ := decC (v % 10) (by omega)
      rw [decDigits_big h10]
      refine ⟨by rw [List.all_append, h1, List.all_cons, g1]; rfl, ?_, c, r ++ [_], by rw [h3]; rfl, ?_⟩
      · rw [valN_append, h2]
        show v / 10 * 10 + dN _ = v
        rw [g2]; omega
      · rw [h4]; omega
theorem decS_list (v : Nat) : (decS v).data.toList = Go.Lib.decDigits v := by unfold decS; simp
/-! ### the numeral to sixteen -/
theorem hexCf : ∀ n : Nat, n < 16 → dgB 16 (hexC n) = true ∧ dN (hexC n) = n ∧ (hexC n = 48 ↔ n = 0) := by decide +kernel
theorem hex_facts : ∀ (f v : Nat), v < 16 ^ (f + 1) → (hexL (f + 1) v).all (dgB 16) = true ∧ valN 16 (hexL (f + 1) v) 0 = v ∧ ∃ c r, hexL (f + 1) v = c :: r ∧ (c = 48 ↔ v = 0) := by
  intro f
  induction f with
  | zero =>
    intro v h
    have hv : v < 16 := by simpa using h
    obtain ⟨h1, h2, h3⟩ := hexCf v hv
    rw [hexL, if_pos hv]
    refine ⟨by simp [h1], ?_, _, _, rfl, h3⟩
    show 0 * 16 + dN _ = v
    rw [h2]; omega
  | succ f ih =>
    intro v h
    by_cases hv : v < 16
    · obtain ⟨h1, h2, h3⟩ := hexCf v hv
      rw [hexL, if_pos hv]
      refine ⟨by simp [h1], ?_, _, _, rfl, h3⟩
      show 0 * 16 + dN _ = v
      rw [h2]; omega
    · obtain ⟨h1, h2, c, r, h3, h4⟩ := ih (v / 16) (by rw [Nat.pow_succ] at h; exact Nat.div_lt_of_lt_mul (by rw [Nat.mul_comm]; exact h))
      obtain ⟨g1, g2, g3⟩ := hexCf (v % 16) (by omega)
      rw [hexL, if_neg hv]
      refine ⟨by rw [List.all_append, h1]; simp [g1], ?_, c, r ++ [_], by rw [h3]; rfl, ?_⟩
      · rw [valN_append, h2]
        show v / 16 * 16 + dN _ = v
        rw [g2]; omega
      · rw [h4]; omega
theorem hexT_list (v : Nat) : (hexT v).data.toList = hexL 16 v := by unfold hexT; simp
theorem text_f {v : Nat} (h : v < 18446744073709551616) : num_Text.f (v : Int) = some (decS v) := by
  unfold num_Text.f strconv_FormatUint_26.f strconv_FormatUint_28.f
  rw [if_pos ⟨by omega, by omega, Or.inl rfl⟩, if_pos rfl]
  rfl
theorem hexL_len : ∀ (f v : Nat), (hexL f v).length ≤ f
  | 0, _ => Nat.le_refl 0
  | f + 1, v => by
    rw [hexL]
    split
    · simp
    · have := hexL_len f (v / 16)
      simp
      omega
theorem hexT_size (v : Nat) : (hexT v).size ≤ 16 := by
  have := hexL_len 16 v
  rw [← hexT_list] at this
  simpa using this
theorem hex_f {v : Nat} (h : v < 18446744073709551616) : num_Hex.f (v : Int) = some ⟨(48 :: 120 :: hexL 16 v).toArray⟩ := by
  unfold num_Hex.f strconv_FormatUint_26.f strconv_FormatUint_28.f
  rw [if_pos ⟨by omega, by omega, Or.inr rfl⟩, if_neg (by decide)]
  show (if 2 + (hexT v).size ≤ 9223372036854775807 then some ((⟨#[48, 120]⟩ : ByteArray) ++ hexT v) else none) = _
  rw [if_pos (by have := hexT_size v; omega)]
  unfold hexT
  congr 1
end Go.Proofs.YtefofaamhaiejaaDoor.Nm
