/- UTF-8: what is encoded is decoded; plain Lean. -/
import Derived.Test.YtghpbbdmljobjaaDoorLx1
namespace Go.Proofs.YtghpbbdmljobjaaDoor.P
open Go.Lib
def scal (r : Int) : Prop := 0 ≤ r ∧ r ≤ 1114111 ∧ (r < 55296 ∨ 57344 ≤ r)
theorem tb {z : Int} (h0 : 0 ≤ z) (h : z < 256) : z.toNat.toUInt8.toNat = z.toNat := by
  simp
  omega
set_option maxHeartbeats 1000000 in
theorem decode_encode (r : Int) (h : scal r) (t : List UInt8) : decodeL (encodeRune r ++ t) = (r.toNat, (encodeRune r).length) := by
  obtain ⟨h0, h1, h2⟩ := h
  rw [decodeL_N]
  by_cases c1 : r ≤ 127
  · have e : encodeRune r = [r.toNat.toUInt8] := by unfold encodeRune; rw [encodeRuneZ_one h0 c1]; rfl
    rw [e]
    simp only [List.cons_append, List.nil_append, List.getD_cons_zero, List.length_cons, List.length_nil]
    unfold decodeN
    rw [tb h0 (by omega), if_pos (by omega)]
  · by_cases c2 : r ≤ 2047
    · have e : encodeRune r = [(192 + r / 64).toNat.toUInt8, (128 + r % 64).toNat.toUInt8] := by unfold encodeRune; rw [encodeRuneZ_two (by omega) c2]; rfl
      rw [e]
      simp only [List.cons_append, List.nil_append, List.getD_cons_zero, List.getD_cons_succ, List.length_cons, List.length_nil]
      rw [tb (by omega) (by omega), tb (by omega) (by omega)]
      unfold decodeN
      rw [if_neg (by omega), if_pos (by omega), if_pos (by omega)]
      exact Prod.ext (by show _ = r.toNat; omega) rfl
    · by_cases c3 : r ≤ 65535
      · have e : encodeRune r = [(224 + r / 4096).toNat.toUInt8, (128 + r / 64 % 64).toNat.toUInt8, (128 + r % 64).toNat.toUInt8] := by unfold encodeRune; rw [encodeRuneZ_three (by omega)]; rfl
        rw [e]
        simp only [List.cons_append, List.nil_append, List.getD_cons_zero, List.getD_cons_succ, List.length_cons, List.length_nil]
        rw [tb (by omega) (by omega), tb (by omega) (by omega), tb (by omega) (by omega)]
        unfold decodeN
        rw [if_neg (by omega), if_neg (by omega), if_pos (by omega), if_pos (by omega)]
        exact Prod.ext (by show _ = r.toNat; omega) rfl
      · have e : encodeRune r = [(240 + r / 262144).toNat.toUInt8, (128 + r / 4096 % 64).toNat.toUInt8, (128 + r / 64 % 64).toNat.toUInt8, (128 + r % 64).toNat.toUInt8] := by unfold encodeRune; rw [encodeRuneZ_four (by omega) h1]; rfl
        rw [e]
        simp only [List.cons_append, List.nil_append, List.getD_cons_zero, List.getD_cons_succ, List.length_cons, List.length_nil]
        rw [tb (by omega) (by omega), tb (by omega) (by omega), tb (by omega) (by omega), tb (by omega) (by omega)]
        unfold decodeN
        rw [if_neg (by omega), if_neg (by omega), if_neg (by omega), if_pos (by omega), if_pos (by omega)]
        exact Prod.ext (by show _ = r.toNat; omega) rfl
theorem enc_pos (r : Int) : 1 ≤ (encodeRune r).length := by
  unfold encodeRune encodeRuneZ
  repeat' split
  all_goals simp
theorem enc_fffd {r : Int} (h : r = 65533) : (encodeRune r).length = 3 := by subst h; rfl
theorem runes_enc (r : Int) (h : scal r) (t : List UInt8) : runesL (encodeRune r ++ t) = r :: runesL t := by
  rw [runesL_step _ (fun e => by have h9 := enc_pos r; rw [(List.append_eq_nil_iff.1 e).1] at h9; simp at h9), decode_encode r h t]
  simp only [List.drop_left]
  have := h.1
  rw [show ((r.toNat : Nat) : Int) = r by omega]
theorem valid_enc (r : Int) (h : scal r) (t : List UInt8) : validD (encodeRune r ++ t) = validD t := by
  rw [validD_step _ (fun e => by have h9 := enc_pos r; rw [(List.append_eq_nil_iff.1 e).1] at h9; simp at h9), decode_encode r h t]
  simp only [List.drop_left]
  rw [if_neg]
  rintro ⟨e1, e2⟩
  have h0 := h.1
  have := enc_fffd (r := r) (by omega)
  omega
theorem encL_cons (r : Int) (R : List Int) : encL (r :: R) = encodeRune r ++ encL R := rfl
theorem encL_append (R S : List Int) : encL (R ++ S) = encL R ++ encL S := by unfold encL; simp
theorem runes_encL : ∀ (R : List Int), (∀ r ∈ R, scal r) → ∀ t, runesL (encL R ++ t) = R ++ runesL t
  | [], _, t => rfl
  | r :: R, h, t => by
    rw [encL_cons, List.append_assoc, runes_enc r (h r List.mem_cons_self), runes_encL R (fun x hx => h x (List.mem_cons_of_mem _ hx))]
    rfl
theorem valid_encL : ∀ (R : List Int), (∀ r ∈ R, scal r) → ∀ t, validD (encL R ++ t) = validD t
  | [], _, t => rfl
  | r :: R, h, t => by
    rw [encL_cons, List.append_assoc, valid_enc r (h r List.mem_cons_self), valid_encL R (fun x hx => h x (List.mem_cons_of_mem _ hx))]
theorem decode_scal (l : List UInt8) : scal ((decodeL l).1 : Int) := by
  rw [decodeL_N]
  have k0 := (l.getD 0 0).toNat_lt
  have k1 := (l.getD 1 0).toNat_lt
  unfold scal
  rcases decodeN_shape l.length (l.getD 0 0).toNat (l.getD 1 0).toNat (l.getD 2 0).toNat (l.getD 3 0).toNat with ⟨c, e⟩ | ⟨c1, c2, c3, cv, e⟩ | ⟨c1, c2, c3, c4, cv, cs, e⟩ | ⟨c1, c2, c3, c4, c5, cv, cw, e⟩ | e
  all_goals (rw [e]; dsimp only; omega)
theorem runes_scal : ∀ (n : Nat) (l : List UInt8), l.length ≤ n → ∀ r ∈ runesL l, scal r
  | 0, l, h => by
    obtain rfl : l = [] := List.eq_nil_of_length_eq_zero (by omega)
    intro x hx
    cases hx
  | n + 1, l, h => by
    by_cases h0 : l = []
    · subst h0; intro x hx; cases hx
    · have hp : 0 < l.length := List.length_pos_iff.2 h0
      have := decodeL_width l
      intro x hx
      rw [runesL_step l h0, List.mem_cons] at hx
      rcases hx with rfl | hx
      · exact decode_scal l
      · exact runes_scal n _ (by simp; omega) x hx
theorem enc_runes : ∀ (n : Nat) (l : List UInt8), l.length ≤ n → validD l = true → encL (runesL l) = l
  | 0, l, h, _ => by
    obtain rfl : l = [] := List.eq_nil_of_length_eq_zero (by omega)
    rfl
  | n + 1, l, h, hv => by
    by_cases h0 : l = []
    · subst h0; rfl
    · have hp : 0 < l.length := List.length_pos_iff.2 h0
      have hw := decodeL_width l
      rw [validD_step l h0] at hv
      by_cases hb : (decodeL l).1 = 65533 ∧ (decodeL l).2 = 1
      · rw [if_pos hb] at hv; cases hv
      · rw [if_neg hb] at hv
        rw [runesL_step l h0, encL_cons, encode_decode l h0 hb, enc_runes n _ (by simp; omega) hv, List.take_append_drop]
theorem valid_app {s : List UInt8} (h : validD s = true) (t : List UInt8) : validD (s ++ t) = validD t := by
  have e := enc_runes _ s (Nat.le_refl _) h
  rw [← e]
  exact valid_encL _ (runes_scal _ s (Nat.le_refl _)) t
theorem runes_app {s : List UInt8} (h : validD s = true) (t : List UInt8) : runesL (s ++ t) = runesL s ++ runesL t := by
  have e := enc_runes _ s (Nat.le_refl _) h
  conv => lhs; rw [← e]
  exact runes_encL _ (runes_scal _ s (Nat.le_refl _)) t
theorem valid_asc : ∀ (l : List UInt8), (∀ c ∈ l, c.toNat < 128) → validD l = true
  | [], _ => rfl
  | c :: l, h => by rw [validD_cons c l (h c List.mem_cons_self)]; exact valid_asc l (fun x hx => h x (List.mem_cons_of_mem _ hx))
theorem runes_asc : ∀ (l : List UInt8), (∀ c ∈ l, c.toNat < 128) → runesL l = l.map (fun c => (c.toNat : Int))
  | [], _ => rfl
  | c :: l, h => by
    rw [runesL_step _ (by simp), decodeL_ascii c l (h c List.mem_cons_self)]
    simp only [List.drop_succ_cons, List.drop_zero, List.map_cons]
    rw [runes_asc l (fun x hx => h x (List.mem_cons_of_mem _ hx))]
theorem valid_tail : ∀ (n : Nat) (x : List UInt8) (c : UInt8) (y : List UInt8), x.length ≤ n → c.toNat < 128 → validD (x ++ c :: y) = true → validD y = true
  | n, [], c, y, _, hc, h => by
    rw [List.nil_append, validD_cons c y hc] at h
    exact h
  | 0, x :: xs, c, y, hn, hc, h => by simp at hn
  | n + 1, x :: xs, c, y, hn, hc, h => by
    have h0 : (x :: xs) ++ c :: y ≠ [] := by simp
    have hw := decodeL_width ((x :: xs) ++ c :: y)
    rw [validD_step _ h0] at h
    by_cases hb : (decodeL ((x :: xs) ++ c :: y)).1 = 65533 ∧ (decodeL ((x :: xs) ++ c :: y)).2 = 1
    · rw [if_pos hb] at h; cases h
    · rw [if_neg hb] at h
      by_cases hle : (decodeL ((x :: xs) ++ c :: y)).2 ≤ (x :: xs).length
      · rw [List.drop_append_of_le_length hle] at h
        exact valid_tail n _ c y (by rw [List.length_drop]; omega) hc h
      · exfalso
        have hg : (((x :: xs) ++ c :: y).getD (x :: xs).length 0) = c := by simp
        rw [decodeL_N] at hle hb
        generalize ((x :: xs) ++ c :: y) = l at *
        have hlen : 1 ≤ (x :: xs).length := by simp
        generalize (x :: xs).length = m at *
        rcases decodeN_shape l.length (l.getD 0 0).toNat (l.getD 1 0).toNat (l.getD 2 0).toNat (l.getD 3 0).toNat with ⟨c, e⟩ | ⟨c1, c2, c3, cv, e⟩ | ⟨c1, c2, c3, c4, cv, cs, e⟩ | ⟨c1, c2, c3, c4, c5, cv, cw, e⟩ | e
        · rw [e] at hle; dsimp only at hle; omega
        · rw [e] at hle; dsimp only at hle
          obtain rfl : m = 1 := by omega
          rw [hg] at c3; omega
        · rw [e] at hle; dsimp only at hle
          rcases (show m = 1 ∨ m = 2 by omega) with rfl | rfl
          · rw [hg] at c3; omega
          · rw [hg] at c4; omega
        · rw [e] at hle; dsimp only at hle
          rcases (show m = 1 ∨ m = 2 ∨ m = 3 by omega) with rfl | rfl | rfl
          · rw [hg] at c3; omega
          · rw [hg] at c4; omega
          · rw [hg] at c5; omega
        · rw [e] at hle; dsimp only at hle; omega
end Go.Proofs.YtghpbbdmljobjaaDoor.P
