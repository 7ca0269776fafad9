/- Numbers as bytes: what wire's functions answer, over lists of natural numbers. -/
import Derived.Test.YtbjacjileomglaaKb
import Derived.Test.YtbjacjileomglaaPx1
namespace Go.Proofs.Ytbjacjileomglaa.Wr
open Go.RowKit Go.Proofs.Ytbjacjileomglaa.P Go.Proofs.Ytbjacjileomglaa.K Go.Proofs.YtbjacjileomglaaW.PrintWords Go.Proofs.YtbjacjileomglaaW.PrintLast Go.Proofs.YtbjacjileomglaaW.PrintMore
set_option linter.unusedVariables false
set_option linter.unusedSimpArgs false
theorem at_rounds {α : Type} {f : Nat → Option α} (hm : ∀ k, LeO (f k) (f (k + 1))) {a : Nat} {r : α} (hr : f a = some r) : ∀ {b : Nat}, a ≤ b → f b = some r := by
  intro b hb
  induction hb with
  | refl => exact hr
  | step _ ih => exact hm _ _ ih
theorem sent_t (k : Nat) (hk : 60 ≤ k) : cleatlaw18_sent.f k = some true := at_rounds cleatlaw18_sent.mono (a := 60) (by decide +kernel) hk
theorem next_nat (i : Nat) (h : i < 4611686018427387904) : wrap64 ((i : Int) + 1) = ((i + 1 : Nat) : Int) := by rw [w64_in ⟨by omega, by omega⟩]; omega
theorem tmod_nat (a b : Nat) : Int.tmod (a : Int) (b : Int) = ((a % b : Nat) : Int) := rfl

/-! ### bytes -/
def L (s : ByteArray) : List Nat := s.data.toList.map UInt8.toNat
theorem L_len (s : ByteArray) : (L s).length = s.size := by unfold L; rw [List.length_map, Array.length_toList]; rfl
theorem L_app (s t : ByteArray) : L (s ++ t) = L s ++ L t := by simp [L, ByteArray.data_append]
theorem L_lt (s : ByteArray) : ∀ x ∈ L s, x < 256 := by
  intro x hx
  obtain ⟨y, _, rfl⟩ := List.mem_map.1 hx
  exact UInt8.toNat_lt y
theorem L_inj {s t : ByteArray} (h : L s = L t) : s = t := by
  apply ByteArray.ext
  apply Array.ext'
  exact (List.map_inj_right (fun a b h => UInt8.toNat_inj.1 h)).1 h
theorem L_ext (s : ByteArray) (i j : Nat) : L (s.extract i j) = ((L s).take j).drop i := by
  simp [L, ByteArray.data_extract, List.map_take, List.map_drop, List.extract_eq_take_drop, List.drop_take]
theorem L_nums (xs : List Nat) (h : ∀ x ∈ xs, x < 256) : L (strOfNums (xs.map fun x : Nat => (x : Int))) = xs := by
  unfold L
  rw [strOfNums_data, List.map_map, List.map_map]
  conv => rhs; rw [← List.map_id xs]
  refine List.map_congr_left fun x hx => ?_
  have := h x hx
  simp only [Function.comp, Int.toNat_natCast, UInt8.toNat_ofNat', id]
  omega
theorem bt_L (s : ByteArray) (i : Nat) (h : i < s.size) : bt s (i : Int) = (((L s)[i]'(by rw [L_len]; exact h) : Nat) : Int) := by
  unfold bt
  rw [dif_pos (by simpa using h)]
  simp [L, ByteArray.getElem_eq_getElem_data]

/-! ### put -/
def enc : Nat → Nat → List Nat
  | 0, v => [v]
  | f + 1, v => if 128 ≤ v then (v % 128 + 128) :: enc f (v / 128) else [v]
theorem enc_lt : ∀ (f v : Nat), v < 128 ^ (f + 1) → ∀ x ∈ enc f v, x < 256
  | 0, v, h => by simp [enc]; omega
  | f + 1, v, h => by
    unfold enc
    split
    · intro x hx
      rcases List.mem_cons.1 hx with rfl | hx
      · omega
      · exact enc_lt f _ (by rw [Nat.div_lt_iff_lt_mul (by decide)]; rw [Nat.pow_succ] at h; exact h) x hx
    · simp; omega
theorem enc_len : ∀ (f v : Nat), (enc f v).length ≤ f + 1 ∧ 1 ≤ (enc f v).length
  | 0, v => by simp [enc]
  | f + 1, v => by
    unfold enc
    split
    · have := enc_len f (v / 128)
      simp; omega
    · simp
theorem put_l0 : ∀ (f k v : Nat) (out : List Int), v < 128 ^ (f + 1) → f < k → out.length + f < 1000 → wire_Put.l0 k (v : Int) out = some (out ++ (enc f v).map fun x : Nat => (x : Int))
  | 0, k, v, out, h, hk, ho => by
    obtain ⟨k, rfl⟩ : ∃ m, k = m + 1 := ⟨k - 1, by omega⟩
    simp only [wire_Put.l0]
    rw [if_pos (by omega), if_neg (by simp at h; omega)]
    simp [enc]
    simp at h; omega
  | f + 1, k, v, out, h, hk, ho => by
    obtain ⟨k, rfl⟩ : ∃ m, k = m + 1 := ⟨k - 1, by omega⟩
    simp only [wire_Put.l0]
    rw [if_pos (by omega)]
    by_cases hv : 128 ≤ v
    · rw [if_pos (by omega), shr7, show (v : Int) / 128 = ((v / 128 : Nat) : Int) by omega, put_l0 f k (v / 128) _ (by rw [Nat.div_lt_iff_lt_mul (by decide)]; rw [Nat.pow_succ] at h; exact h) (by omega) (by simp; omega)]
      simp only [enc, if_pos hv, List.map_cons, List.append_assoc, List.singleton_append]
      rw [show Int.tmod (v : Int) 128 = ((v % 128 : Nat) : Int) from rfl]
      congr 3
      omega
    · rw [if_neg (by omega)]
      simp only [enc, if_neg hv, List.map_cons, List.map_nil]
      congr 3
      omega
theorem pow10 {v : Nat} (h : v < 18446744073709551616) : v < 128 ^ 10 := Nat.lt_of_lt_of_le h (by decide)
abbrev E (v : Nat) : List Nat := enc 9 v
theorem put_f (v : Nat) (hv : v < 18446744073709551616) (k : Nat) (hk : 12 ≤ k) : wire_Put.f k (v : Int) = some (strOfNums ((E v).map fun x : Nat => (x : Int))) := by
  unfold wire_Put.f
  rw [put_l0 9 k v [] (pow10 hv) (by omega) (by simp)]
  rfl
theorem E_lt {v : Nat} (hv : v < 18446744073709551616) : ∀ x ∈ E v, x < 256 := enc_lt 9 v (pow10 hv)
def encB (v : Nat) : ByteArray := strOfNums ((E v).map fun x : Nat => (x : Int))
theorem L_enc {v : Nat} (hv : v < 18446744073709551616) : L (encB v) = E v := L_nums _ (E_lt hv)
theorem encB_size (v : Nat) : (encB v).size = (E v).length := by unfold encB; rw [strOfNums_size, List.length_map]
theorem putText_f (s : ByteArray) (hs : s.size ≤ 1000000) (k : Nat) (hk : 12 ≤ k) : wire_PutText.f k s = some (encB s.size ++ s) := by
  unfold wire_PutText.f
  rw [if_pos hs, put_l0 9 k s.size [] (pow10 (by omega)) (by omega) (by simp)]
  rfl

/-! ### get -/
def getS : Nat → Nat → List Nat → Nat × Nat × Nat
  | _, _, [] => (0, 0, 9)
  | i, acc, b :: l => if (i = 9 ∧ 1 < b) ∨ (0 < i ∧ b = 0) then (0, 0, 3) else if b < 128 then (acc + b % 128 * 2 ^ (7 * i), i + 1, 0) else getS (i + 1) (acc + b % 128 * 2 ^ (7 * i)) l
def c3 (r : Nat × Nat × Nat) : Int × Int × Int := (r.1, r.2.1, r.2.2)
theorem or_add {acc i b : Nat} (ha : acc < 2 ^ (7 * i)) (hi : i ≤ 9) (hb : b < 128) (h9 : i = 9 → b ≤ 1) :
    Go.bits .or .u64 (acc : Int) (shl .u64 (b : Int) ((7 * i : Nat) : Int)) = ((acc + b * 2 ^ (7 * i) : Nat) : Int) ∧ acc + b * 2 ^ (7 * i) < 18446744073709551616 ∧ acc + b * 2 ^ (7 * i) < 2 ^ (7 * (i + 1)) := by
  have hp : 2 ^ (7 * (i + 1)) = 128 * 2 ^ (7 * i) := by rw [Nat.mul_add, Nat.pow_add, Nat.mul_comm]
  have hlt : acc + b * 2 ^ (7 * i) < 18446744073709551616 := by
    by_cases h : i = 9
    · subst h
      have := h9 rfl
      have hb2 : b = 0 ∨ b = 1 := by omega
      rcases hb2 with rfl | rfl <;> simp at ha ⊢ <;> omega
    · have h8 : 2 ^ (7 * (i + 1)) ≤ 2 ^ 63 := Nat.pow_le_pow_right (by decide) (by omega)
      have : (b + 1) * 2 ^ (7 * i) ≤ 128 * 2 ^ (7 * i) := Nat.mul_le_mul_right _ (by omega)
      rw [Nat.add_mul] at this
      omega
  have hl2 : acc + b * 2 ^ (7 * i) < 2 ^ (7 * (i + 1)) := by
    have : (b + 1) * 2 ^ (7 * i) ≤ 128 * 2 ^ (7 * i) := Nat.mul_le_mul_right _ (by omega)
    rw [Nat.add_mul] at this
    omega
  refine ⟨?_, hlt, hl2⟩
  rw [shl64 b (7 * i) (by omega), Nat.mod_eq_of_lt (by omega), (b64 acc (b * 2 ^ (7 * i)) (by omega) (by omega)).2]
  congr 1
  rw [Nat.or_comm, Nat.add_comm, Nat.mul_comm b, Nat.two_pow_add_eq_or_of_lt ha]
theorem get_l0 (s : ByteArray) : ∀ (d k i acc : Nat), i + d = 9 → 2 * d + 4 < k → acc < 2 ^ (7 * i) → wire_Get.l0 k s (acc : Int) (i : Int) = some (c3 (getS i acc ((L s).drop i))) := by
  intro d
  induction d with
  | zero =>
    intro k i acc hi hk ha
    obtain ⟨k, rfl⟩ : ∃ m, k = m + 2 := ⟨k - 2, by omega⟩
    obtain rfl : i = 9 := by omega
    simp only [wire_Get.l0]
    rw [if_pos (by omega)]
    by_cases hs : 9 < s.size
    · rw [if_neg (by omega), if_pos (by omega), if_pos (by omega), if_pos (by rfl), bt_L s 9 hs, List.drop_eq_getElem_cons (by rw [L_len]; exact hs)]
      have hbl := L_lt s _ (List.getElem_mem (by rw [L_len]; exact hs))
      generalize (L s)[9]'(by rw [L_len]; exact hs) = b at *
      simp only [wire_Get.j1, getS]
      by_cases hb1 : 1 < b
      · rw [if_pos (by omega), if_pos trivial, if_pos (Or.inl ⟨trivial, hb1⟩)]; rfl
      · rw [if_neg (by omega), if_pos (by omega)]
        by_cases hb0 : b = 0
        · subst hb0
          rw [if_pos (by rfl), if_pos (by omega)]; rfl
        · rw [show ((b : Int) == 0) = false by simpa using hb0, if_neg (by simp), w64_in (n := 7 * ((9 : Nat) : Int)) ⟨by omega, by omega⟩, if_pos (by omega), if_pos (by omega), if_neg (by omega), if_pos (by omega)]
          obtain ⟨h1, h2, h3⟩ := or_add (b := b) ha (by omega) (by omega) (fun _ => by omega)
          rw [show Int.tmod (b : Int) 128 = ((b % 128 : Nat) : Int) from rfl, Nat.mod_eq_of_lt (show b < 128 by omega), wu64_in ⟨by omega, by omega⟩]
          rw [show (7 * ((9 : Nat) : Int)) = ((7 * 9 : Nat) : Int) by rfl, h1, next_nat 9 (by omega)]
          rfl
    · rw [if_pos (by omega), List.drop_eq_nil_of_le (by rw [L_len]; omega)]; rfl
  | succ d ih =>
    intro k i acc hi hk ha
    obtain ⟨k, rfl⟩ : ∃ m, k = m + 2 := ⟨k - 2, by omega⟩
    simp only [wire_Get.l0]
    rw [if_pos (by omega)]
    by_cases hs : i < s.size
    · rw [if_neg (by omega), if_pos (by omega), if_pos (by omega), if_neg (by omega), bt_L s i hs, List.drop_eq_getElem_cons (by rw [L_len]; exact hs)]
      have hbl := L_lt s _ (List.getElem_mem (by rw [L_len]; exact hs))
      generalize (L s)[i]'(by rw [L_len]; exact hs) = b at *
      have hj : (if (i : Int) > 0 then wire_Get.j1 (k + 1) s (acc : Int) i b i ((b : Int) == 0) else wire_Get.j1 (k + 1) s (acc : Int) i b i false) = wire_Get.j1 (k + 1) s (acc : Int) i b i (decide (0 < i ∧ b = 0)) := by
        by_cases h0 : 0 < i
        · rw [if_pos (by omega)]
          congr 1
          by_cases hb : b = 0 <;> simp [hb, h0]
        · rw [if_neg (by omega)]
          congr 1
          simp [h0]
      rw [hj]
      simp only [wire_Get.j1, getS]
      by_cases hbad : 0 < i ∧ b = 0
      · rw [decide_eq_true hbad, if_pos rfl, if_pos (Or.inr hbad)]; rfl
      · rw [decide_eq_false hbad, if_neg (by simp), w64_in (n := 7 * (i : Int)) ⟨by omega, by omega⟩, if_pos (by omega), if_neg (show ¬ (i = 9 ∧ 1 < b ∨ 0 < i ∧ b = 0) by omega)]
        obtain ⟨h1, h2, h3⟩ := or_add (b := b % 128) ha (by omega) (by omega) (fun _ => by omega)
        rw [show Int.tmod (b : Int) 128 = ((b % 128 : Nat) : Int) from rfl, wu64_in (n := ((b % 128 : Nat) : Int)) ⟨by omega, by omega⟩, show 7 * (i : Int) = ((7 * i : Nat) : Int) by omega, h1, next_nat i (by omega)]
        by_cases hb : b < 128
        · rw [if_pos (by omega), if_pos hb]; rfl
        · rw [if_neg (by omega), if_neg hb]
          exact ih k (i + 1) _ (by omega) (by omega) h3
    · rw [if_pos (by omega), List.drop_eq_nil_of_le (by rw [L_len]; omega)]; rfl
theorem get_f (s : ByteArray) (k : Nat) (hk : 30 ≤ k) : wire_Get.f k s = some (c3 (getS 0 0 (L s))) := get_l0 s 9 k 0 0 rfl (by omega) (by simp)
/-- What is put is got. -/
theorem get_enc : ∀ (f v i acc : Nat) (m : List Nat), i + f = 9 → v * 2 ^ (7 * i) < 18446744073709551616 → (0 < i → 0 < v) → getS i acc (enc f v ++ m) = (acc + v * 2 ^ (7 * i), i + (enc f v).length, 0)
  | 0, v, i, acc, m, hi, hv, h0 => by
    obtain rfl : i = 9 := by omega
    have : v ≤ 1 := by simp at hv; omega
    simp only [enc, List.cons_append, List.nil_append, getS]
    rw [if_neg (by omega), if_pos (by omega), Nat.mod_eq_of_lt (by omega)]
    rfl
  | f + 1, v, i, acc, m, hi, hv, h0 => by
    unfold enc
    by_cases h : 128 ≤ v
    · rw [if_pos h]
      simp only [List.cons_append, getS]
      have hp : 2 ^ (7 * (i + 1)) = 128 * 2 ^ (7 * i) := by rw [Nat.mul_add, Nat.pow_add, Nat.mul_comm]
      have hd := Nat.div_add_mod v 128
      have e1 : (v / 128) * 2 ^ (7 * (i + 1)) + v % 128 * 2 ^ (7 * i) = v * 2 ^ (7 * i) := by
        rw [hp, ← Nat.mul_assoc, ← Nat.add_mul]; congr 1; omega
      rw [if_neg (by omega), if_neg (by omega), get_enc f (v / 128) (i + 1) _ m (by omega) (by omega) (by omega)]
      rw [show (v % 128 + 128) % 128 = v % 128 by omega]
      simp only [List.length_cons, Prod.mk.injEq]
      refine ⟨by omega, by omega, trivial⟩
    · rw [if_neg h]
      simp only [List.cons_append, List.nil_append, getS]
      rw [if_neg (by omega), if_pos (by omega), Nat.mod_eq_of_lt (by omega)]
      rfl
/-- A beginning of what is put asks for more. -/
theorem get_part : ∀ (f v i acc n : Nat), i + f = 9 → v < 128 ^ (f + 1) → (0 < i → 0 < v) → n < (enc f v).length → getS i acc ((enc f v).take n) = (0, 0, 9)
  | 0, v, i, acc, n, hi, hv, h0, hn => by
    simp [enc] at hn
    subst hn
    rfl
  | f + 1, v, i, acc, 0, hi, hv, h0, hn => by simp [getS]
  | f + 1, v, i, acc, n + 1, hi, hv, h0, hn => by
    unfold enc at hn ⊢
    by_cases h : 128 ≤ v
    · rw [if_pos h] at hn ⊢
      simp only [List.take_succ_cons, getS]
      rw [if_neg (by omega), if_neg (by omega)]
      exact get_part f (v / 128) (i + 1) _ n (by omega) (by rw [Nat.div_lt_iff_lt_mul (by decide)]; rw [Nat.pow_succ] at hv; exact hv) (by omega) (by simpa using hn)
    · rw [if_neg h] at hn
      simp at hn
end Go.Proofs.Ytbjacjileomglaa.Wr
