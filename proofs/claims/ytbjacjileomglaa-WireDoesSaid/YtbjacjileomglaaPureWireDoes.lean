/- Numbers, ints and texts have just these bytes, and bytes are just these, or are refused, as the reference says. No conditions. -/
import Derived.Test.YtbjacjileomglaaWt
import Derived.Test.YtbjacjileomglaaPureWireBack
import Derived.Test.YtbjacjileomglaaPx4
import Derived.Test.YtbjacjileomglaaPx5
namespace Go.Proofs.Ytbjacjileomglaa.Pure
open Go.RowKit Go.Proofs.Ytbjacjileomglaa.P Go.Proofs.Ytbjacjileomglaa.K Go.Proofs.Ytbjacjileomglaa.Wr Go.Proofs.YtbjacjileomglaaW.PrintWords Go.Proofs.YtbjacjileomglaaW.PrintLast Go.Proofs.YtbjacjileomglaaW.PrintMore
set_option linter.unusedVariables false
set_option linter.unusedSimpArgs false
theorem power_l (n : Nat) (hn : n ≤ 64) : ∀ (d k i : Nat), i + d = n → d < k → cleatref01_Power.l0 k (n : Int) ((2 ^ i % 18446744073709551616 : Nat) : Int) (i : Int) = some ((2 ^ n % 18446744073709551616 : Nat) : Int) := by
  intro d
  induction d with
  | zero =>
    intro k i hi hk
    obtain ⟨k, rfl⟩ : ∃ m, k = m + 1 := ⟨k - 1, by omega⟩
    obtain rfl : i = n := by omega
    simp only [cleatref01_Power.l0]
    rw [if_neg (by omega)]
  | succ d ih =>
    intro k i hi hk
    obtain ⟨k, rfl⟩ : ∃ m, k = m + 1 := ⟨k - 1, by omega⟩
    simp only [cleatref01_Power.l0]
    rw [if_pos (by omega)]
    have e : IntKind.u64.wrap (2 * ((2 ^ i % 18446744073709551616 : Nat) : Int)) = ((2 ^ (i + 1) % 18446744073709551616 : Nat) : Int) := by
      rw [show (2 : Int) * ((2 ^ i % 18446744073709551616 : Nat) : Int) = ((2 * (2 ^ i % 18446744073709551616) : Nat) : Int) by omega, wu64_nat]
      congr 1
      rw [Nat.pow_succ]
      omega
    rw [e, show wrap64 ((i : Int) + 1) = ((i + 1 : Nat) : Int) by rw [w64_in ⟨by omega, by omega⟩]; omega]
    exact ih k (i + 1) (by omega) (by omega)
theorem power_f (n : Nat) (hn : n < 64) (k : Nat) (hk : 66 ≤ k) : cleatref01_Power.f k (n : Int) = some ((2 ^ n : Nat) : Int) := by
  have h := power_l n (by omega) n k 0 (by omega) (by omega)
  rw [Nat.mod_eq_of_lt (pow_lt64 hn)] at h
  exact h
theorem nums_app (a b : List Int) : strOfNums (a ++ b) = strOfNums a ++ strOfNums b := by
  apply ByteArray.ext
  simp [strOfNums, ByteArray.data_append]
theorem rput_l0 : ∀ (f k v : Nat) (out : ByteArray), v < 18446744073709551616 → v < 128 ^ (f + 1) → f < k → out.size + f < 1000 → cleatref18_Put.l0 k (v : Int) out = some (out ++ strOfNums ((enc f v).map fun x : Nat => (x : Int)))
  | 0, k, v, out, h64, h, hk, ho => by
    obtain ⟨k, rfl⟩ : ∃ m, k = m + 1 := ⟨k - 1, by omega⟩
    simp at h
    simp only [cleatref18_Put.l0, Option.bind_some]
    rw [if_neg (by omega), strOfNums_size, if_pos (by simp; omega)]
    simp only [enc, List.map_cons, List.map_nil]
    congr 4
    omega
  | f + 1, k, v, out, h64, h, hk, ho => by
    obtain ⟨k, rfl⟩ : ∃ m, k = m + 1 := ⟨k - 1, by omega⟩
    simp only [cleatref18_Put.l0, Option.bind_some]
    by_cases hv : 128 ≤ v
    · rw [if_pos (by omega), strOfNums_size, if_pos (by simp; omega)]
      rw [show Int.tmod (v : Int) 128 = ((v % 128 : Nat) : Int) from rfl, show Int.tdiv (v : Int) 128 = ((v / 128 : Nat) : Int) from rfl]
      rw [wu64_in (n := ((v / 128 : Nat) : Int)) ⟨by omega, by omega⟩, wu64_in (n := ((v % 128 : Nat) : Int) + 128) ⟨by omega, by omega⟩, show (((v % 128 : Nat) : Int) + 128) % 256 = ((v % 128 + 128 : Nat) : Int) by omega]
      rw [rput_l0 f k (v / 128) _ (by omega) (by rw [Nat.div_lt_iff_lt_mul (by decide)]; rw [Nat.pow_succ] at h; exact h) (by omega) (by rw [ByteArray.size_append, strOfNums_size]; simp; omega)]
      simp only [enc, if_pos hv, List.map_cons]
      rw [ByteArray.append_assoc, ← nums_app]
      rfl
    · rw [if_neg (by omega), strOfNums_size, if_pos (by simp; omega)]
      simp only [enc, if_neg hv, List.map_cons, List.map_nil]
      congr 4
      omega
theorem rput_f (v : Nat) (hv : v < 18446744073709551616) (k : Nat) (hk : 12 ≤ k) : cleatref18_Put.f k (v : Int) = some (encB v) := by
  unfold cleatref18_Put.f
  rw [rput_l0 9 k v _ hv (pow10 hv) (by omega) (by decide)]
  refine congrArg some ?_
  show (⟨#[]⟩ : ByteArray) ++ encB v = encB v
  apply ByteArray.ext
  simp [ByteArray.data_append]
theorem rget_l0 (s : ByteArray) (hsz : s.size < 4611686018427387904) : ∀ (d k i acc : Nat), i + d = 9 → 2 * d + 100 < k → acc < 2 ^ (7 * i) → cleatref18_Get.l0 k s (acc : Int) (i : Int) = some (c3 (getS i acc ((L s).drop i))) := by
  intro d
  induction d with
  | zero =>
    intro k i acc hi hk ha
    obtain ⟨k, rfl⟩ : ∃ m, k = m + 2 := ⟨k - 2, by omega⟩
    obtain rfl : i = 9 := by omega
    simp only [cleatref18_Get.l0]
    by_cases hs : 9 < s.size
    · rw [if_pos (by omega), if_pos (by omega), if_pos (by rfl), bt_L s 9 hs, List.drop_eq_getElem_cons (by rw [L_len]; exact hs)]
      have hbl := L_lt s _ (List.getElem_mem (by rw [L_len]; exact hs))
      generalize (L s)[9]'(by rw [L_len]; exact hs) = b at *
      rw [wu64_in (n := (b : Int)) ⟨by omega, by omega⟩]
      simp only [cleatref18_Get.j1, getS]
      by_cases hb1 : 1 < b
      · rw [if_pos (by omega), if_pos trivial, if_pos (Or.inl ⟨trivial, hb1⟩)]; rfl
      · rw [if_neg (by omega), if_pos (by omega)]
        by_cases hb0 : b = 0
        · subst hb0
          rw [if_pos (by rfl), if_pos (by omega)]; rfl
        · rw [show ((b : Int) == 0) = false by simpa using hb0, if_neg (by simp), w64_in (n := 7 * ((9 : Nat) : Int)) ⟨by omega, by omega⟩, if_neg (by omega), show (7 * ((9 : Nat) : Int)) = ((7 * 9 : Nat) : Int) by rfl, power_f (7 * 9) (by omega) k (by omega)]
          simp only [Option.bind_some]
          obtain ⟨h1, h2, h3⟩ := or_add (b := b) ha (by omega) (by omega) (fun _ => by omega)
          rw [if_pos (by omega), if_pos (by omega), show Int.tmod (b : Int) 128 = ((b % 128 : Nat) : Int) from rfl, Nat.mod_eq_of_lt (show b < 128 by omega), show ((b : Int) * ((2 ^ (7 * 9) : Nat) : Int)) = ((b * 2 ^ (7 * 9) : Nat) : Int) by rw [Int.natCast_mul], wu64_in (n := ((b * 2 ^ (7 * 9) : Nat) : Int)) ⟨by omega, by omega⟩, show (acc : Int) + ((b * 2 ^ (7 * 9) : Nat) : Int) = ((acc + b * 2 ^ (7 * 9) : Nat) : Int) by omega, wu64_in ⟨by omega, by omega⟩, next_nat 9 (by omega)]
          rfl
    · rw [if_neg (by omega), List.drop_eq_nil_of_le (by rw [L_len]; omega)]; rfl
  | succ d ih =>
    intro k i acc hi hk ha
    obtain ⟨k, rfl⟩ : ∃ m, k = m + 2 := ⟨k - 2, by omega⟩
    simp only [cleatref18_Get.l0]
    by_cases hs : i < s.size
    · rw [if_pos (by omega), if_pos (by omega), if_neg (by omega), bt_L s i hs, List.drop_eq_getElem_cons (by rw [L_len]; exact hs)]
      have hbl := L_lt s _ (List.getElem_mem (by rw [L_len]; exact hs))
      generalize (L s)[i]'(by rw [L_len]; exact hs) = b at *
      rw [wu64_in (n := (b : Int)) ⟨by omega, by omega⟩]
      have hj : (if (i : Int) > 0 then cleatref18_Get.j1 (k + 1) s (acc : Int) i b ((b : Int) == 0) else cleatref18_Get.j1 (k + 1) s (acc : Int) i b false) = cleatref18_Get.j1 (k + 1) s (acc : Int) i b (decide (0 < i ∧ b = 0)) := by
        by_cases h0 : 0 < i
        · rw [if_pos (by omega)]
          congr 1
          by_cases hb : b = 0 <;> simp [hb, h0]
        · rw [if_neg (by omega)]
          congr 1
          simp [h0]
      rw [hj]
      simp only [cleatref18_Get.j1, getS]
      by_cases hbad : 0 < i ∧ b = 0
      · rw [decide_eq_true hbad, if_pos rfl, if_pos (Or.inr hbad)]; rfl
      · rw [decide_eq_false hbad, if_neg (by simp), w64_in (n := 7 * (i : Int)) ⟨by omega, by omega⟩, if_neg (show ¬ (i = 9 ∧ 1 < b ∨ 0 < i ∧ b = 0) by omega), show 7 * (i : Int) = ((7 * i : Nat) : Int) by omega, power_f (7 * i) (by omega) k (by omega)]
        simp only [Option.bind_some]
        obtain ⟨h1, h2, h3⟩ := or_add (b := b % 128) ha (by omega) (by omega) (fun _ => by omega)
        rw [show Int.tmod (b : Int) 128 = ((b % 128 : Nat) : Int) from rfl, show (((b % 128 : Nat) : Int) * ((2 ^ (7 * i) : Nat) : Int)) = ((b % 128 * 2 ^ (7 * i) : Nat) : Int) by rw [Int.natCast_mul], wu64_in (n := ((b % 128 * 2 ^ (7 * i) : Nat) : Int)) ⟨by omega, by omega⟩, show (acc : Int) + ((b % 128 * 2 ^ (7 * i) : Nat) : Int) = ((acc + b % 128 * 2 ^ (7 * i) : Nat) : Int) by omega, wu64_in ⟨by omega, by omega⟩, next_nat i (by omega)]
        by_cases hb : b < 128
        · rw [if_pos (by omega), if_pos hb]; rfl
        · rw [if_neg (by omega), if_neg hb]
          exact ih k (i + 1) _ (by omega) (by omega) h3
    · rw [if_neg (by omega), List.drop_eq_nil_of_le (by rw [L_len]; omega)]; rfl
theorem rget_f (s : ByteArray) (hsz : s.size < 4611686018427387904) (k : Nat) (hk : 130 ≤ k) : cleatref18_Get.f k s = some (c3 (getS 0 0 (L s))) := rget_l0 s hsz 9 k 0 0 rfl (by omega) (by simp)
theorem getInt_same (s : ByteArray) (hsz : s.size < 4611686018427387904) (k : Nat) (hk : 130 ≤ k) : ∃ r, wire_GetInt.f k s = some r ∧ cleatref18_GetInt.f k s = some r := by
  unfold wire_GetInt.f cleatref18_GetInt.f
  rw [get_f s k (by omega), rget_f s hsz k hk]
  obtain ⟨v, n, e⟩ := getS 0 0 (L s)
  simp only [Option.bind_some, c3]
  by_cases h : (e : Int) = 0
  · rw [if_pos h, if_pos h, show Int.tmod (v : Int) 2 = ((v % 2 : Nat) : Int) from rfl, show Int.tdiv (v : Int) 2 = ((v / 2 : Nat) : Int) from rfl]
    by_cases h2 : v % 2 = 1
    · rw [if_pos (by omega), if_neg (by omega)]
      refine ⟨_, rfl, ?_⟩
      congr 2
      rw [wu64]
      unfold wrap64
      omega
    · rw [if_neg (by omega), if_pos (by omega)]
      exact ⟨_, rfl, rfl⟩
  · rw [if_neg h, if_neg h]
    exact ⟨_, rfl, rfl⟩
theorem getText_same (s : ByteArray) (hs : s.size < 4611686018427387904) (most : Int) (k : Nat) (hk : 140 ≤ k) : ∃ r, wire_GetText.f k s most = some r ∧ cleatref18_GetText.f k s most = some r := by
  by_cases hm : 0 ≤ most ∧ most ≤ 1000000
  · obtain ⟨most, rfl⟩ : ∃ m : Nat, most = m := ⟨most.toNat, by omega⟩
    obtain ⟨r, hr⟩ : ∃ r, getS 0 0 (L s) = r := ⟨_, rfl⟩
    obtain ⟨v, n, e⟩ := r
    refine ⟨_, getText_f s most (by omega) hs k (by omega) v n e hr, ?_⟩
    obtain ⟨k, rfl⟩ : ∃ m, k = m + 1 := ⟨k - 1, by omega⟩
    unfold cleatref18_GetText.f
    rw [if_neg (by omega), decide_eq_false (by omega)]
    simp only [cleatref18_GetText.j0]
    rw [if_neg (by simp), rget_f s hs k (by omega), hr]
    simp only [Option.bind_some, c3]
    by_cases he : e = 0
    · subst he
      have hle := getS_le _ _ _ _ _ hr
      rw [L_len] at hle
      rw [if_pos (by rfl), if_pos rfl, wu64_in (n := (most : Int)) ⟨by omega, by omega⟩]
      by_cases h1 : most < v
      · rw [if_pos (by omega), if_pos h1]
      · rw [if_neg (by omega), if_neg h1, w64_in (n := (s.size : Int) - (n : Int)) ⟨by omega, by omega⟩, w64_in (n := (v : Int)) ⟨by omega, by omega⟩]
        by_cases h2 : s.size - n < v
        · rw [if_pos (by omega), if_pos h2]
        · rw [if_neg (by omega), if_neg h2, w64_in (n := (n : Int) + (v : Int)) ⟨by omega, by omega⟩, if_pos (by omega), if_pos (by omega), if_pos (by omega)]
          congr 2
    · rw [if_neg (by omega), if_neg he]
  · obtain ⟨k, rfl⟩ : ∃ m, k = m + 1 := ⟨k - 1, by omega⟩
    refine ⟨((⟨#[]⟩ : ByteArray), 0, 1), ?_, ?_⟩
    · unfold wire_GetText.f
      simp only [wire_GetText.j0]
      by_cases h0 : most < 0
      · rw [if_pos h0, if_pos trivial]
      · rw [if_neg h0, decide_eq_true (by omega), if_pos rfl]
    · unfold cleatref18_GetText.f
      simp only [cleatref18_GetText.j0]
      by_cases h0 : most < 0
      · rw [if_pos h0, if_pos trivial]
      · rw [if_neg h0, decide_eq_true (by omega), if_pos rfl]
theorem rputInt_f {n : Int} (h : -9223372036854775808 ≤ n ∧ n ≤ 9223372036854775807) (k : Nat) (hk : 12 ≤ k) : cleatref18_PutInt.f k n = some (encB (zz n)) := by
  unfold cleatref18_PutInt.f cleatref10_Of.f
  have hz := zz_lt h
  by_cases h0 : n ≥ 0
  · rw [if_pos h0]
    simp only [Option.bind_some]
    rw [if_neg (by simp)]
    have e : IntKind.u64.wrap (2 * IntKind.u64.wrap n) = (zz n : Int) := by
      unfold zz
      rw [if_neg (by omega)]
      simp only [wu64]
      omega
    rw [e, rput_f _ hz k hk]; rfl
  · rw [if_neg h0]
    by_cases h1 : n = -9223372036854775808
    · subst h1
      rw [if_pos rfl]
      simp only [Option.bind_some]
      rw [if_pos trivial]
      have e : IntKind.u64.wrap (IntKind.u64.wrap (2 * IntKind.u64.wrap (9223372036854775808 - 1)) + 1) = (zz (-9223372036854775808) : Int) := by decide
      rw [e, rput_f _ hz k hk]; rfl
    · rw [if_neg h1]
      simp only [Option.bind_some]
      rw [if_pos trivial]
      have e : IntKind.u64.wrap (IntKind.u64.wrap (2 * IntKind.u64.wrap (IntKind.u64.wrap (wrap64 (-n)) - 1)) + 1) = (zz n : Int) := by
        unfold zz
        rw [if_pos (by omega)]
        simp only [wu64]
        unfold wrap64
        omega
      rw [e, rput_f _ hz k hk]; rfl
theorem rputText_f (s : ByteArray) (hs : s.size ≤ 1000000) (k : Nat) (hk : 12 ≤ k) : cleatref18_PutText.f k s = some (encB s.size ++ s) := by
  unfold cleatref18_PutText.f
  rw [rput_f s.size (by omega) k hk]
  simp only [Option.bind_some]
  have := E_len s.size
  rw [if_pos (by rw [encB_size]; omega)]
theorem WireDoes : cleatlaw18_WireDoes.Pure := by
  intro v n s most hv hn hs hm
  replace hv := wf_u64 hv
  replace hn := wf_i64 hn
  obtain ⟨v, rfl⟩ : ∃ x : Nat, v = x := ⟨v.toNat, by omega⟩
  have hv1 : v < 18446744073709551616 := by omega
  refine ⟨300, ?_⟩
  unfold cleatlaw18_WireDoes.f
  by_cases h : (s.size : Int) > 2000
  · rw [if_pos h]
  · obtain ⟨a, a1, a2⟩ := getInt_same s (by omega) 300 (by omega)
    obtain ⟨b, b1, b2⟩ := getText_same s (by omega) most 300 (by omega)
    rw [if_neg h, get_f s 300 (by omega), rget_f s (by omega) 300 (by omega), a1, a2, b1, b2]
    simp only [Option.bind_some, if_true, beq_self_eq_true]
    simp only [cleatlaw18_WireDoes.j0]
    rw [sent_t 299 (by omega), put_f v hv1 299 (by omega), rput_f v hv1 299 (by omega), putInt_f hn 299 (by omega), rputInt_f hn 299 (by omega), putText_f s (by omega) 299 (by omega), rputText_f s (by omega) 299 (by omega)]
    change _ = _
    simp only [Option.bind_some, if_true, beq_self_eq_true]
    exact if_pos rfl
end Go.Proofs.Ytbjacjileomglaa.Pure
