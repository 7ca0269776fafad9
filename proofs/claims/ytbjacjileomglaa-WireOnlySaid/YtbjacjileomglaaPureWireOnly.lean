/- What is got is put as it was. No conditions. -/
import Derived.Test.YtbjacjileomglaaWt
import Derived.Test.YtbjacjileomglaaPureWireBack
import Derived.Test.YtbjacjileomglaaPx6
namespace Go.Proofs.Ytbjacjileomglaa.Pure
open Go.RowKit Go.Proofs.Ytbjacjileomglaa.P Go.Proofs.Ytbjacjileomglaa.K Go.Proofs.Ytbjacjileomglaa.Wr Go.Proofs.YtbjacjileomglaaW.PrintWords Go.Proofs.YtbjacjileomglaaW.PrintLast Go.Proofs.YtbjacjileomglaaW.PrintMore
set_option linter.unusedVariables false
set_option linter.unusedSimpArgs false
theorem getS_enc : ∀ (l : List Nat) (i acc v' n : Nat), getS i acc l = (v', n, 0) → i ≤ 9 → acc < 2 ^ (7 * i) → (∀ x ∈ l, x < 256) → ∃ v, v' = acc + v * 2 ^ (7 * i) ∧ l.take (n - i) = enc (9 - i) v ∧ (0 < i → 0 < v) ∧ v' < 18446744073709551616 ∧ n ≤ 10
  | [], i, acc, v', n, h, hi, ha, hl => by simp [getS] at h
  | b :: l, i, acc, v', n, h, hi, ha, hl => by
    have hb := hl b (by simp)
    simp only [getS] at h
    split at h
    · simp at h
    · rename_i hbad
      obtain ⟨h1, h2, h3⟩ := or_add (b := b % 128) ha hi (by omega) (fun _ => by omega)
      split at h
      · rename_i hlt
        simp only [Prod.mk.injEq, and_true] at h
        obtain ⟨rfl, rfl⟩ := h
        refine ⟨b, by rw [Nat.mod_eq_of_lt hlt], ?_, by omega, h2, by omega⟩
        rw [show i + 1 - i = 1 by omega]
        simp only [List.take_succ_cons, List.take_zero]
        cases hf : 9 - i with
        | zero => rfl
        | succ f => simp only [enc]; rw [if_neg (by omega)]
      · rename_i hge
        have hle := getS_le _ _ _ _ _ h
        obtain ⟨v, hv, ht, h0, h64, hn⟩ := getS_enc l (i + 1) _ v' n h (by omega) h3 (fun x hx => hl x (by simp [hx]))
        have hv0 := h0 (by omega)
        have hp : 2 ^ (7 * (i + 1)) = 128 * 2 ^ (7 * i) := by rw [Nat.mul_add, Nat.pow_add, Nat.mul_comm]
        refine ⟨b % 128 + 128 * v, ?_, ?_, by omega, h64, hn⟩
        · rw [hv, hp, Nat.add_mul, Nat.mul_comm 128 v, Nat.mul_assoc, Nat.add_assoc]
        · obtain ⟨f, hf⟩ : ∃ f, 9 - i = f + 1 := ⟨9 - i - 1, by omega⟩
          obtain ⟨m, hm⟩ : ∃ m, n - i = m + 1 := ⟨n - i - 1, by omega⟩
          rw [hf, hm, List.take_succ_cons]
          simp only [enc]
          rw [if_pos (by omega), show (b % 128 + 128 * v) % 128 + 128 = b by omega, show (b % 128 + 128 * v) / 128 = v by omega]
          rw [show m = n - (i + 1) by omega, ht, show 9 - (i + 1) = f by omega]
theorem getInt_E (s : ByteArray) (v n : Nat) (hv : v < 18446744073709551616) (hg : getS 0 0 (L s) = (v, n, 0)) (k : Nat) (hk : 30 ≤ k) : ∃ i, wire_GetInt.f k s = some (i, (n : Int), 0) ∧ (-9223372036854775808 ≤ i ∧ i ≤ 9223372036854775807) ∧ zz i = v := by
  unfold wire_GetInt.f
  rw [get_f s k hk, hg]
  simp only [Option.bind_some, c3]
  rw [if_pos (by rfl), show Int.tmod (v : Int) 2 = ((v % 2 : Nat) : Int) from rfl, show Int.tdiv (v : Int) 2 = ((v / 2 : Nat) : Int) from rfl]
  by_cases h0 : v % 2 = 1
  · rw [if_pos (by omega)]
    have e : wrap64 (wrap64 (-(wrap64 (IntKind.u64.wrap ((v / 2 : Nat) : Int)))) - 1) = -((v / 2 : Nat) : Int) - 1 := by
      rw [wu64]; unfold wrap64; omega
    rw [e]
    exact ⟨_, rfl, by omega, by unfold zz; rw [if_pos (by omega)]; omega⟩
  · rw [if_neg (by omega)]
    have e : wrap64 (IntKind.u64.wrap ((v / 2 : Nat) : Int)) = ((v / 2 : Nat) : Int) := by
      rw [wu64]; unfold wrap64; omega
    rw [e]
    exact ⟨_, rfl, by omega, by unfold zz; rw [if_neg (by omega)]; omega⟩
theorem getS_bad : ∀ (l : List Nat) (i acc v n e : Nat), getS i acc l = (v, n, e) → e ≠ 0 → v = 0 ∧ n = 0
  | [], i, acc, v, n, e, h, he => by simp [getS] at h; omega
  | b :: l, i, acc, v, n, e, h, he => by
    simp only [getS] at h
    split at h
    · simp at h; omega
    · split at h
      · simp at h; omega
      · exact getS_bad l _ _ _ _ _ h he
theorem only_j1 (s : ByteArray) (hs : s.size ≤ 2000) (most : Int) : cleatlaw18_WireOnly.j1 199 s most false = some true := by
  simp only [cleatlaw18_WireOnly.j1]
  rw [if_neg (by simp), sent_t 198 (by omega)]
  have hno : ∀ e : Int, e ≠ 0 → wire_GetText.f 198 s most = some ((⟨#[]⟩ : ByteArray), 0, e) → ((wire_GetText.f 198 s most).bind fun bt211 => (if bt211.2.2 = 0 then ((some true).bind fun t214 => (if t214 = true then (if bt211.2.1 ≥ 0 then (if bt211.2.1 ≤ (s.size : Int) then (if (bt211.1.size : Int) ≤ most then ((wire_PutText.f 198 bt211.1).bind fun t215 => (if 0 ≤ bt211.2.1 then (some (t215.toList == (s.extract 0 (bt211.2.1 : Int).toNat).toList)) else (none))) else (some false)) else (some false)) else (some false)) else (some false))) else ((some true).bind fun t216 => (if t216 = true then (if bt211.1.toList = ([] : List UInt8) then (some (bt211.2.1 == 0)) else (some false)) else (some false))))) = some true := by
    intro e he h
    rw [h]
    simp only [Option.bind_some]
    rw [if_neg he, if_pos trivial, if_pos (by first | decide +kernel | (unfold ByteArray.toList; unfold ByteArray.toList.loop; rfl) | simp [ByteArray.toList, ByteArray.toList.loop])]
    rfl
  by_cases hm : 0 ≤ most ∧ most ≤ 1000000
  · obtain ⟨most, rfl⟩ : ∃ m : Nat, most = m := ⟨most.toNat, by omega⟩
    obtain ⟨r, hr⟩ : ∃ r, getS 0 0 (L s) = r := ⟨_, rfl⟩
    obtain ⟨v, n, e⟩ := r
    have hT := getText_f s most (by omega) (by omega) 198 (by omega) v n e hr
    by_cases he : e = 0
    · subst he
      have hle := getS_le _ _ _ _ _ hr
      rw [L_len] at hle
      obtain ⟨v2, hv2, ht, _, h64, hn10⟩ := getS_enc _ _ _ _ _ hr (by omega) (by simp) (L_lt s)
      simp only [Nat.mul_zero, Nat.pow_zero, Nat.mul_one, Nat.zero_add, Nat.sub_zero] at hv2 ht
      subst hv2
      rw [if_pos rfl] at hT
      by_cases h1 : most < v
      · rw [if_pos h1] at hT
        exact hno 2 (by decide) hT
      · rw [if_neg h1] at hT
        by_cases h2 : s.size - n < v
        · rw [if_pos h2] at hT
          exact hno 9 (by decide) hT
        · rw [if_neg h2] at hT
          have hsz : (s.extract n (n + v)).size = v := by rw [ByteArray.size_extract]; omega
          rw [hT]
          simp only [Option.bind_some]
          rw [if_pos trivial, if_pos trivial, if_pos (by omega), if_pos (by omega), hsz, if_pos (by omega), putText_f _ (by omega) 198 (by omega)]
          simp only [Option.bind_some]
          rw [if_pos (by omega), hsz]
          have : encB v ++ s.extract n (n + v) = s.extract 0 ((n + v : Nat) : Int).toNat := by
            apply L_inj
            rw [L_app, L_enc h64, L_ext, L_ext, Int.toNat_natCast, List.drop_zero, show E v = (L s).take n from ht.symm]
            rw [show (L s).take n = ((L s).take (n + v)).take n by rw [List.take_take, Nat.min_eq_left (by omega)], List.take_append_drop]
          rw [this]
          simp
    · rw [if_neg he] at hT
      exact hno e (by omega) hT
  · refine hno 1 (by decide) ?_
    unfold wire_GetText.f
    simp only [wire_GetText.j0]
    by_cases h0 : most < 0
    · rw [if_pos h0, if_pos trivial]
    · rw [if_neg h0, decide_eq_true (by omega), if_pos rfl]
theorem WireOnly : cleatlaw18_WireOnly.Pure := by
  intro s most hs hm
  refine ⟨200, ?_⟩
  unfold cleatlaw18_WireOnly.f
  by_cases h : (s.size : Int) > 2000
  · rw [if_pos h]
  · have hs2 : s.size ≤ 2000 := by omega
    obtain ⟨r, hr⟩ : ∃ r, getS 0 0 (L s) = r := ⟨_, rfl⟩
    obtain ⟨v, n, e⟩ := r
    rw [if_neg h, get_f s 200 (by omega), hr]
    simp only [Option.bind_some, c3]
    by_cases he : e = 0
    · subst he
      have hle := getS_le _ _ _ _ _ hr
      rw [L_len] at hle
      obtain ⟨v2, hv2, ht, _, h64, hn10⟩ := getS_enc _ _ _ _ _ hr (by omega) (by simp) (L_lt s)
      simp only [Nat.mul_zero, Nat.pow_zero, Nat.mul_one, Nat.zero_add, Nat.sub_zero] at hv2 ht
      subst hv2
      have hput : encB v = s.extract 0 (n : Int).toNat := by
        apply L_inj
        rw [L_enc h64, L_ext, Int.toNat_natCast, List.drop_zero, ht]
      obtain ⟨i, hi, hir, hz⟩ := getInt_E s v n h64 hr 199 (by omega)
      have hpi := putInt_f hir 199 (by omega)
      rw [hz, hput] at hpi
      have hpv : wire_Put.f 200 (v : Int) = some (s.extract 0 (n : Int).toNat) := by rw [← hput]; exact put_f v h64 200 (by omega)
      rw [if_pos (by rfl), if_neg (by omega), if_neg (by omega), if_neg (by omega), hpv]
      simp only [Option.bind_some]
      rw [if_pos (by omega), if_pos (by omega), bne_self_eq_false]
      simp only [cleatlaw18_WireOnly.j0]
      rw [if_neg (by simp), hi]
      simp only [Option.bind_some]
      rw [if_pos (by rfl), if_pos trivial, if_pos trivial, if_neg (by omega), if_neg (by omega), hpi]
      simp only [Option.bind_some]
      rw [if_pos (by omega), if_pos (by omega), bne_self_eq_false]
      exact only_j1 s hs2 most
    · obtain ⟨rfl, rfl⟩ := getS_bad _ _ _ _ _ _ hr he
      rw [if_neg (by omega)]
      simp only [cleatlaw18_WireOnly.j0]
      have hi : wire_GetInt.f 199 s = some (0, 0, (e : Int)) := by
        unfold wire_GetInt.f
        rw [get_f s 199 (by omega), hr]
        simp only [Option.bind_some, c3]
        rw [if_neg (by omega)]
      rw [if_neg (by simp), hi]
      simp only [Option.bind_some]
      rw [if_pos trivial, if_neg (by omega)]
      exact only_j1 s hs2 most
end Go.Proofs.Ytbjacjileomglaa.Pure
