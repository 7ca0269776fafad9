/- What wire.GetText answers. -/
import Derived.Test.YtbjacjileomglaaWr
namespace Go.Proofs.Ytbjacjileomglaa.Wr
open Go.RowKit Go.Proofs.Ytbjacjileomglaa.P Go.Proofs.Ytbjacjileomglaa.K Go.Proofs.YtbjacjileomglaaW.PrintWords Go.Proofs.YtbjacjileomglaaW.PrintLast Go.Proofs.YtbjacjileomglaaW.PrintMore
set_option linter.unusedVariables false
set_option linter.unusedSimpArgs false
theorem getS_le : ∀ (l : List Nat) (i acc v n : Nat), getS i acc l = (v, n, 0) → i < n ∧ n ≤ i + l.length
  | [], i, acc, v, n, h => by simp [getS] at h
  | b :: l, i, acc, v, n, h => by
    simp only [getS] at h
    split at h
    · simp at h
    · split at h
      · simp only [Prod.mk.injEq] at h
        simp only [List.length_cons]
        omega
      · have := getS_le l _ _ _ _ h
        simp only [List.length_cons]
        omega
theorem getText_f (s : ByteArray) (most : Nat) (hm : most ≤ 1000000) (hs : s.size < 4611686018427387904) (k : Nat) (hk : 40 ≤ k) (v n e : Nat) (h : getS 0 0 (L s) = (v, n, e)) :
    wire_GetText.f k s (most : Int) = some (if e = 0 then (if most < v then ((⟨#[]⟩ : ByteArray), 0, 2) else if s.size - n < v then ((⟨#[]⟩ : ByteArray), 0, 9) else (s.extract n (n + v), ((n + v : Nat) : Int), 0)) else ((⟨#[]⟩ : ByteArray), 0, (e : Int))) := by
  obtain ⟨k, rfl⟩ : ∃ m, k = m + 1 := ⟨k - 1, by omega⟩
  unfold wire_GetText.f
  rw [if_neg (by omega), decide_eq_false (by omega)]
  simp only [wire_GetText.j0]
  rw [if_neg (by simp), get_f s k (by omega), h]
  simp only [Option.bind_some, c3]
  by_cases he : e = 0
  · subst he
    have hle := getS_le _ _ _ _ _ h
    rw [L_len] at hle
    rw [if_pos (by rfl), if_pos rfl, wu64_in (n := (most : Int)) ⟨by omega, by omega⟩]
    by_cases h1 : most < v
    · rw [if_pos (by omega), if_pos h1]
    · rw [if_neg (by omega), if_neg h1, w64_in (n := (s.size : Int) - (n : Int)) ⟨by omega, by omega⟩, wu64_in ⟨by omega, by omega⟩]
      by_cases h2 : s.size - n < v
      · rw [if_pos (by omega), if_pos h2]
      · rw [if_neg (by omega), if_neg h2, w64_in (n := (v : Int)) ⟨by omega, by omega⟩, w64_in (n := (n : Int) + (v : Int)) ⟨by omega, by omega⟩, if_pos (by omega), if_pos (by omega), if_pos (by omega)]
        congr 2
  · rw [if_neg (by omega), if_neg he]
theorem E_len (v : Nat) : (E v).length ≤ 10 ∧ 1 ≤ (E v).length := enc_len 9 v
theorem get_E {v : Nat} (hv : v < 18446744073709551616) (m : List Nat) : getS 0 0 (E v ++ m) = (v, (E v).length, 0) := by
  have := get_enc 9 v 0 0 m rfl (by simpa using hv) (by omega)
  simpa using this
theorem part_E {v : Nat} (hv : v < 18446744073709551616) {n : Nat} (hn : n < (E v).length) : getS 0 0 ((E v).take n) = (0, 0, 9) := get_part 9 v 0 0 n rfl (pow10 hv) (by omega) hn
end Go.Proofs.Ytbjacjileomglaa.Wr
