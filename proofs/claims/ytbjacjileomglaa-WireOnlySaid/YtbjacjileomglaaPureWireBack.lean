/- What is put is got, whatever stands behind. No conditions. -/
import Derived.Test.YtbjacjileomglaaWt
import Derived.Test.YtbjacjileomglaaPx1
import Derived.Test.YtbjacjileomglaaPx4
import Derived.Test.YtbjacjileomglaaPx5
namespace Go.Proofs.Ytbjacjileomglaa.Pure
open Go.RowKit Go.Proofs.Ytbjacjileomglaa.P Go.Proofs.Ytbjacjileomglaa.K Go.Proofs.Ytbjacjileomglaa.Wr Go.Proofs.YtbjacjileomglaaW.PrintWords Go.Proofs.YtbjacjileomglaaW.PrintLast Go.Proofs.YtbjacjileomglaaW.PrintMore
set_option linter.unusedVariables false
set_option linter.unusedSimpArgs false
/-- The number that an int is put as. -/
def zz (n : Int) : Nat := if n < 0 then (-2 * n - 1).toNat else (2 * n).toNat
theorem zz_lt {n : Int} (h : -9223372036854775808 ≤ n ∧ n ≤ 9223372036854775807) : zz n < 18446744073709551616 := by unfold zz; split <;> omega
theorem putInt_f {n : Int} (h : -9223372036854775808 ≤ n ∧ n ≤ 9223372036854775807) (k : Nat) (hk : 12 ≤ k) : wire_PutInt.f k n = some (encB (zz n)) := by
  unfold wire_PutInt.f
  have hz := zz_lt h
  by_cases h0 : n < 0
  · rw [if_pos h0]
    have e : IntKind.u64.wrap (IntKind.u64.wrap (IntKind.u64.wrap (wrap64 (-(wrap64 (n + 1)))) * 2) + 1) = (zz n : Int) := by
      unfold zz
      rw [if_pos h0]
      simp only [wu64]
      unfold wrap64
      omega
    rw [e, put_f _ hz k hk]
    rfl
  · rw [if_neg h0]
    have e : IntKind.u64.wrap (IntKind.u64.wrap n * 2) = (zz n : Int) := by
      unfold zz
      rw [if_neg h0]
      simp only [wu64]
      omega
    rw [e, put_f _ hz k hk]
    rfl
theorem getInt_zz {n : Int} (h : -9223372036854775808 ≤ n ∧ n ≤ 9223372036854775807) (s : ByteArray) (m : Nat) (hg : getS 0 0 (L s) = (zz n, m, 0)) (k : Nat) (hk : 30 ≤ k) : wire_GetInt.f k s = some (n, (m : Int), 0) := by
  unfold wire_GetInt.f
  rw [get_f s k hk, hg]
  simp only [Option.bind_some, c3]
  rw [if_pos (by rfl), show Int.tmod ((zz n : Nat) : Int) 2 = ((zz n % 2 : Nat) : Int) from rfl, show Int.tdiv ((zz n : Nat) : Int) 2 = ((zz n / 2 : Nat) : Int) from rfl]
  unfold zz
  by_cases h0 : n < 0
  · rw [if_pos h0, if_pos (by omega)]
    congr 2
    rw [wu64]
    unfold wrap64
    omega
  · rw [if_neg h0, if_neg (by omega)]
    congr 2
    rw [wu64]
    unfold wrap64
    omega
theorem WireBack : cleatlaw18_WireBack.Pure := by
  intro v n s more hv hn hs hm
  replace hv := wf_u64 hv
  replace hn := wf_i64 hn
  obtain ⟨v, rfl⟩ : ∃ x : Nat, v = x := ⟨v.toNat, by omega⟩
  have hv1 : v < 18446744073709551616 := by omega
  refine ⟨200, ?_⟩
  unfold cleatlaw18_WireBack.f
  rw [w64_in ⟨by omega, by omega⟩]
  by_cases h : (s.size : Int) + (more.size : Int) > 2000
  · rw [if_pos h]
  · have hs64 : s.size < 18446744073709551616 := by omega
    have hz := zz_lt hn
    rw [if_neg h, put_f v hv1 200 (by omega), putInt_f hn 200 (by omega), putText_f s (by omega) 200 (by omega), sent_t 200 (by omega)]
    change (Option.bind (some (encB v)) _) = _
    simp only [Option.bind_some]
    have e1 := E_len v
    have e2 := E_len (zz n)
    have e3 := E_len s.size
    have z1 := encB_size v
    have z2 := encB_size (zz n)
    have z3 : (encB s.size ++ s).size = (E s.size).length + s.size := by rw [ByteArray.size_append, encB_size]
    have g1 : wire_Get.f 200 (encB v ++ more) = some ((v : Int), ((E v).length : Int), 0) := by
      rw [get_f _ 200 (by omega), L_app, L_enc hv1, get_E hv1]; rfl
    have g2 : wire_GetInt.f 200 (encB (zz n) ++ more) = some (n, ((E (zz n)).length : Int), 0) := by
      refine getInt_zz hn _ _ ?_ 200 (by omega)
      rw [L_app, L_enc hz, get_E hz]
    have g3 : wire_GetText.f 200 (encB s.size ++ s ++ more) 2000 = some (s, (((E s.size).length + s.size : Nat) : Int), 0) := by
      have hsz : (encB s.size ++ s ++ more).size = (E s.size).length + s.size + more.size := by rw [ByteArray.size_append, z3]
      have := getText_f (encB s.size ++ s ++ more) 2000 (by omega) (by omega) 200 (by omega) s.size (E s.size).length 0 (by
        rw [L_app, L_app, L_enc hs64, List.append_assoc, get_E hs64])
      rw [if_pos rfl, if_neg (by omega), if_neg (by omega)] at this
      refine this.trans ?_
      congr 2
      apply L_inj
      rw [L_ext, L_app, L_app, L_enc hs64, ← L_len s, ← List.length_append, List.take_left, List.drop_left]
    rw [if_pos (by omega), g1]
    simp only [Option.bind_some]
    rw [if_pos (by omega), g2]
    simp only [Option.bind_some]
    rw [if_pos (by omega), g3]
    simp only [Option.bind_some]
    simp [z1, z2, z3]
end Go.Proofs.Ytbjacjileomglaa.Pure
