/- A beginning of what is put asks for more. No conditions. -/
import Derived.Test.YtbjacjileomglaaWt
import Derived.Test.YtbjacjileomglaaPx2
namespace Go.Proofs.Ytbjacjileomglaa.Pure
open Go.RowKit Go.Proofs.Ytbjacjileomglaa.P Go.Proofs.Ytbjacjileomglaa.K Go.Proofs.Ytbjacjileomglaa.Wr Go.Proofs.YtbjacjileomglaaW.PrintWords Go.Proofs.YtbjacjileomglaaW.PrintLast Go.Proofs.YtbjacjileomglaaW.PrintMore
set_option linter.unusedVariables false
set_option linter.unusedSimpArgs false
theorem WireMore : cleatlaw18_WireMore.Pure := by
  intro v s at_ hv hs hat
  replace hv := wf_u64 hv
  obtain ⟨v, rfl⟩ : ∃ x : Nat, v = x := ⟨v.toNat, by omega⟩
  have hv1 : v < 18446744073709551616 := by omega
  refine ⟨200, ?_⟩
  unfold cleatlaw18_WireMore.f
  by_cases h : (s.size : Int) > 2000
  · rw [if_pos h]
  · rw [if_neg h, put_f v hv1 200 (by omega), putText_f s (by omega) 200 (by omega)]
    simp only [Option.bind_some]
    have hsent : cleatlaw18_WireMore.j0 200 at_ (strOfNums ((E v).map fun x : Nat => (x : Int))) (encB s.size ++ s) true = some true := by
      simp only [cleatlaw18_WireMore.j0]
      rw [if_pos trivial, sent_t 199 (by omega)]
      rfl
    by_cases h0 : at_ < 0
    · rw [if_pos h0]; exact hsent
    · rw [if_neg h0]
      by_cases h1 : at_ ≥ ((encB s.size ++ s).size : Int)
      · rw [decide_eq_true h1]; exact hsent
      · rw [decide_eq_false h1]
        obtain ⟨n, rfl⟩ : ∃ n : Nat, at_ = n := ⟨at_.toNat, by omega⟩
        have hsz : (encB s.size ++ s).size = (E s.size).length + s.size := by rw [ByteArray.size_append, encB_size]
        rw [hsz] at h1
        have hel := E_len s.size
        have hvl := E_len v
        have hs64 : s.size < 18446744073709551616 := by omega
        simp only [cleatlaw18_WireMore.j0]
        rw [if_neg (by simp), if_pos (by omega), if_pos (by omega)]
        have hL : L ((encB s.size ++ s).extract 0 (n : Int).toNat) = (E s.size ++ L s).take n := by
          rw [L_ext, L_app, L_enc hs64, Int.toNat_natCast, List.drop_zero]
        have hxs : ((encB s.size ++ s).extract 0 (n : Int).toNat).size = n := by
          rw [← L_len, hL, List.length_take, List.length_append, L_len]; omega
        have hT : ∃ t, wire_GetText.f 199 ((encB s.size ++ s).extract 0 (n : Int).toNat) 2000 = some (t, 0, 9) := by
          by_cases hn : n < (E s.size).length
          · have := getText_f ((encB s.size ++ s).extract 0 (n : Int).toNat) 2000 (by omega) (by omega) 199 (by omega) 0 0 9 (by
              rw [hL, List.take_append_of_le_length (by omega)]; exact part_E hs64 hn)
            exact ⟨_, this⟩
          · have := getText_f ((encB s.size ++ s).extract 0 (n : Int).toNat) 2000 (by omega) (by omega) 199 (by omega) s.size (E s.size).length 0 (by
              rw [hL, List.take_append, List.take_of_length_le (by omega)]; exact get_E hs64 _)
            rw [if_pos rfl, if_neg (by omega), if_pos (by omega)] at this
            exact ⟨_, this⟩
        obtain ⟨t, hT⟩ := hT
        rw [hT, sent_t 199 (by omega)]
        simp only [Option.bind_some]
        have hbs : (strOfNums ((E v).map fun x : Nat => (x : Int))).size = (E v).length := by rw [strOfNums_size, List.length_map]
        rw [hbs]
        by_cases h2 : (n : Int) ≥ ((E v).length : Int)
        · rw [if_pos h2]; rfl
        · rw [if_neg h2, if_pos (by omega)]
          have hG : wire_Get.f 199 ((strOfNums ((E v).map fun x : Nat => (x : Int))).extract 0 (n : Int).toNat) = some (0, 0, 9) := by
            rw [get_f _ 199 (by omega)]
            have : L ((strOfNums ((E v).map fun x : Nat => (x : Int))).extract 0 (n : Int).toNat) = (E v).take n := by
              rw [L_ext, Int.toNat_natCast, List.drop_zero]
              congr 1
              exact L_enc hv1
            rw [this, part_E hv1 (by omega)]
            rfl
          rw [hG]
          rfl
end Go.Proofs.Ytbjacjileomglaa.Pure
