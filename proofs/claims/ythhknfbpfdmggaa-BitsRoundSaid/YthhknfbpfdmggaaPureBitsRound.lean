/- A number that is rotated one way, and then by what is left of the size, is as it was; two ways are one. No conditions. -/
import Derived.Test.YthhknfbpfdmggaaBs
import Derived.Test.YthhknfbpfdmggaaPx4
import Derived.Test.YthhknfbpfdmggaaPx6
namespace Go.Proofs.Ythhknfbpfdmggaa.Pure
open Go.RowKit Go.Proofs.Ythhknfbpfdmggaa.P Go.Proofs.Ythhknfbpfdmggaa.K Go.Proofs.Ythhknfbpfdmggaa.B Go.Proofs.YthhknfbpfdmggaaW.PrintWords Go.Proofs.YthhknfbpfdmggaaW.PrintLast Go.Proofs.YthhknfbpfdmggaaW.PrintMore
theorem told_r (k : Nat) (hk : 100 ≤ k) : cleatlaw01_told.f k = some true := at_rounds cleatlaw01_told.mono hk (by decide +kernel)
theorem rot_back {v b s : Nat} (hv : v < 2 ^ s) (hb : b < s) : rotN (rotN v b s) ((s - b) % s) s = v := by
  rw [rotN_rotN hv hb (Nat.mod_lt _ (by omega)), Nat.add_mod_mod, Nat.add_sub_cancel' (by omega), Nat.mod_self, rotN_zero]
theorem BitsRound : cleatlaw01_BitsRound.Pure := by
  intro v by_ more size hv _ _ _
  refine ⟨200, ?_⟩
  have hw := wf_u64 hv
  unfold cleatlaw01_BitsRound.f
  by_cases hz : size = 2 ∨ size = 4 ∨ size = 8 ∨ size = 16 ∨ size = 32 ∨ size = 64
  · obtain ⟨s, rfl, hs⟩ := sz_cast hz
    have hl := hs.le
    by_cases hb : by_ < 0 ∨ by_ ≥ (s : Int)
    · rw [rot_by_bad 200 (by omega) v by_ hs hb, Option.bind_some, if_neg (by simp), told_r 200 (by omega)]; rfl
    · obtain ⟨x, rfl⟩ := Int.eq_ofNat_of_zero_le hw.1
      obtain ⟨b, rfl⟩ := Int.eq_ofNat_of_zero_le (show 0 ≤ by_ by omega)
      rw [rot_go 200 (by omega) x b hs (by omega) (by omega)]
      by_cases hx : x < 2 ^ s
      · have hr := rotN_lt hx (show b ≤ s by omega)
        have hp := pow_le64 hl.2
        rw [if_pos hx, Option.bind_some, if_pos rfl, if_neg (by omega), if_neg (by omega), if_neg (by omega), decide_eq_false (by omega)]
        dsimp only
        simp only [cleatlaw01_BitsRound.j0]
        have hm : (s - b) % s < s := Nat.mod_lt _ (by omega)
        rw [if_neg (by simp), if_neg (by omega), show Int.tmod (wrap64 ((s : Int) - (b : Int))) (s : Int) = (((s - b) % s : Nat) : Int) by
          rw [w64_in ⟨by omega, by omega⟩, show (s : Int) - (b : Int) = ((s - b : Nat) : Int) by omega]; rfl]
        rw [rot_ok _ (by omega) (rotN x b s) ((s - b) % s) hs hr hm, Option.bind_some, rot_back hx (by omega), if_pos rfl, if_pos rfl, low_f _ (by omega), Option.bind_some, lowZ_nat _ s (by omega) hl.2, Nat.mod_eq_of_lt hr]
        simp only [cleatlaw01_BitsRound.j1]
        rw [if_neg (by simp)]
        by_cases hmo : more < 0
        · rw [if_pos hmo]
          simp only [cleatlaw01_BitsRound.j2]
          rw [if_pos trivial, told_r _ (by omega)]; rfl
        · rw [if_neg hmo]
          by_cases hmo2 : more ≥ (s : Int)
          · rw [decide_eq_true hmo2]
            simp only [cleatlaw01_BitsRound.j2]
            rw [if_pos trivial, told_r _ (by omega)]; rfl
          · rw [decide_eq_false hmo2]
            obtain ⟨m, rfl⟩ := Int.eq_ofNat_of_zero_le (show 0 ≤ more by omega)
            simp only [cleatlaw01_BitsRound.j2]
            have hq : (b + m) % s < s := Nat.mod_lt _ (by omega)
            rw [if_neg (by simp), rot_ok _ (by omega) (rotN x b s) m hs hr (by omega), Option.bind_some, if_neg (by omega), show Int.tmod (wrap64 ((b : Int) + (m : Int))) (s : Int) = (((b + m) % s : Nat) : Int) by
              rw [w64_in ⟨by omega, by omega⟩]; rfl]
            rw [rot_ok _ (by omega) x _ hs hx hq, Option.bind_some, told_r _ (by omega), Option.bind_some, if_pos rfl, if_pos rfl, if_pos rfl, rotN_rotN hx (by omega) (by omega)]
            simp
      · rw [if_neg hx, Option.bind_some, if_neg (by simp), told_r 200 (by omega)]; rfl
  · rw [rot_size_bad 200 v by_ size hz, Option.bind_some, if_neg (by simp), told_r 200 (by omega)]; rfl
end Go.Proofs.Ythhknfbpfdmggaa.Pure
