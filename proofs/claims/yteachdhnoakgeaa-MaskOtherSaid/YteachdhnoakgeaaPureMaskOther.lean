/- All bits of a mask turned round are a mask, of all other ones; a mask that is rotated is a mask of as many; of any numbers. No conditions. -/
import Derived.Test.YteachdhnoakgeaaMk2
import Derived.Test.YteachdhnoakgeaaPx6
import Derived.Test.YteachdhnoakgeaaPx7
namespace Go.Proofs.Yteachdhnoakgeaa.Pure
open Go.RowKit Go.Proofs.Yteachdhnoakgeaa.P Go.Proofs.Yteachdhnoakgeaa.K Go.Proofs.Yteachdhnoakgeaa.B Go.Proofs.Yteachdhnoakgeaa.M Go.Proofs.YteachdhnoakgeaaW.PrintWords Go.Proofs.YteachdhnoakgeaaW.PrintLast Go.Proofs.YteachdhnoakgeaaW.PrintMore
theorem masked_o (k : Nat) (hk : 300 ≤ k) : cleatlaw02_masked.f k = some true := at_rounds cleatlaw02_masked.mono hk (by decide +kernel)
theorem mask_oth {v : Nat} (hv : v < 18446744073709551616) : Mask (oth v) ↔ Mask v := by
  constructor
  · rintro ⟨s, o, t, h⟩
    have := run_oth (oth_lt v) h
    rw [oth_oth hv] at this
    exact ⟨_, _, _, this⟩
  · rintro ⟨s, o, t, h⟩
    exact ⟨_, _, _, run_oth hv h⟩
theorem mask_rot {v b : Nat} (hv : v < 18446744073709551616) (hb : b < 64) : Mask (rotN v b 64) ↔ Mask v := by
  constructor
  · rintro ⟨s, o, t, h⟩
    have := run_rotN (b := (64 - b) % 64) (rotN_lt (s := 64) hv (by omega)) (Nat.mod_lt _ (by decide)) h
    rw [rotN_rotN (s := 64) hv hb (Nat.mod_lt _ (by decide)), Nat.add_mod_mod, Nat.add_sub_cancel' (by omega), Nat.mod_self, rotN_zero] at this
    exact ⟨_, _, _, this⟩
  · rintro ⟨s, o, t, h⟩
    exact ⟨_, _, _, run_rotN hv hb h⟩
open Classical in
theorem dec_eq {p q : Prop} (h : p ↔ q) : decide p = decide q := by rw [propext h]
theorem size_oth {v : Nat} (hv : v < 18446744073709551616) : sizeN (oth v) = sizeN v := sizeN_eq fun _ hs => per_oth hv hs
theorem size_rot {v b : Nat} (hv : v < 18446744073709551616) (hb : b < 64) : sizeN (rotN v b 64) = sizeN v := sizeN_eq fun _ hs => per_rotN hv hb hs
open Classical in
theorem other_j0 (k : Nat) (hk : 301 ≤ k) (v : Nat) (hv : v < 18446744073709551616) (a e : Int) (h : e = 0 → ∃ b, b < 64 ∧ a = (rotN v b 64 : Int)) : cleatlaw02_MaskOther.j0 k v (decide (Mask v)) a e false = some true := by
  obtain ⟨k, rfl⟩ : ∃ m, k = m + 1 := ⟨k - 1, by omega⟩
  simp only [cleatlaw02_MaskOther.j0]
  rw [if_neg (by simp), masked_o k (by omega), Option.bind_some, if_pos rfl]
  by_cases he : e = 0
  · obtain ⟨b, hb, rfl⟩ := h he
    have hr : rotN v b 64 < 18446744073709551616 := rotN_lt (s := 64) hv (by omega)
    rw [if_pos he, is_f hr k (by omega), Option.bind_some, dec_eq (mask_rot hv hb), if_pos (by simp), ones_f hr k (by omega), Option.bind_some, ones_f hv k (by omega), Option.bind_some, cnt_rotN hv hb, if_pos rfl, size_f hr k (by omega), Option.bind_some, size_f hv k (by omega), Option.bind_some, size_rot hv hb]
    simp
  · rw [if_neg he]
open Classical in
theorem MaskOther : cleatlaw02_MaskOther.Pure := by
  intro v by_ hw _
  refine ⟨400, ?_⟩
  have h := wf_u64 hw
  obtain ⟨v, rfl⟩ := Int.eq_ofNat_of_zero_le h.1
  have hv : v < 18446744073709551616 := by omega
  have ho : IntKind.u64.wrap (18446744073709551615 - (v : Int)) = (oth v : Int) := by
    unfold oth
    rw [wu64_in ⟨by omega, by omega⟩]; omega
  have hol := oth_lt v
  have hr : ∃ a e, bits_Rotate.f 400 (v : Int) by_ 64 = some (a, e) ∧ (e = 0 → ∃ b, b < 64 ∧ a = (rotN v b 64 : Int)) := by
    by_cases hb : by_ < 0 ∨ by_ ≥ 64
    · exact ⟨0, 1, rot_by_bad (s := 64) 400 (by omega) v by_ sz64 (by omega), fun e => by omega⟩
    · obtain ⟨b, rfl⟩ := Int.eq_ofNat_of_zero_le (show 0 ≤ by_ by omega)
      exact ⟨_, 0, rot_ok (s := 64) 400 (by omega) v b sz64 hv (by omega), fun _ => ⟨b, by omega, rfl⟩⟩
  obtain ⟨a, e, hr, hae⟩ := hr
  have hc := cnt_oth hv
  have hj := other_j0 400 (by omega) v hv a e hae
  unfold cleatlaw02_MaskOther.f
  rw [is_f hv 400 (by omega), Option.bind_some, hr, Option.bind_some, ho, is_f hol 400 (by omega), Option.bind_some, dec_eq (mask_oth hv), if_neg (by simp), ones_f hv 400 (by omega), Option.bind_some, ones_f hol 400 (by omega), Option.bind_some, w64_in ⟨by omega, by omega⟩, if_pos (by omega), size_f hol 400 (by omega), Option.bind_some, size_f hv 400 (by omega), Option.bind_some, size_oth hv, bne_eq_false_iff_eq.2 rfl]
  exact hj
end Go.Proofs.Yteachdhnoakgeaa.Pure
