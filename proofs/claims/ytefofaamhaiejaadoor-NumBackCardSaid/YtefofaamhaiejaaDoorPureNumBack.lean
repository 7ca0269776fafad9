/- NumBack, as plain Lean: Value reads what Text and Hex write. -/
import Derived.Test.YtefofaamhaiejaaDoorQNumBack
import Derived.Test.YtefofaamhaiejaaDoorNm2
import Derived.Test.YtefofaamhaiejaaDoorPx5
namespace Go.Proofs.YtefofaamhaiejaaDoor.NumBackP
open Go.RowKit Go.Proofs.YtefofaamhaiejaaDoor.P Go.Proofs.YtefofaamhaiejaaDoor.K Go.Proofs.YtefofaamhaiejaaDoor.Nm Go.Proofs.YtefofaamhaiejaaDoor.Q Go.Proofs.YtefofaamhaiejaaDoorW.PrintWords Go.Proofs.YtefofaamhaiejaaDoorW.PrintLast Go.Proofs.YtefofaamhaiejaaDoorW.PrintMore
theorem bt_list (l : List UInt8) (i : Nat) (h : i < l.length) : bt ⟨l.toArray⟩ (i : Int) = ((l[i]'h).toNat : Int) := by
  have hs : (i : Int).toNat < (⟨l.toArray⟩ : ByteArray).size := by simpa [ByteArray.size] using h
  rw [← bt_at ⟨l.toArray⟩ (i : Int) hs]
  rfl
theorem same48 {v : Nat} {c : UInt8} (h : c = 48 ↔ v = 0) : (((v : Int) == 0) == ((c.toNat : Int) == 48)) = true := by
  have e : (c.toNat : Int) = 48 ↔ v = 0 := by
    rw [← h]
    constructor
    · intro e
      exact UInt8.toNat_inj.1 (show c.toNat = 48 by omega)
    · rintro rfl; rfl
  rw [beq_iff_eq, Bool.eq_iff_iff, beq_iff_eq, beq_iff_eq, e]
  omega
end Go.Proofs.YtefofaamhaiejaaDoor.NumBackP
namespace Go.Proofs.YtefofaamhaiejaaDoor.Pure
open Go.RowKit Go.Proofs.YtefofaamhaiejaaDoor.P Go.Proofs.YtefofaamhaiejaaDoor.K Go.Proofs.YtefofaamhaiejaaDoor.Nm Go.Proofs.YtefofaamhaiejaaDoor.NumBackP Go.Proofs.YtefofaamhaiejaaDoor.Q Go.Proofs.YtefofaamhaiejaaDoorW.PrintWords Go.Proofs.YtefofaamhaiejaaDoorW.PrintLast Go.Proofs.YtefofaamhaiejaaDoorW.PrintMore
theorem NumBack : cleatlaw10_NumBack.Pure := by
  intro a0 w0
  have h0 := wf_u64 w0
  obtain ⟨v, rfl⟩ := Int.eq_ofNat_of_zero_le h0.1
  have hv : v < 18446744073709551616 := by omega
  unfold cleatlaw10_NumBack.f
  obtain ⟨d1, d2, c, r, d3, d4⟩ := dec_facts (v + 1) v (by omega)
  obtain ⟨x1, x2, y, q, x3, x4⟩ := hex_facts 15 v hv
  have n1 : num_Value.f (decS v) = some ((v : Int), 0) := by
    rw [value_dec (by rw [decS_list]; exact d1) (by rw [decS_list, d3]; simp), decS_list]
    unfold ansL
    rw [d2, if_pos hv]
  have n2 : num_Value.f ⟨(48 :: 120 :: hexL 16 v).toArray⟩ = some ((v : Int), 0) := by
    rw [value_hex _ x1 (by rw [x3]; simp)]
    unfold ansL
    rw [x2, if_pos hv]
  have eT : decS v = ⟨(c :: r).toArray⟩ := by unfold decS; rw [d3]
  rw [text_f hv, Option.bind_some, hex_f hv, Option.bind_some, n1, Option.bind_some, n2, Option.bind_some, counted_ok, Option.bind_some, eT, show hexL 16 v = y :: q from x3]
  rw [if_neg (by simp [ByteArray.toList_eq]), if_neg (by simp [ByteArray.size]; omega), if_pos rfl, if_pos rfl, if_pos rfl, if_pos rfl, if_pos rfl, if_pos (by simp [ByteArray.size])]
  have b0 := bt_list (c :: r) 0 (by simp)
  have b2 := bt_list (48 :: 120 :: y :: q) 2 (by simp)
  rw [show ((0 : Nat) : Int) = 0 from rfl] at b0
  rw [show ((2 : Nat) : Int) = 2 from rfl] at b2
  rw [b0, b2, List.getElem_cons_zero, if_pos (same48 d4), if_pos (by simp [ByteArray.size]; omega)]
  rw [show ((48 :: 120 :: y :: q)[2]'(by simp)) = y from rfl, if_pos (same48 x4), if_pos (by decide), if_pos (by simp [ByteArray.size]; omega)]
  have e : ((⟨(48 :: 120 :: y :: q).toArray⟩ : ByteArray).extract 0 2).toList = [48, 120] := by simp [ByteArray.toList_eq]
  rw [e]
  rfl
end Go.Proofs.YtefofaamhaiejaaDoor.Pure
