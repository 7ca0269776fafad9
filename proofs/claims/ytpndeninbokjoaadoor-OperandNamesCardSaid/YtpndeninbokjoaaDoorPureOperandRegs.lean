/- Register's names and numbers turn one another back: the plain half. No conditions. -/
import Derived.Test.YtpndeninbokjoaaDoorQOperandRegs
import Derived.Test.YtpndeninbokjoaaDoorRg1
namespace Go.Proofs.YtpndeninbokjoaaDoor.Pure
open Go.RowKit Go.Proofs.YtpndeninbokjoaaDoor.P Go.Proofs.YtpndeninbokjoaaDoor.Q Go.Proofs.YtpndeninbokjoaaDoor.Rg Go.Proofs.YtpndeninbokjoaaDoorW.PrintWords Go.Proofs.YtpndeninbokjoaaDoorW.PrintLast Go.Proofs.YtpndeninbokjoaaDoorW.PrintMore
set_option linter.unusedVariables false
theorem value_nonneg {s : ByteArray} {v e : Int} (h : num_Value.f s = some (v, e)) : 0 ≤ v := by
 unfold num_Value.f at h
 have h := Option.some.inj h
 split at h
 ·split at h
  ·cases h; exact Int.natCast_nonneg _
  ·cases h; decide
 ·cases h; decide
set_option maxRecDepth 100000 in
theorem text_tab : ∀ n : Nat, n < 31 → operand_RegText.f 13 (n : Int) false = (num_Text.f (n : Int)).bind fun t => some ((⟨#[120]⟩ : ByteArray) ++ t, 0) := by decide +kernel
theorem first_rest {s : ByteArray} (h0 : 0 < s.size) (hb : bt s 0 = 120) : s.data.toList = 120 :: (s.extract 1 s.size).data.toList := by
 have h := bt_at s 0 (by simpa using h0)
 rw [hb] at h
 cases hl : s.data.toList with
 | nil =>
  exfalso
  have h7 : s.data.toList.length = s.size := by simp
  rw [hl] at h7
  simp at h7
  omega
 | cons c r =>
  have hc : s[(0 : Int).toNat]'(by simpa using h0) = c := by
   have : s.data.toList[0]? = some c := by rw [hl]; rfl
   have h9 := Go.Lib.data_getElem? s 0 h0
   rw [this] at h9
   exact (Option.some.inj h9).symm
  rw [hc] at h
  have hc2 : c = 120 := by
   apply UInt8.toNat_inj.1
   have : (c.toNat : Int) = 120 := h
   simpa using (by omega : c.toNat = 120)
  subst hc2
  have e : (s.extract 1 s.size).data.toList = s.data.toList.drop 1 := by
   simp
   apply List.take_of_length_le
   simp
  rw [e, hl]
  rfl
set_option maxRecDepth 100000 in
theorem reg_ok {s : ByteArray} {a : Int} {x : Bool} (h : operand_Reg.f s = some (a, x, 0)) : ∃ t, operand_RegText.f 13 a x = some (t, 0) ∧ t.toList = s.toList := by
 unfold operand_Reg.f at h
 split at h
 ·rename_i hs
  cases h
  exact ⟨⟨#[115, 112]⟩, by kernel_rfl, by rw [hs, ByteArray.toList_eq]⟩
 ·split at h
  ·rename_i hs
   cases h
   exact ⟨⟨#[120, 122, 114]⟩, by kernel_rfl, by rw [hs, ByteArray.toList_eq]⟩
  ·split at h
   ·cases h
   ·split at h
    ·cases h
    ·split at h
     ·rename_i h0
      split at h
      ·rename_i hb
       split at h
       ·obtain ⟨⟨v, e⟩, hv, h⟩ := Option.bind_eq_some_iff.mp h
        simp only at h
        split at h
        ·split at h
         ·cases h
         ·rename_i hge
          obtain ⟨t, ht, h⟩ := Option.bind_eq_some_iff.mp h
          split at h
          ·rename_i hts
           have h1 := value_nonneg hv
           have hw : wrap64 v = v := (by unfold wrap64; omega)
           have hn : (v.toNat : Int) = v := Int.toNat_of_nonneg h1
           have tb := text_tab v.toNat (by omega)
           rw [hn, ht] at tb
           rw [hw] at h
           cases h
           refine ⟨_, tb, ?_⟩
           rw [ByteArray.toList_eq] at hts ⊢
           rw [ByteArray.toList_eq] at hts ⊢
           rw [first_rest (by omega) hb, ← hts]
           simp
          ·cases h
        ·cases h
       ·cases h
      ·cases h
     ·cases h
set_option maxRecDepth 100000 in
theorem text_some : ∀ n : Nat, n < 31 → (num_Text.f (n : Int)).isSome = true := by decide +kernel
theorem reg_some (s : ByteArray) : ∃ y, operand_Reg.f s = some y := by
 unfold operand_Reg.f
 split
 ·exact ⟨_, rfl⟩
 ·split
  ·exact ⟨_, rfl⟩
  ·split
   ·exact ⟨_, rfl⟩
   ·split
    ·exact ⟨_, rfl⟩
    ·split
     ·split
      ·split
       ·cases hv : num_Value.f (s.extract 1 s.size) with
        | none => unfold num_Value.f at hv; cases hv
        | some y =>
         obtain ⟨v, e⟩ := y
         rw [Option.bind_some]
         simp only
         split
         ·split
          ·exact ⟨_, rfl⟩
          ·have h1 := value_nonneg hv
           have hn : (v.toNat : Int) = v := Int.toNat_of_nonneg h1
           have tb := text_some v.toNat (by omega)
           rw [hn] at tb
           obtain ⟨t, ht⟩ := Option.isSome_iff_exists.mp tb
           rw [ht, Option.bind_some]
           split
           ·exact ⟨_, rfl⟩
           ·exact ⟨_, rfl⟩
         ·exact ⟨_, rfl⟩
       ·omega
      ·exact ⟨_, rfl⟩
     ·omega
theorem regs_all (s : ByteArray) (n : Int) (x2 : Bool) : cleatlaw11_OperandRegs.f 13 s n x2 = some true := by
 obtain ⟨⟨a, x, e⟩, hy⟩ := reg_some s
 unfold cleatlaw11_OperandRegs.f
 rw [hy, Option.bind_some]
 simp only
 split
 ·rename_i he
  subst he
  obtain ⟨t, ht, hl⟩ := reg_ok hy
  rw [ht, Option.bind_some]
  simp only
  rw [if_pos trivial, if_pos hl]
  exact regs_j0 n x2
 ·exact regs_j0 n x2
theorem OperandRegs : cleatlaw11_OperandRegs.Pure := fun a0 a1 a2 _ _ => ⟨13, regs_all a0 a1 a2⟩
end Go.Proofs.YtpndeninbokjoaaDoor.Pure
