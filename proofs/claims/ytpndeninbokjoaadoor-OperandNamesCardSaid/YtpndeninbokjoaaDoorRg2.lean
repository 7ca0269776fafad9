/- Registers' names against the document's: tables. -/
import Derived.Test.YtpndeninbokjoaaDoorPureOperandRegs
import Derived.Test.YtpndeninbokjoaaDoorQOperandNames
namespace Go.Proofs.YtpndeninbokjoaaDoor.Rg
open Go.RowKit Go.Proofs.YtpndeninbokjoaaDoor.P Go.Proofs.YtpndeninbokjoaaDoor.Pure Go.Proofs.YtpndeninbokjoaaDoorW.PrintWords Go.Proofs.YtpndeninbokjoaaDoorW.PrintLast Go.Proofs.YtpndeninbokjoaaDoorW.PrintMore
set_option maxRecDepth 100000 in
theorem text_ref : ∀ n : Nat, n < 32 → ∀ x : Bool, cleatref11_RegText.f 60 (n : Int) x = operand_RegText.f 60 (n : Int) x := by decide +kernel
theorem regtext_ref (n : Int) (x : Bool) : cleatref11_RegText.f 60 n x = operand_RegText.f 60 n x := by
 by_cases h0 : n < 0
 ·simp [cleatref11_RegText.f, cleatref11_RegText.j0, operand_RegText.f, operand_RegText.j0, h0]
 ·by_cases h1 : n > 31
  ·simp [cleatref11_RegText.f, cleatref11_RegText.j0, operand_RegText.f, operand_RegText.j0, h0, h1]
  ·have := text_ref n.toNat (by omega) x
   rwa [Int.toNat_of_nonneg (by omega)] at this
def nameR (n : Nat) : ByteArray := ((operand_RegText.f 60 (n : Int) false).getD (⟨#[]⟩, 9)).1
set_option maxRecDepth 100000 in
theorem name_tab : ∀ n : Nat, n < 32 → operand_Reg.f (nameR n) = some ((n : Int), false, 0) := by decide +kernel
set_option maxRecDepth 100000 in
theorem name_text : ∀ n : Nat, n < 32 → ∀ k : Nat, k < 40 → cleatref11_RegText.f (20 + k) (n : Int) false = some (nameR n, 0) := by decide +kernel
theorem toList_inj {s t : ByteArray} (h : s.toList = t.toList) : s = t := by
 rw [ByteArray.toList_eq, ByteArray.toList_eq] at h
 cases s; cases t
 congr
 exact Array.toList_inj.1 h
theorem names_apart {s : ByteArray} {n m : Nat} (hn : n < 32) (hm : m < 32) (h1 : s.toList = (nameR n).toList) (h2 : s.toList = (nameR m).toList) : n = m := by
 have e := toList_inj (h1.symm.trans h2)
 have h3 := name_tab n hn
 rw [e, name_tab m hm] at h3
 have := (Prod.mk.inj (Option.some.inj h3)).1
 omega
theorem l0_at (s : ByteArray) (n : Nat) (hn : n < 32) : cleatref11_Reg.l0 (60 - n) s (n : Int) = if s.toList = (nameR n).toList then some ((n : Int), false, 0) else cleatref11_Reg.l0 (60 - (n + 1)) s ((n + 1 : Nat) : Int) := by
 obtain ⟨k, hk⟩ : ∃ k, 60 - n = k + 1 := ⟨59 - n, by omega⟩
 have ht := name_text n hn (39 - n) (by omega)
 rw [show 20 + (39 - n) = k by omega] at ht
 rw [hk, cleatref11_Reg.l0, if_pos (by omega), ht, Option.bind_some, show 60 - (n + 1) = k by omega]
 simp only
 rw [show wrap64 ((n : Int) + 1) = ((n + 1 : Nat) : Int) by unfold wrap64; omega]
theorem ref_no (s : ByteArray) (h : ∀ n, n < 32 → s.toList ≠ (nameR n).toList) : ∀ d n : Nat, n + d = 32 → cleatref11_Reg.l0 (60 - n) s (n : Int) = some (0, false, 3)
 | 0, n, hd => by
  obtain rfl : n = 32 := by omega
  show cleatref11_Reg.l0 (27 + 1) s 32 = _
  rw [cleatref11_Reg.l0, if_neg (by omega)]
 | d + 1, n, hd => by rw [l0_at s n (by omega), if_neg (h n (by omega)), ref_no s h d (n + 1) (by omega)]
theorem ref_yes (s : ByteArray) (m : Nat) (hm : m < 32) (hs : s.toList = (nameR m).toList) : ∀ d n : Nat, n + d = m → cleatref11_Reg.l0 (60 - n) s (n : Int) = some ((m : Int), false, 0)
 | 0, n, hd => by
  obtain rfl : n = m := by omega
  rw [l0_at s n hm, if_pos hs]
 | d + 1, n, hd => by
  rw [l0_at s n (by omega), if_neg (fun h => by have := names_apart (by omega) hm h hs; omega), ref_yes s m hm hs d (n + 1) (by omega)]
end Go.Proofs.YtpndeninbokjoaaDoor.Rg
