/- A label that is written is read as its number and its side, and is no name of a symbol: the plain half. No conditions. -/
import Derived.Test.YtmolcgkahhdkgaaDoorQLocalText
import Derived.Test.YtmolcgkahhdkgaaDoorLc1
import Derived.Test.YtmolcgkahhdkgaaDoorLc2
import Derived.Test.YtmolcgkahhdkgaaDoorPx13
namespace Go.Proofs.YtmolcgkahhdkgaaDoor.Pure
open Go.Lib Go.RowKit Go.Proofs.YtmolcgkahhdkgaaDoor.P Go.Proofs.YtmolcgkahhdkgaaDoor.Q Go.Proofs.YtmolcgkahhdkgaaDoorW.PrintWords Go.Proofs.YtmolcgkahhdkgaaDoorW.PrintLast Go.Proofs.YtmolcgkahhdkgaaDoorW.PrintMore
set_option linter.unusedVariables false
theorem not_name (l : List UInt8) (h : l.all (fun c => isDig c.toNat) = true) (h1 : 1 ≤ l.length) (c : UInt8) : wordB (l ++ [c]) = false := by
 cases l with
 | nil => simp at h1
 | cons x l =>
  rw [List.all_cons, Bool.and_eq_true] at h
  have hx := h.1
  unfold isDig at hx
  rw [Bool.and_eq_true, decide_eq_true_eq, decide_eq_true_eq] at hx
  unfold wordB
  rw [Bool.and_eq_false_iff]
  refine Or.inr ?_
  show isLet (x.toNat : Int) = false
  unfold isLet
  simp
  omega
theorem text_f (a0 : Int) (a1 : Bool) : cleatlaw14_LocalText.f 5 a0 a1 = some true := by
 unfold cleatlaw14_LocalText.f local_Text.f
 by_cases h1 : a0 < 0
 ·rw [if_pos h1]
  simp only [local_Text.j0]
  rw [if_pos trivial]
  simp only [Option.bind_some]
  rw [if_neg (by decide)]
  show (some true).bind _ = _
  rw [Option.bind_some, if_pos rfl, if_pos (show (⟨#[]⟩ : ByteArray).toList = [] by rw [ByteArray.toList_eq]), if_pos h1]
 rw [if_neg h1]
 by_cases h2 : a0 > 9999
 ·rw [decide_eq_true h2]
  simp only [local_Text.j0]
  rw [if_pos trivial]
  simp only [Option.bind_some]
  rw [if_neg (by decide)]
  show (some true).bind _ = _
  rw [Option.bind_some, if_pos rfl, if_pos (show (⟨#[]⟩ : ByteArray).toList = [] by rw [ByteArray.toList_eq]), if_neg h1]
 rw [decide_eq_false h2]
 obtain ⟨v, rfl⟩ := Int.eq_ofNat_of_zero_le (by omega : 0 ≤ a0)
 obtain ⟨g1, g2, g3⟩ := dec_lab (v + 1) v (by omega)
 have g4 := dec_len 3 v (by omega)
 have key : ∀ (u : Bool) (c : UInt8), (c = 102 ∨ c = 98) → (c == 102) = u → ∀ s : ByteArray, s.data.toList = Go.Lib.decDigits v ++ [c] →
   ((some (s, (0 : Int))).bind fun bt239 : ByteArray × Int => (if bt239.2 = 0 then ((operand_Label.f bt239.1).bind fun bt241 => ((cleatlaw14_labeled.f).bind fun t244 => (if t244 = true then (if bt241.2.2 = true then (if bt241.1 = (v : Int) then (if (bt241.2.1 == u) = true then ((local_IsName.f 5 bt239.1).bind fun t245 => (some (!t245))) else (some false)) else (some false)) else (some false)) else (some false)))) else ((cleatlaw14_labeled.f).bind fun t246 => (if t246 = true then (if bt239.1.toList = ([] : List UInt8) then (if (v : Int) < 0 then (some true) else (some (decide ((v : Int) > 9999)))) else (some false)) else (some false))))) = some true := by
  intro u c hc hu s hs
  have hL : operand_Label.f s = some ((v : Int), c == 102, true) := by unfold operand_Label.f; rw [hs, lab_read v (by omega) c hc]
  have hN : local_IsName.f 5 s = some false := by
   rw [name_f 4 s]
   unfold nameB
   rw [hs, not_name _ g1 g3 c, Bool.and_false]
  rw [Option.bind_some]
  simp only [hL, hN, Option.bind_some]
  have hl : cleatlaw14_labeled.f = some true := rfl
  rw [hl, hu]
  simp
 have hi : strconv_Itoa_20.f (v : Int) = some (itoaB (v : Int)) := by
  unfold strconv_Itoa_20.f
  rw [if_pos (by omega)]
 have hb : (itoaB (v : Int)).data.toList = Go.Lib.decDigits v := by unfold itoaB; rw [Go.Lib.itoa_nonneg]
 have hsz : (itoaB (v : Int)).size + 1 ≤ 9223372036854775807 := by
  have : (itoaB (v : Int)).size = (itoaB (v : Int)).data.toList.length := by simp
  rw [this, hb]; omega
 cases a1
 ·simp only [local_Text.j0]
  rw [if_neg (by decide), if_neg (by decide), hi, Option.bind_some, if_pos hsz]
  exact key false 98 (Or.inr rfl) rfl _ (by simp [hb])
 ·simp only [local_Text.j0]
  rw [if_neg (by decide), if_pos trivial, hi, Option.bind_some, if_pos hsz]
  exact key true 102 (Or.inl rfl) rfl _ (by simp [hb])
theorem LocalText : cleatlaw14_LocalText.Pure := fun a0 a1 _ => ⟨5, text_f a0 a1⟩
end Go.Proofs.YtmolcgkahhdkgaaDoor.Pure
