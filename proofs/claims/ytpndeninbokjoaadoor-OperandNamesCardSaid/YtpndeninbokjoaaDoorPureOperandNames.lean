/- Names of registers and local labels are the document's: the plain half. No conditions. -/
import Derived.Test.YtpndeninbokjoaaDoorQOperandNames
import Derived.Test.YtpndeninbokjoaaDoorRg2
namespace Go.Proofs.YtpndeninbokjoaaDoor.Pure
open Go.RowKit Go.Proofs.YtpndeninbokjoaaDoor.P Go.Proofs.YtpndeninbokjoaaDoor.Q Go.Proofs.YtpndeninbokjoaaDoor.Rg Go.Proofs.YtpndeninbokjoaaDoorW.PrintWords Go.Proofs.YtpndeninbokjoaaDoorW.PrintLast Go.Proofs.YtpndeninbokjoaaDoorW.PrintMore
set_option linter.unusedVariables false
set_option maxRecDepth 100000 in
theorem reg_shape {s : ByteArray} {a : Int} {x : Bool} {e : Int} (h : operand_Reg.f s = some (a, x, e)) : e = 0 ∨ (a = 0 ∧ x = false ∧ e = 3) := by
 have g : ∀ v c : Int, (some (v, false, (0 : Int)) : Option (Int × Bool × Int)) = some (a, x, e) → e = 0 ∨ (a = 0 ∧ x = false ∧ e = 3) := fun v c h => by cases h; exact Or.inl rfl
 have b : (some ((0 : Int), false, (3 : Int)) : Option (Int × Bool × Int)) = some (a, x, e) → e = 0 ∨ (a = 0 ∧ x = false ∧ e = 3) := fun h => by cases h; exact Or.inr ⟨rfl, rfl, rfl⟩
 unfold operand_Reg.f at h
 split at h
 ·cases h; exact Or.inl rfl
 ·split at h
  ·cases h; exact Or.inl rfl
  ·split at h
   ·exact b h
   ·split at h
    ·exact b h
    ·split at h
     ·split at h
      ·split at h
       ·obtain ⟨⟨v, e1⟩, hv, h⟩ := Option.bind_eq_some_iff.mp h
        simp only at h
        split at h
        ·split at h
         ·exact b h
         ·obtain ⟨t, ht, h⟩ := Option.bind_eq_some_iff.mp h
          split at h
          ·exact g _ 0 h
          ·exact b h
        ·exact b h
       ·cases h
      ·exact b h
     ·cases h
set_option maxRecDepth 100000 in
theorem regtext_some : ∀ n : Nat, n < 32 → ∀ x : Bool, (operand_RegText.f 60 (n : Int) x).isSome = true := by decide +kernel
theorem regtext_is (n : Int) (x : Bool) : ∃ y, operand_RegText.f 60 n x = some y := by
 by_cases h0 : n < 0
 ·exact ⟨(⟨#[]⟩, 1), by simp [operand_RegText.f, operand_RegText.j0, h0]⟩
 ·by_cases h1 : n > 31
  ·exact ⟨(⟨#[]⟩, 1), by simp [operand_RegText.f, operand_RegText.j0, h0, h1]⟩
  ·have := regtext_some n.toNat (by omega) x
   rw [Int.toNat_of_nonneg (by omega)] at this
   exact Option.isSome_iff_exists.mp this
set_option maxRecDepth 100000 in
theorem text13_tab : ∀ n : Nat, n < 32 → operand_RegText.f 13 (n : Int) false = some (nameR n, 0) := by decide +kernel
theorem regtext_range {a : Int} {x : Bool} {t : ByteArray} (h : operand_RegText.f 13 a x = some (t, 0)) : 0 ≤ a ∧ a ≤ 31 ∧ (x = true → a = 31) := by
 by_cases h0 : a < 0
 ·simp [operand_RegText.f, operand_RegText.j0, h0] at h
 ·by_cases h1 : a > 31
  ·simp [operand_RegText.f, operand_RegText.j0, h0, h1] at h
  ·refine ⟨by omega, by omega, fun hx => ?_⟩
   subst hx
   by_cases h2 : a = 31
   ·exact h2
   ·simp [operand_RegText.f, operand_RegText.j0, h0, h1, h2] at h
theorem reg_ref (s : ByteArray) : cleatref11_Reg.f 60 s = operand_Reg.f s := by
 obtain ⟨⟨a, x, e⟩, hy⟩ := reg_some s
 unfold cleatref11_Reg.f
 by_cases hsp : s.toList = ([115, 112] : List UInt8)
 ·rw [if_pos hsp]
  unfold operand_Reg.f
  rw [if_pos hsp]
 ·rw [if_neg hsp, hy]
  have l0 : ∀ y, cleatref11_Reg.l0 (60 - 0) s ((0 : Nat) : Int) = y → cleatref11_Reg.l0 60 s 0 = y := fun y h => h
  rcases reg_shape hy with rfl | ⟨rfl, rfl, rfl⟩
  ·obtain ⟨t, ht, hl⟩ := reg_ok hy
   obtain ⟨r0, r1, r2⟩ := regtext_range ht
   cases x with
   | true =>
    exfalso
    have ha := r2 rfl
    subst ha
    have e1 : operand_RegText.f 13 31 true = some ((⟨#[115, 112]⟩ : ByteArray), 0) := by kernel_rfl
    rw [e1] at ht
    have e2 := (Prod.mk.inj (Option.some.inj ht)).1
    rw [← e2, ByteArray.toList_eq] at hl
    exact hsp hl.symm
   | false =>
    have hn : (a.toNat : Int) = a := Int.toNat_of_nonneg r0
    have tb := text13_tab a.toNat (by omega)
    rw [hn, ht] at tb
    have e2 := (Prod.mk.inj (Option.some.inj tb)).1
    have := ref_yes s a.toNat (by omega) (by rw [← hl, e2]) a.toNat 0 (by omega)
    rw [hn] at this
    exact l0 _ this
  ·refine l0 _ (ref_no s (fun n hn h => ?_) 32 0 (by omega))
   have h3 := name_tab n hn
   rw [← toList_inj h, hy] at h3
   cases h3
theorem lab_step (s : ByteArray) (h2 : 2 ≤ s.size) (h5 : s.size ≤ 5) : ∀ d i : Nat, i + d = s.size - 1 → (s.data.toList.take i).all (fun c => isDig c.toNat) = true → cleatref11_Label.l0 (40 + d) s (labV (s.data.toList.take i)) (i : Int) = some (labB s.data.toList)
 | 0, i, hi, ha => by
  have hw : wrap64 ((s.size : Int) - 1) = ((s.size - 1 : Nat) : Int) := by unfold wrap64; omega
  have hlen : s.data.toList.length = s.size := by simp
  have hl := lab_last s (by omega)
  rw [show ((s.size : Int) - 1) = ((s.size - 1 : Nat) : Int) by omega] at hl
  have hdl : s.data.toList.dropLast = s.data.toList.take i := by rw [List.dropLast_eq_take, hlen, ← hi, Nat.add_zero]
  rw [show (40 + 0 : Nat) = 39 + 1 from rfl, cleatref11_Label.l0, hw, if_neg (by omega), if_pos (by omega), if_pos (by omega), hl]
  unfold labB
  rw [hlen, if_neg (show ¬ (s.size < 2 ∨ 5 < s.size) by omega), hdl, if_pos ha]
  generalize s.data.toList.getLastD 0 = c
  by_cases c1 : c = 102
  ·subst c1
   rfl
  ·have d1 : ¬ ((c.toNat : Int) = 102) := fun h => c1 (by apply UInt8.toNat_inj.1; show c.toNat = 102; omega)
   rw [if_neg d1]
   by_cases c2 : c = 98
   ·subst c2
    rfl
   ·have d2 : ¬ ((c.toNat : Int) = 98) := fun h => c2 (by apply UInt8.toNat_inj.1; show c.toNat = 98; omega)
    rw [if_neg d2, if_pos ⟨c1, c2⟩]
 | d + 1, i, hi, ha => by
  have hw : wrap64 ((s.size : Int) - 1) = ((s.size - 1 : Nat) : Int) := by unfold wrap64; omega
  have hlen : s.data.toList.length = s.size := by simp
  have hb : bt s (i : Int) = ((s[i]'(by omega)).toNat : Int) := (bt_at s (i : Int) (by simp; omega)).symm
  have htk := lab_take s i (by omega)
  rw [show (40 + (d + 1) : Nat) = (40 + d) + 1 from rfl, cleatref11_Label.l0, hw, if_pos (by omega), if_pos (by omega), if_pos (by omega), hb]
  obtain ⟨c, hc⟩ : ∃ c, s[i]'(by omega) = c := ⟨_, rfl⟩
  rw [hc] at htk ⊢
  have bad : isDig c.toNat = false → labB s.data.toList = (0, false, false) := fun hd => by
   unfold labB
   rw [hlen, if_neg (by omega)]
   split
   ·rfl
   ·rw [if_neg]
    intro hall
    rw [List.dropLast_eq_take, hlen] at hall
    have hall := List.all_eq_true.1 hall c (by
     have : c ∈ s.data.toList.take (i + 1) := by rw [htk]; simp
     exact (List.take_subset_take_left s.data.toList (by omega)) this)
    rw [hd] at hall
    cases hall
  by_cases c1 : (c.toNat : Int) < 48
  ·rw [if_pos c1, bad (by unfold isDig; simp; omega)]
  ·rw [if_neg c1]
   by_cases c2 : (c.toNat : Int) > 57
   ·rw [if_pos c2, bad (by unfold isDig; simp; omega)]
   ·rw [if_neg c2]
    have hd : isDig c.toNat = true := by unfold isDig; simp; omega
    have ha' : (s.data.toList.take (i + 1)).all (fun c => isDig c.toNat) = true := by rw [htk, List.all_append, ha]; simpa using hd
    have bd := labV_bd 5 (s.data.toList.take i) (by simp; omega) ha
    have bp : (10 : Int) ^ (s.data.toList.take i).length ≤ 10 ^ 4 := by
     have h4 : (s.data.toList.take i).length ≤ 4 := by simp; omega
     have e4 := Nat.pow_le_pow_right (n := 10) (by decide) h4
     have : (((10 ^ (s.data.toList.take i).length : Nat)) : Int) ≤ ((10 ^ 4 : Nat) : Int) := Int.ofNat_le.2 e4
     rw [Int.natCast_pow, Int.natCast_pow] at this
     exact this
    have e : wrap64 (wrap64 (10 * labV (s.data.toList.take i)) + ((c.toNat : Int) - 48) % 256) = labV (s.data.toList.take (i + 1)) := by
     rw [htk, labV_snoc]
     unfold wrap64
     omega
    rw [e, show wrap64 ((i : Int) + 1) = ((i + 1 : Nat) : Int) by unfold wrap64; omega]
    exact lab_step s h2 h5 d (i + 1) (by omega) ha'
theorem lab_mono (s : ByteArray) : ∀ d k, LeO (cleatref11_Label.l0 k s 0 0) (cleatref11_Label.l0 (k + d) s 0 0)
 | 0, k => LeO.refl _
 | d + 1, k => fun r h => ((cleatref11_Label.mono_l (k + d)).2 s 0 0) r (lab_mono s d k r h)
theorem lab_ref (s : ByteArray) : cleatref11_Label.f 60 s = some (labB s.data.toList) := by
 have hlen : s.data.toList.length = s.size := by simp
 unfold cleatref11_Label.f
 by_cases h2 : s.size < 2
 ·rw [if_pos (by omega), show (60 : Nat) = 59 + 1 from rfl, cleatref11_Label.j0, if_pos rfl]
  unfold labB
  rw [hlen, if_pos (Or.inl h2)]
 ·rw [if_neg (by omega)]
  by_cases h5 : s.size ≤ 5
  ·rw [decide_eq_false (by omega), show (60 : Nat) = 59 + 1 from rfl, cleatref11_Label.j0, if_neg (by decide)]
   have h := lab_step s (by omega) h5 (s.size - 1) 0 (by omega) (by simp)
   have h' := lab_mono s (59 - (40 + (s.size - 1))) (40 + (s.size - 1)) _ h
   rwa [show 40 + (s.size - 1) + (59 - (40 + (s.size - 1))) = 59 by omega] at h'
  ·rw [decide_eq_true (by omega), show (60 : Nat) = 59 + 1 from rfl, cleatref11_Label.j0, if_pos rfl]
   unfold labB
   rw [hlen, if_pos (Or.inr (by omega))]
theorem names_all (s : ByteArray) (n : Int) (x : Bool) : cleatlaw11_OperandNames.f 60 s n x = some true := by
 unfold cleatlaw11_OperandNames.f
 split
 ·rfl
 ·obtain ⟨y, hy⟩ := reg_some s
  obtain ⟨z, hz⟩ := regtext_is n x
  have hg : cleatlaw11_given.f 60 = some true := given_up 50
  rw [reg_ref, hy, Option.bind_some, Option.bind_some, regtext_ref, hz, Option.bind_some, Option.bind_some, lab_ref, hg]
  unfold operand_Label.f
  simp
theorem OperandNames : cleatlaw11_OperandNames.Pure := fun a0 a1 a2 _ _ => ⟨60, names_all a0 a1 a2⟩
end Go.Proofs.YtpndeninbokjoaaDoor.Pure
