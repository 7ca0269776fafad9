/- Rows of operands with a comma between are read as both: the plain half. No conditions. -/
import Derived.Test.YtpndeninbokjoaaDoorQOperandJoins
import Derived.Test.YtpndeninbokjoaaDoorJn1
import Derived.Test.YtpndeninbokjoaaDoorJn2
import Derived.Test.YtpndeninbokjoaaDoorRg1
namespace Go.Proofs.YtpndeninbokjoaaDoor.Pure
open Go.RowKit Go.Proofs.YtpndeninbokjoaaDoor.P Go.Proofs.YtpndeninbokjoaaDoor.Q Go.Proofs.YtpndeninbokjoaaDoor.Rg Go.Proofs.YtpndeninbokjoaaDoor.Jn Go.Proofs.YtpndeninbokjoaaDoorW.PrintWords Go.Proofs.YtpndeninbokjoaaDoorW.PrintLast Go.Proofs.YtpndeninbokjoaaDoorW.PrintMore
set_option linter.unusedVariables false
theorem parse_f {l : List Tk} (h : l.length ≤ 1000000) : operand_Parse.f l = some (parseF l) := by unfold operand_Parse.f; rw [if_pos h]
theorem joins_all (l m : List Tk) (h : ¬ (wrap64 ((l.length : Int) + (m.length : Int))) > 60) (hl : l.length < 4398046511104) (hm : m.length < 4398046511104) : cleatlaw11_OperandJoins.f (10 + 1000) l m = some true := by
 have hs : l.length + m.length ≤ 60 := by unfold wrap64 at h; omega
 unfold cleatlaw11_OperandJoins.f
 rw [if_neg h, parse_f (by omega), parse_f (by omega), Option.bind_some, Option.bind_some, if_pos (by simp; omega), Option.bind_some, List.nil_append, if_pos (by omega), Option.bind_some, if_pos (by simp; omega), parse_f (by simp; omega), Option.bind_some]
 obtain ⟨⟨a, e⟩, ha⟩ : ∃ z, parseF l = z := ⟨_, rfl⟩
 obtain ⟨⟨b, f⟩, hb⟩ : ∃ z, parseF m = z := ⟨_, rfl⟩
 have hg : ∀ k, k ≤ 1000 → cleatlaw11_given.f (10 + k) = some true := fun k _ => given_up k
 by_cases h0 : l.length = 0 ∨ m.length = 0
 ·have hp := parse_none l m h0
  have h1 : (if (l.length : Int) = 0 then (cleatlaw11_OperandJoins.j0 (10 + 1000) (parseF l).1 (parseF l).2 (parseF m).1 (parseF m).2 (parseF ((l ++ [comma]) ++ m)).1 (parseF ((l ++ [comma]) ++ m)).2 true) else (cleatlaw11_OperandJoins.j0 (10 + 1000) (parseF l).1 (parseF l).2 (parseF m).1 (parseF m).2 (parseF ((l ++ [comma]) ++ m)).1 (parseF ((l ++ [comma]) ++ m)).2 ((m.length : Int) == 0))) = cleatlaw11_OperandJoins.j0 (10 + 1000) (parseF l).1 (parseF l).2 (parseF m).1 (parseF m).2 (parseF ((l ++ [comma]) ++ m)).1 (parseF ((l ++ [comma]) ++ m)).2 true := by
   split
   ·rfl
   ·rw [show ((m.length : Int) == 0) = true by rw [beq_iff_eq]; omega]
  refine h1.trans ?_
  rw [show (10 + 1000 : Nat) = 1009 + 1 from rfl, cleatlaw11_OperandJoins.j0, if_pos rfl, show (1009 : Nat) = 10 + 999 from rfl, hg 999 (by omega), Option.bind_some, if_pos rfl, hp]
  rfl
 ·rw [if_neg (by omega), show ((m.length : Int) == 0) = false by rw [beq_eq_false_iff_ne]; omega]
  show cleatlaw11_OperandJoins.j0 (1009 + 1) (parseF l).1 (parseF l).2 (parseF m).1 (parseF m).2 (parseF ((l ++ [comma]) ++ m)).1 (parseF ((l ++ [comma]) ++ m)).2 false = _
  rw [cleatlaw11_OperandJoins.j0, if_neg (by decide), ha, hb]
  have bad : ∀ c g, cleatlaw11_OperandJoins.j1 1009 a b c g true = some true := fun c g => by
   rw [show (1009 : Nat) = 1008 + 1 from rfl, cleatlaw11_OperandJoins.j1, if_pos rfl, show (1008 : Nat) = 10 + 998 from rfl, hg 998 (by omega)]
   rfl
  simp only
  by_cases he : e = 0
  ·rw [if_pos he]
   by_cases hf : f = 0
   ·subst he; subst hf
    have hp := parse_both l m (by omega) (by omega) ha hb
    have la := parse_len ha
    have lb := parse_len hb
    rw [hp]
    show cleatlaw11_OperandJoins.j1 (1008 + 1) a b (a ++ b) 0 false = _
    rw [cleatlaw11_OperandJoins.j1, if_neg (by decide), if_pos (by simp; omega), Option.bind_some, List.nil_append, if_pos (by omega), show (1008 : Nat) = 10 + 998 from rfl, hg 998 (by omega), Option.bind_some, if_pos rfl, if_pos rfl, same _ (by simp; omega) _ (by simp; omega)]
    rfl
   ·rw [show (f != 0) = true by rw [bne_iff_ne]; exact hf]
    exact bad _ _
  ·rw [if_neg he]
   exact bad _ _
theorem OperandJoins : cleatlaw11_OperandJoins.Pure := by
 intro l m h0 h1 h2 h3
 by_cases h : (wrap64 ((l.length : Int) + (m.length : Int))) > 60
 ·refine ⟨0, ?_⟩
  unfold cleatlaw11_OperandJoins.f
  rw [if_pos h]
 ·exact ⟨_, joins_all l m h (by omega) (by omega)⟩
end Go.Proofs.YtpndeninbokjoaaDoor.Pure
