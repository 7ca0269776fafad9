-- printed by wip/tools/myprint.py out of the translation. Not trusted: Lean checks it.
import Derived.Test.YtpndeninbokjoaaDoorPx0
import Derived.Test.YtpndeninbokjoaaDoorPx7
import Derived.Test.YtpndeninbokjoaaDoorPx11
namespace Go.Proofs.YtpndeninbokjoaaDoor.P
open Go.RowKit Go.Proofs.YtpndeninbokjoaaDoorW.PrintWords Go.Proofs.YtpndeninbokjoaaDoorW.PrintLast Go.Proofs.YtpndeninbokjoaaDoorW.PrintMore
attribute [local go_sem] max2_int min2_int max_two min_two max_three min_three max_four min_four   -- for this text's walks alone
set_option linter.unusedVariables false
set_option linter.unusedSimpArgs false

/-! ### cleatlaw11_of: function 19 -/
def cleatlaw11_of.f (a0 : ByteArray) : Option ((List (S44)) × Int) := (lex_Line.f a0).bind fun bt180 => (if bt180.2 = 0 then ((operand_Parse.f bt180.1).bind fun bt184 => (some (bt184.1, bt184.2))) else (some (([] : List (S44)), bt180.2)))
set_option maxHeartbeats 8000000 in
set_option maxRecDepth 100000 in
theorem cleatlaw11_of.calls (a0 : ByteArray) (r1 : List (S44)) (r2 : Int) (w : World) (h : cleatlaw11_of.f a0 = some (r1, r2)) (HT : Aside0 (Tabs w)) :
  Calls Tryd.prog 19 #[.string a0] w fun e w' => ∃ v0_ : Value, e = .returned (.tuple #[v0_, .int .i64 r2]) ∧ Kd.R k44 44 w' w.heap.size (fun _ => True) v0_ r1 ∧ Below w.heap.size w w' := by
 have HB := Aside0.mk (Below.refl w.heap.size w)
 have H : ((lex_Line.f a0).bind fun bt180 => (if bt180.2 = 0 then ((operand_Parse.f bt180.1).bind fun bt184 => (some (bt184.1, bt184.2))) else (some (([] : List (S44)), bt180.2)))) = some (r1, r2) := h
 clear h
 replace H := Option.bind_eq_some_iff.mp H
 obtain ⟨⟨t180, t181⟩, A20, H⟩ := H
 replace H : (if t181 = 0 then ((operand_Parse.f t180).bind fun bt184 => (some (bt184.1, bt184.2))) else (some (([] : List (S44)), t181))) = some (r1, r2) := H
 have A2 := Aside0.mk A20
 clear A20
 by_cases c3 : t181 = 0
 ·rw [if_pos c3] at H
  have c3b0 : (t181 == 0) = true := beq_iff_eq.mpr c3
  have c3b1 : (t181 != 0) = false := bne_eq_false_iff_eq.mpr c3
  clear c3
  replace H := Option.bind_eq_some_iff.mp H
  obtain ⟨⟨t184, t185⟩, A40, H⟩ := H
  replace H : (some (t184, t185)) = some (r1, r2) := H
  have A4 := Aside0.mk A40
  clear A40
  simp only [Option.some.injEq, Prod.mk.injEq] at H
  obtain ⟨rfl, rfl⟩ := H
  go_enter Tryd.func19, Tryd.ntmps19
  go_wp2_with (first | ((with_reducible refine gate_callee (f := 34) rfl ?_); refine goesL_ (some 10) rfl rfl Tryd.func34 (by kernel_rfl) rfl #[.string a0] rfl (by (try simp only [List.map_toArray, List.map_cons, List.map_nil]); first | done | rfl | (simp only [List.length_drop, List.length_take]; rfl)) ?_; (with_reducible refine (lex_Line.calls a0 t180 t181 _ A2.out ?tabs).mono ?_); (case tabs => (first | exact HT | (refine tabs_of HT ?_; repeat (first | (with_reducible first | exact Below.refl _ _ | exact (Aside0.out (by assumption)) | exact (Drawn0.below (by assumption)) | apply below_alloc | apply pw_below_drewN | apply below_drew1 | assumption) | exact HB.out)))); rintro e w5 ⟨v182, rfl, ho0, hb⟩; refine ⟨_, rfl, ?_⟩; have n0_ := Aside0.mk (Kd.R_lower ho0 (below_size (by repeat (first | (with_reducible first | exact HB.out | apply below_alloc | apply pw_below_drewN | apply below_drew1) | exact HB.out)))); have n1_ := Aside0.mk (below_step (by repeat (first | (with_reducible first | exact HB.out | apply below_alloc | apply pw_below_drewN | apply below_drew1) | exact HB.out)) hb); clear HB; have HO183 := n0_; have HB := n1_; clear n0_ n1_; (try clear hb); (try clear hb2); (try clear hk); (try clear hi); (try clear ho0); obtain ⟨Ao6, co6, eo6⟩ := Kd.R_slice HO183.out; subst eo6) | ((with_reducible refine gate_callee (f := 6) rfl ?_); refine goesL_ (some 18) rfl rfl Tryd.func6 (by kernel_rfl) rfl #[.slice Ao6 t180.length co6] rfl (by (try simp only [List.map_toArray, List.map_cons, List.map_nil]); first | done | rfl | (simp only [List.length_drop, List.length_take]; rfl)) ?_; (with_reducible refine (operand_Parse.calls _ _ t180 t184 t185 _ ?side1 ?side2 A4.out ?tabs).mono ?_); (case tabs => (first | exact HT | (refine tabs_of HT ?_; repeat (first | (with_reducible first | exact Below.refl _ _ | exact (Aside0.out (by assumption)) | exact (Drawn0.below (by assumption)) | apply below_alloc | apply pw_below_drewN | apply below_drew1 | assumption) | exact HB.out)))); (case side1 => repeat (first | exact (Kd.R_reads' HO183.out).2.2 | (with_reducible refine Kd.C_alloc ?_ _) | (with_reducible refine Kd.C_drewN ?_ _) | (with_reducible refine Kd.C_drew ?_))); (case side2 => exact (Kd.R_reads' HO183.out).2.1); rintro e w7 ⟨v186, rfl, ho0, hb⟩; refine ⟨_, rfl, ?_⟩; have n0_ := Aside0.mk (Kd.R_below (by (with_reducible repeat (first | apply Kd.R_alloc | apply Kd.R_drewN | apply Kd.R_drew)); exact HO183.out) hb); have n1_ := Aside0.mk (Kd.R_lower ho0 (below_size (by repeat (first | (with_reducible first | exact HB.out | apply below_alloc | apply pw_below_drewN | apply below_drew1) | exact HB.out)))); have n2_ := Aside0.mk (below_step (by repeat (first | (with_reducible first | exact HB.out | apply below_alloc | apply pw_below_drewN | apply below_drew1) | exact HB.out)) hb); clear HO183; clear HB; have HO183 := n0_; have HO187 := n1_; have HB := n2_; clear n0_ n1_ n2_; (try clear hb); (try clear hb2); (try clear hk); (try clear hi); (try clear ho0)))
  go_ret2
  exact ⟨_, by first | rfl | (simp [errW_none, errW_some] <;> rfl) | (simp [*, errW_none, errW_some] <;> rfl), by (with_reducible repeat (first | apply Kd.R_alloc | apply Kd.R_drewN | apply Kd.R_drew)); exact HO187.out, by repeat (first | (with_reducible first | exact HB.out | apply below_alloc | apply pw_below_drewN | apply below_drew1) | exact HB.out)⟩
 ·rw [if_neg c3] at H
  have c3b0 : (t181 == 0) = false := beq_eq_false_iff_ne.mpr c3
  have c3b1 : (t181 != 0) = true := bne_iff_ne.mpr c3
  simp only [Option.some.injEq, Prod.mk.injEq] at H
  obtain ⟨rfl, rfl⟩ := H
  go_enter Tryd.func19, Tryd.ntmps19
  go_wp2_with (first | ((with_reducible refine gate_callee (f := 34) rfl ?_); refine goesL_ (some 10) rfl rfl Tryd.func34 (by kernel_rfl) rfl #[.string a0] rfl (by (try simp only [List.map_toArray, List.map_cons, List.map_nil]); first | done | rfl | (simp only [List.length_drop, List.length_take]; rfl)) ?_; (with_reducible refine (lex_Line.calls a0 t180 t181 _ A2.out ?tabs).mono ?_); (case tabs => (first | exact HT | (refine tabs_of HT ?_; repeat (first | (with_reducible first | exact Below.refl _ _ | exact (Aside0.out (by assumption)) | exact (Drawn0.below (by assumption)) | apply below_alloc | apply pw_below_drewN | apply below_drew1 | assumption) | exact HB.out)))); rintro e w8 ⟨v182, rfl, ho0, hb⟩; refine ⟨_, rfl, ?_⟩; have n0_ := Aside0.mk (Kd.R_lower ho0 (below_size (by repeat (first | (with_reducible first | exact HB.out | apply below_alloc | apply pw_below_drewN | apply below_drew1) | exact HB.out)))); have n1_ := Aside0.mk (below_step (by repeat (first | (with_reducible first | exact HB.out | apply below_alloc | apply pw_below_drewN | apply below_drew1) | exact HB.out)) hb); clear HB; have HO183 := n0_; have HB := n1_; clear n0_ n1_; (try clear hb); (try clear hb2); (try clear hk); (try clear hi); (try clear ho0)))
  go_ret2
  exact ⟨_, by first | rfl | (simp [errW_none, errW_some] <;> rfl) | (simp [*, errW_none, errW_some] <;> rfl), by first | exact Kd.R_nil _ _ _ _ _ | exact Kd.N_nil _ _ _ _ _ | exact Kd.V_nil _ _ _ _ _ | exact Kd.Q_nil _ _ _ _ _ | exact Kd.S_nil _ _ _ _ _, by repeat (first | (with_reducible first | exact HB.out | apply below_alloc | apply pw_below_drewN | apply below_drew1) | exact HB.out)⟩

/-! ### cleatlaw11_given: function 7 -/
def cleatlaw11_given.f (k : Nat)  : Option (Bool) := (cleatlaw11_of.f (⟨#[120, 49, 44, 32, 91, 115, 112, 44, 32, 35, 56, 93, 44, 32, 108, 115, 108, 32, 51]⟩ : ByteArray)).bind fun bt188 => ((cleatlaw11_of.f (⟨#[61, 97, 43, 52, 44, 32, 45, 49, 44, 32, 49, 102]⟩ : ByteArray)).bind fun bt192 => ((cleatlaw11_of.f (⟨#[91, 120, 50, 44, 32, 58, 108, 111, 49, 50, 58, 98, 93, 44, 32, 120, 122, 114]⟩ : ByteArray)).bind fun bt196 => ((cleatlaw11_of.f (⟨#[120, 49, 32, 120, 50]⟩ : ByteArray)).bind fun bt200 => ((operand_Reg.f (⟨#[115, 112]⟩ : ByteArray)).bind fun bt204 => ((operand_Reg.f (⟨#[120, 48, 55]⟩ : ByteArray)).bind fun bt207 => ((operand_Label.f (⟨#[49, 50, 98]⟩ : ByteArray)).bind fun bt210 => (if bt188.2 = 0 then ((cleatref11_Same.f k bt188.1 (([(⟨1, 1, false, false, 0, (⟨#[]⟩ : ByteArray), 0⟩ : S44), (⟨4, 31, true, false, 8, (⟨#[]⟩ : ByteArray), 0⟩ : S44), (⟨7, 0, false, false, 3, (⟨#[]⟩ : ByteArray), 0⟩ : S44)] : List (S44)))).bind fun t216 => (if t216 = true then (if bt192.2 = bt188.2 then ((cleatref11_Same.f k bt192.1 (([(⟨5, 0, false, false, 0, (⟨#[97]⟩ : ByteArray), 4⟩ : S44), (⟨2, 0, false, true, 1, (⟨#[]⟩ : ByteArray), 0⟩ : S44), (⟨3, 0, false, false, 0, (⟨#[49, 102]⟩ : ByteArray), 0⟩ : S44)] : List (S44)))).bind fun t220 => (if t220 = true then (if bt196.2 = bt188.2 then ((cleatref11_Same.f k bt196.1 (([(⟨4, 2, false, false, 0, (⟨#[98]⟩ : ByteArray), 0⟩ : S44), (⟨1, 31, false, false, 0, (⟨#[]⟩ : ByteArray), 0⟩ : S44)] : List (S44)))).bind fun t224 => (if t224 = true then (if bt200.2 = 3 then (if bt204.2.2 = bt188.2 then (if bt204.1 = 31 then (if bt204.2.1 = true then (if bt207.2.2 = bt200.2 then (if bt210.1 = 12 then (if bt210.2.1 = true then (some false) else (some bt210.2.2)) else (some false)) else (some false)) else (some false)) else (some false)) else (some false)) else (some false)) else (some false))) else (some false)) else (some false))) else (some false)) else (some false))) else (some false))))))))
theorem cleatlaw11_given.mono : ∀ k, LeO (cleatlaw11_given.f k ) (cleatlaw11_given.f (k + 1) ) := by
 intro  k
 unfold cleatlaw11_given.f
 repeat' first
   | (with_reducible exact cleatref11_Same.mono _ _ _)
   | (with_reducible exact LeO.refl _)
   | (with_reducible exact LeO.none _)
   | (with_reducible refine LeO.ite ?_ ?_)
   | (with_reducible refine LeO.bind ?_ (fun _ => ?_))
   | exact cleatref11_Same.mono _ _ _
   | exact LeO.none _
   | refine LeO.ite ?_ ?_
   | refine LeO.bind ?_ (fun _ => ?_)
set_option maxRecDepth 100000 in
theorem cleatlaw11_given.true_ (k : Nat) (r : Bool) (h : cleatlaw11_given.f k = some r) : r = true := by
 have h10 : cleatlaw11_given.f 10 = some true := by kernel_rfl
 have up : ∀ n j r, cleatlaw11_given.f j = some r → cleatlaw11_given.f (j + n) = some r := by
  intro n
  induction n with
  | zero => intro j r hj; exact hj
  | succ n ih => intro j r hj; exact cleatlaw11_given.mono (j + n) _ (ih j r hj)
 rcases Nat.le_total k 10 with hk | hk
 ·have := up (10 - k) k r h
  rw [Nat.add_sub_cancel' hk, h10] at this
  exact (Option.some.inj this).symm
 ·have := up (k - 10) 10 true h10
  rw [Nat.add_sub_cancel' hk, h] at this
  exact Option.some.inj this
set_option maxHeartbeats 8000000 in
set_option maxRecDepth 100000 in
theorem cleatlaw11_given.calls (k : Nat)  (r : Bool) (w : World) (h : cleatlaw11_given.f k  = some r) (HT : Aside0 (Tabs w)) :
  Calls Tryd.prog 7 #[] w fun e w' => e = .returned (.bool r) ∧ Below w.heap.size w w' := by
 have HRT_ := Aside0.mk (cleatlaw11_given.true_ k r h)
 have hu44 := Tryd.underlying44
 have HB := Aside0.mk (Below.refl w.heap.size w)
 have H : ((cleatlaw11_of.f (⟨#[120, 49, 44, 32, 91, 115, 112, 44, 32, 35, 56, 93, 44, 32, 108, 115, 108, 32, 51]⟩ : ByteArray)).bind fun bt188 => ((cleatlaw11_of.f (⟨#[61, 97, 43, 52, 44, 32, 45, 49, 44, 32, 49, 102]⟩ : ByteArray)).bind fun bt192 => ((cleatlaw11_of.f (⟨#[91, 120, 50, 44, 32, 58, 108, 111, 49, 50, 58, 98, 93, 44, 32, 120, 122, 114]⟩ : ByteArray)).bind fun bt196 => ((cleatlaw11_of.f (⟨#[120, 49, 32, 120, 50]⟩ : ByteArray)).bind fun bt200 => ((operand_Reg.f (⟨#[115, 112]⟩ : ByteArray)).bind fun bt204 => ((operand_Reg.f (⟨#[120, 48, 55]⟩ : ByteArray)).bind fun bt207 => ((operand_Label.f (⟨#[49, 50, 98]⟩ : ByteArray)).bind fun bt210 => (if bt188.2 = 0 then ((cleatref11_Same.f k bt188.1 (([(⟨1, 1, false, false, 0, (⟨#[]⟩ : ByteArray), 0⟩ : S44), (⟨4, 31, true, false, 8, (⟨#[]⟩ : ByteArray), 0⟩ : S44), (⟨7, 0, false, false, 3, (⟨#[]⟩ : ByteArray), 0⟩ : S44)] : List (S44)))).bind fun t216 => (if t216 = true then (if bt192.2 = bt188.2 then ((cleatref11_Same.f k bt192.1 (([(⟨5, 0, false, false, 0, (⟨#[97]⟩ : ByteArray), 4⟩ : S44), (⟨2, 0, false, true, 1, (⟨#[]⟩ : ByteArray), 0⟩ : S44), (⟨3, 0, false, false, 0, (⟨#[49, 102]⟩ : ByteArray), 0⟩ : S44)] : List (S44)))).bind fun t220 => (if t220 = true then (if bt196.2 = bt188.2 then ((cleatref11_Same.f k bt196.1 (([(⟨4, 2, false, false, 0, (⟨#[98]⟩ : ByteArray), 0⟩ : S44), (⟨1, 31, false, false, 0, (⟨#[]⟩ : ByteArray), 0⟩ : S44)] : List (S44)))).bind fun t224 => (if t224 = true then (if bt200.2 = 3 then (if bt204.2.2 = bt188.2 then (if bt204.1 = 31 then (if bt204.2.1 = true then (if bt207.2.2 = bt200.2 then (if bt210.1 = 12 then (if bt210.2.1 = true then (some false) else (some bt210.2.2)) else (some false)) else (some false)) else (some false)) else (some false)) else (some false)) else (some false)) else (some false))) else (some false)) else (some false))) else (some false)) else (some false))) else (some false))))))))) = some r := h
 clear h
 replace H := Option.bind_eq_some_iff.mp H
 obtain ⟨⟨t188, t189⟩, A10, H⟩ := H
 replace H : ((cleatlaw11_of.f (⟨#[61, 97, 43, 52, 44, 32, 45, 49, 44, 32, 49, 102]⟩ : ByteArray)).bind fun bt192 => ((cleatlaw11_of.f (⟨#[91, 120, 50, 44, 32, 58, 108, 111, 49, 50, 58, 98, 93, 44, 32, 120, 122, 114]⟩ : ByteArray)).bind fun bt196 => ((cleatlaw11_of.f (⟨#[120, 49, 32, 120, 50]⟩ : ByteArray)).bind fun bt200 => ((operand_Reg.f (⟨#[115, 112]⟩ : ByteArray)).bind fun bt204 => ((operand_Reg.f (⟨#[120, 48, 55]⟩ : ByteArray)).bind fun bt207 => ((operand_Label.f (⟨#[49, 50, 98]⟩ : ByteArray)).bind fun bt210 => (if t189 = 0 then ((cleatref11_Same.f k t188 (([(⟨1, 1, false, false, 0, (⟨#[]⟩ : ByteArray), 0⟩ : S44), (⟨4, 31, true, false, 8, (⟨#[]⟩ : ByteArray), 0⟩ : S44), (⟨7, 0, false, false, 3, (⟨#[]⟩ : ByteArray), 0⟩ : S44)] : List (S44)))).bind fun t216 => (if t216 = true then (if bt192.2 = t189 then ((cleatref11_Same.f k bt192.1 (([(⟨5, 0, false, false, 0, (⟨#[97]⟩ : ByteArray), 4⟩ : S44), (⟨2, 0, false, true, 1, (⟨#[]⟩ : ByteArray), 0⟩ : S44), (⟨3, 0, false, false, 0, (⟨#[49, 102]⟩ : ByteArray), 0⟩ : S44)] : List (S44)))).bind fun t220 => (if t220 = true then (if bt196.2 = t189 then ((cleatref11_Same.f k bt196.1 (([(⟨4, 2, false, false, 0, (⟨#[98]⟩ : ByteArray), 0⟩ : S44), (⟨1, 31, false, false, 0, (⟨#[]⟩ : ByteArray), 0⟩ : S44)] : List (S44)))).bind fun t224 => (if t224 = true then (if bt200.2 = 3 then (if bt204.2.2 = t189 then (if bt204.1 = 31 then (if bt204.2.1 = true then (if bt207.2.2 = bt200.2 then (if bt210.1 = 12 then (if bt210.2.1 = true then (some false) else (some bt210.2.2)) else (some false)) else (some false)) else (some false)) else (some false)) else (some false)) else (some false)) else (some false))) else (some false)) else (some false))) else (some false)) else (some false))) else (some false)))))))) = some r := H
 have A1 := Aside0.mk A10
 clear A10
 replace H := Option.bind_eq_some_iff.mp H
 obtain ⟨⟨t192, t193⟩, A20, H⟩ := H
 replace H : ((cleatlaw11_of.f (⟨#[91, 120, 50, 44, 32, 58, 108, 111, 49, 50, 58, 98, 93, 44, 32, 120, 122, 114]⟩ : ByteArray)).bind fun bt196 => ((cleatlaw11_of.f (⟨#[120, 49, 32, 120, 50]⟩ : ByteArray)).bind fun bt200 => ((operand_Reg.f (⟨#[115, 112]⟩ : ByteArray)).bind fun bt204 => ((operand_Reg.f (⟨#[120, 48, 55]⟩ : ByteArray)).bind fun bt207 => ((operand_Label.f (⟨#[49, 50, 98]⟩ : ByteArray)).bind fun bt210 => (if t189 = 0 then ((cleatref11_Same.f k t188 (([(⟨1, 1, false, false, 0, (⟨#[]⟩ : ByteArray), 0⟩ : S44), (⟨4, 31, true, false, 8, (⟨#[]⟩ : ByteArray), 0⟩ : S44), (⟨7, 0, false, false, 3, (⟨#[]⟩ : ByteArray), 0⟩ : S44)] : List (S44)))).bind fun t216 => (if t216 = true then (if t193 = t189 then ((cleatref11_Same.f k t192 (([(⟨5, 0, false, false, 0, (⟨#[97]⟩ : ByteArray), 4⟩ : S44), (⟨2, 0, false, true, 1, (⟨#[]⟩ : ByteArray), 0⟩ : S44), (⟨3, 0, false, false, 0, (⟨#[49, 102]⟩ : ByteArray), 0⟩ : S44)] : List (S44)))).bind fun t220 => (if t220 = true then (if bt196.2 = t189 then ((cleatref11_Same.f k bt196.1 (([(⟨4, 2, false, false, 0, (⟨#[98]⟩ : ByteArray), 0⟩ : S44), (⟨1, 31, false, false, 0, (⟨#[]⟩ : ByteArray), 0⟩ : S44)] : List (S44)))).bind fun t224 => (if t224 = true then (if bt200.2 = 3 then (if bt204.2.2 = t189 then (if bt204.1 = 31 then (if bt204.2.1 = true then (if bt207.2.2 = bt200.2 then (if bt210.1 = 12 then (if bt210.2.1 = true then (some false) else (some bt210.2.2)) else (some false)) else (some false)) else (some false)) else (some false)) else (some false)) else (some false)) else (some false))) else (some false)) else (some false))) else (some false)) else (some false))) else (some false))))))) = some r := H
 have A2 := Aside0.mk A20
 clear A20
 replace H := Option.bind_eq_some_iff.mp H
 obtain ⟨⟨t196, t197⟩, A30, H⟩ := H
 replace H : ((cleatlaw11_of.f (⟨#[120, 49, 32, 120, 50]⟩ : ByteArray)).bind fun bt200 => ((operand_Reg.f (⟨#[115, 112]⟩ : ByteArray)).bind fun bt204 => ((operand_Reg.f (⟨#[120, 48, 55]⟩ : ByteArray)).bind fun bt207 => ((operand_Label.f (⟨#[49, 50, 98]⟩ : ByteArray)).bind fun bt210 => (if t189 = 0 then ((cleatref11_Same.f k t188 (([(⟨1, 1, false, false, 0, (⟨#[]⟩ : ByteArray), 0⟩ : S44), (⟨4, 31, true, false, 8, (⟨#[]⟩ : ByteArray), 0⟩ : S44), (⟨7, 0, false, false, 3, (⟨#[]⟩ : ByteArray), 0⟩ : S44)] : List (S44)))).bind fun t216 => (if t216 = true then (if t193 = t189 then ((cleatref11_Same.f k t192 (([(⟨5, 0, false, false, 0, (⟨#[97]⟩ : ByteArray), 4⟩ : S44), (⟨2, 0, false, true, 1, (⟨#[]⟩ : ByteArray), 0⟩ : S44), (⟨3, 0, false, false, 0, (⟨#[49, 102]⟩ : ByteArray), 0⟩ : S44)] : List (S44)))).bind fun t220 => (if t220 = true then (if t197 = t189 then ((cleatref11_Same.f k t196 (([(⟨4, 2, false, false, 0, (⟨#[98]⟩ : ByteArray), 0⟩ : S44), (⟨1, 31, false, false, 0, (⟨#[]⟩ : ByteArray), 0⟩ : S44)] : List (S44)))).bind fun t224 => (if t224 = true then (if bt200.2 = 3 then (if bt204.2.2 = t189 then (if bt204.1 = 31 then (if bt204.2.1 = true then (if bt207.2.2 = bt200.2 then (if bt210.1 = 12 then (if bt210.2.1 = true then (some false) else (some bt210.2.2)) else (some false)) else (some false)) else (some false)) else (some false)) else (some false)) else (some false)) else (some false))) else (some false)) else (some false))) else (some false)) else (some false))) else (some false)))))) = some r := H
 have A3 := Aside0.mk A30
 clear A30
 replace H := Option.bind_eq_some_iff.mp H
 obtain ⟨⟨t200, t201⟩, A40, H⟩ := H
 replace H : ((operand_Reg.f (⟨#[115, 112]⟩ : ByteArray)).bind fun bt204 => ((operand_Reg.f (⟨#[120, 48, 55]⟩ : ByteArray)).bind fun bt207 => ((operand_Label.f (⟨#[49, 50, 98]⟩ : ByteArray)).bind fun bt210 => (if t189 = 0 then ((cleatref11_Same.f k t188 (([(⟨1, 1, false, false, 0, (⟨#[]⟩ : ByteArray), 0⟩ : S44), (⟨4, 31, true, false, 8, (⟨#[]⟩ : ByteArray), 0⟩ : S44), (⟨7, 0, false, false, 3, (⟨#[]⟩ : ByteArray), 0⟩ : S44)] : List (S44)))).bind fun t216 => (if t216 = true then (if t193 = t189 then ((cleatref11_Same.f k t192 (([(⟨5, 0, false, false, 0, (⟨#[97]⟩ : ByteArray), 4⟩ : S44), (⟨2, 0, false, true, 1, (⟨#[]⟩ : ByteArray), 0⟩ : S44), (⟨3, 0, false, false, 0, (⟨#[49, 102]⟩ : ByteArray), 0⟩ : S44)] : List (S44)))).bind fun t220 => (if t220 = true then (if t197 = t189 then ((cleatref11_Same.f k t196 (([(⟨4, 2, false, false, 0, (⟨#[98]⟩ : ByteArray), 0⟩ : S44), (⟨1, 31, false, false, 0, (⟨#[]⟩ : ByteArray), 0⟩ : S44)] : List (S44)))).bind fun t224 => (if t224 = true then (if t201 = 3 then (if bt204.2.2 = t189 then (if bt204.1 = 31 then (if bt204.2.1 = true then (if bt207.2.2 = t201 then (if bt210.1 = 12 then (if bt210.2.1 = true then (some false) else (some bt210.2.2)) else (some false)) else (some false)) else (some false)) else (some false)) else (some false)) else (some false)) else (some false))) else (some false)) else (some false))) else (some false)) else (some false))) else (some false))))) = some r := H
 have A4 := Aside0.mk A40
 clear A40
 replace H := Option.bind_eq_some_iff.mp H
 obtain ⟨⟨t204, t205, t206⟩, A50, H⟩ := H
 replace H : ((operand_Reg.f (⟨#[120, 48, 55]⟩ : ByteArray)).bind fun bt207 => ((operand_Label.f (⟨#[49, 50, 98]⟩ : ByteArray)).bind fun bt210 => (if t189 = 0 then ((cleatref11_Same.f k t188 (([(⟨1, 1, false, false, 0, (⟨#[]⟩ : ByteArray), 0⟩ : S44), (⟨4, 31, true, false, 8, (⟨#[]⟩ : ByteArray), 0⟩ : S44), (⟨7, 0, false, false, 3, (⟨#[]⟩ : ByteArray), 0⟩ : S44)] : List (S44)))).bind fun t216 => (if t216 = true then (if t193 = t189 then ((cleatref11_Same.f k t192 (([(⟨5, 0, false, false, 0, (⟨#[97]⟩ : ByteArray), 4⟩ : S44), (⟨2, 0, false, true, 1, (⟨#[]⟩ : ByteArray), 0⟩ : S44), (⟨3, 0, false, false, 0, (⟨#[49, 102]⟩ : ByteArray), 0⟩ : S44)] : List (S44)))).bind fun t220 => (if t220 = true then (if t197 = t189 then ((cleatref11_Same.f k t196 (([(⟨4, 2, false, false, 0, (⟨#[98]⟩ : ByteArray), 0⟩ : S44), (⟨1, 31, false, false, 0, (⟨#[]⟩ : ByteArray), 0⟩ : S44)] : List (S44)))).bind fun t224 => (if t224 = true then (if t201 = 3 then (if t206 = t189 then (if t204 = 31 then (if t205 = true then (if bt207.2.2 = t201 then (if bt210.1 = 12 then (if bt210.2.1 = true then (some false) else (some bt210.2.2)) else (some false)) else (some false)) else (some false)) else (some false)) else (some false)) else (some false)) else (some false))) else (some false)) else (some false))) else (some false)) else (some false))) else (some false)))) = some r := H
 have A5 := Aside0.mk A50
 clear A50
 replace H := Option.bind_eq_some_iff.mp H
 obtain ⟨⟨t207, t208, t209⟩, A60, H⟩ := H
 replace H : ((operand_Label.f (⟨#[49, 50, 98]⟩ : ByteArray)).bind fun bt210 => (if t189 = 0 then ((cleatref11_Same.f k t188 (([(⟨1, 1, false, false, 0, (⟨#[]⟩ : ByteArray), 0⟩ : S44), (⟨4, 31, true, false, 8, (⟨#[]⟩ : ByteArray), 0⟩ : S44), (⟨7, 0, false, false, 3, (⟨#[]⟩ : ByteArray), 0⟩ : S44)] : List (S44)))).bind fun t216 => (if t216 = true then (if t193 = t189 then ((cleatref11_Same.f k t192 (([(⟨5, 0, false, false, 0, (⟨#[97]⟩ : ByteArray), 4⟩ : S44), (⟨2, 0, false, true, 1, (⟨#[]⟩ : ByteArray), 0⟩ : S44), (⟨3, 0, false, false, 0, (⟨#[49, 102]⟩ : ByteArray), 0⟩ : S44)] : List (S44)))).bind fun t220 => (if t220 = true then (if t197 = t189 then ((cleatref11_Same.f k t196 (([(⟨4, 2, false, false, 0, (⟨#[98]⟩ : ByteArray), 0⟩ : S44), (⟨1, 31, false, false, 0, (⟨#[]⟩ : ByteArray), 0⟩ : S44)] : List (S44)))).bind fun t224 => (if t224 = true then (if t201 = 3 then (if t206 = t189 then (if t204 = 31 then (if t205 = true then (if t209 = t201 then (if bt210.1 = 12 then (if bt210.2.1 = true then (some false) else (some bt210.2.2)) else (some false)) else (some false)) else (some false)) else (some false)) else (some false)) else (some false)) else (some false))) else (some false)) else (some false))) else (some false)) else (some false))) else (some false))) = some r := H
 have A6 := Aside0.mk A60
 clear A60
 replace H := Option.bind_eq_some_iff.mp H
 obtain ⟨⟨t210, t211, t212⟩, A70, H⟩ := H
 replace H : (if t189 = 0 then ((cleatref11_Same.f k t188 (([(⟨1, 1, false, false, 0, (⟨#[]⟩ : ByteArray), 0⟩ : S44), (⟨4, 31, true, false, 8, (⟨#[]⟩ : ByteArray), 0⟩ : S44), (⟨7, 0, false, false, 3, (⟨#[]⟩ : ByteArray), 0⟩ : S44)] : List (S44)))).bind fun t216 => (if t216 = true then (if t193 = t189 then ((cleatref11_Same.f k t192 (([(⟨5, 0, false, false, 0, (⟨#[97]⟩ : ByteArray), 4⟩ : S44), (⟨2, 0, false, true, 1, (⟨#[]⟩ : ByteArray), 0⟩ : S44), (⟨3, 0, false, false, 0, (⟨#[49, 102]⟩ : ByteArray), 0⟩ : S44)] : List (S44)))).bind fun t220 => (if t220 = true then (if t197 = t189 then ((cleatref11_Same.f k t196 (([(⟨4, 2, false, false, 0, (⟨#[98]⟩ : ByteArray), 0⟩ : S44), (⟨1, 31, false, false, 0, (⟨#[]⟩ : ByteArray), 0⟩ : S44)] : List (S44)))).bind fun t224 => (if t224 = true then (if t201 = 3 then (if t206 = t189 then (if t204 = 31 then (if t205 = true then (if t209 = t201 then (if t210 = 12 then (if t211 = true then (some false) else (some t212)) else (some false)) else (some false)) else (some false)) else (some false)) else (some false)) else (some false)) else (some false))) else (some false)) else (some false))) else (some false)) else (some false))) else (some false)) = some r := H
 have A7 := Aside0.mk A70
 clear A70
 by_cases c8 : t189 = 0
 ·rw [if_pos c8] at H
  have c8b0 : (t189 == 0) = true := beq_iff_eq.mpr c8
  have c8b1 : (t189 != 0) = false := bne_eq_false_iff_eq.mpr c8
  clear c8
  obtain ⟨y213, hy213⟩ : ∃ y_ : List (S44), y_ = (([(⟨1, 1, false, false, 0, (⟨#[]⟩ : ByteArray), 0⟩ : S44), (⟨4, 31, true, false, 8, (⟨#[]⟩ : ByteArray), 0⟩ : S44), (⟨7, 0, false, false, 3, (⟨#[]⟩ : ByteArray), 0⟩ : S44)] : List (S44))) := ⟨_, rfl⟩
  replace H : ((cleatref11_Same.f k t188 y213).bind fun t216 => (if t216 = true then (if t193 = t189 then ((cleatref11_Same.f k t192 (([(⟨5, 0, false, false, 0, (⟨#[97]⟩ : ByteArray), 4⟩ : S44), (⟨2, 0, false, true, 1, (⟨#[]⟩ : ByteArray), 0⟩ : S44), (⟨3, 0, false, false, 0, (⟨#[49, 102]⟩ : ByteArray), 0⟩ : S44)] : List (S44)))).bind fun t220 => (if t220 = true then (if t197 = t189 then ((cleatref11_Same.f k t196 (([(⟨4, 2, false, false, 0, (⟨#[98]⟩ : ByteArray), 0⟩ : S44), (⟨1, 31, false, false, 0, (⟨#[]⟩ : ByteArray), 0⟩ : S44)] : List (S44)))).bind fun t224 => (if t224 = true then (if t201 = 3 then (if t206 = t189 then (if t204 = 31 then (if t205 = true then (if t209 = t201 then (if t210 = 12 then (if t211 = true then (some false) else (some t212)) else (some false)) else (some false)) else (some false)) else (some false)) else (some false)) else (some false)) else (some false))) else (some false)) else (some false))) else (some false)) else (some false))) = some r := by first | (rw [hy213]; with_reducible exact H) | (have H2_ := (Option.bind_some _ _).symm.trans H; rw [hy213]; with_reducible exact H2_) | (have H2_ := (Option.bind_some _ _).symm.trans H; with_reducible exact H2_) | with_reducible exact H | (rw [hy213]; exact H) | exact H
  have Ny213 := Aside0.mk hy213
  clear hy213
  replace H := Option.bind_eq_some_iff.mp H
  obtain ⟨t216, A90, H⟩ := H
  replace H : (if t216 = true then (if t193 = t189 then ((cleatref11_Same.f k t192 (([(⟨5, 0, false, false, 0, (⟨#[97]⟩ : ByteArray), 4⟩ : S44), (⟨2, 0, false, true, 1, (⟨#[]⟩ : ByteArray), 0⟩ : S44), (⟨3, 0, false, false, 0, (⟨#[49, 102]⟩ : ByteArray), 0⟩ : S44)] : List (S44)))).bind fun t220 => (if t220 = true then (if t197 = t189 then ((cleatref11_Same.f k t196 (([(⟨4, 2, false, false, 0, (⟨#[98]⟩ : ByteArray), 0⟩ : S44), (⟨1, 31, false, false, 0, (⟨#[]⟩ : ByteArray), 0⟩ : S44)] : List (S44)))).bind fun t224 => (if t224 = true then (if t201 = 3 then (if t206 = t189 then (if t204 = 31 then (if t205 = true then (if t209 = t201 then (if t210 = 12 then (if t211 = true then (some false) else (some t212)) else (some false)) else (some false)) else (some false)) else (some false)) else (some false)) else (some false)) else (some false))) else (some false)) else (some false))) else (some false)) else (some false)) = some r := H
  have A9 := Aside0.mk A90
  clear A90
  by_cases c10 : t216 = true
  ·subst c10
   rw [if_pos rfl] at H
   by_cases c11 : t193 = t189
   ·rw [if_pos c11] at H
    have c11b0 : (t193 == t189) = true := beq_iff_eq.mpr c11
    have c11b1 : (t193 != t189) = false := bne_eq_false_iff_eq.mpr c11
    clear c11
    obtain ⟨y217, hy217⟩ : ∃ y_ : List (S44), y_ = (([(⟨5, 0, false, false, 0, (⟨#[97]⟩ : ByteArray), 4⟩ : S44), (⟨2, 0, false, true, 1, (⟨#[]⟩ : ByteArray), 0⟩ : S44), (⟨3, 0, false, false, 0, (⟨#[49, 102]⟩ : ByteArray), 0⟩ : S44)] : List (S44))) := ⟨_, rfl⟩
    replace H : ((cleatref11_Same.f k t192 y217).bind fun t220 => (if t220 = true then (if t197 = t189 then ((cleatref11_Same.f k t196 (([(⟨4, 2, false, false, 0, (⟨#[98]⟩ : ByteArray), 0⟩ : S44), (⟨1, 31, false, false, 0, (⟨#[]⟩ : ByteArray), 0⟩ : S44)] : List (S44)))).bind fun t224 => (if t224 = true then (if t201 = 3 then (if t206 = t189 then (if t204 = 31 then (if t205 = true then (if t209 = t201 then (if t210 = 12 then (if t211 = true then (some false) else (some t212)) else (some false)) else (some false)) else (some false)) else (some false)) else (some false)) else (some false)) else (some false))) else (some false)) else (some false))) = some r := by first | (rw [hy217]; with_reducible exact H) | (have H2_ := (Option.bind_some _ _).symm.trans H; rw [hy217]; with_reducible exact H2_) | (have H2_ := (Option.bind_some _ _).symm.trans H; with_reducible exact H2_) | with_reducible exact H | (rw [hy217]; exact H) | exact H
    have Ny217 := Aside0.mk hy217
    clear hy217
    replace H := Option.bind_eq_some_iff.mp H
    obtain ⟨t220, A120, H⟩ := H
    replace H : (if t220 = true then (if t197 = t189 then ((cleatref11_Same.f k t196 (([(⟨4, 2, false, false, 0, (⟨#[98]⟩ : ByteArray), 0⟩ : S44), (⟨1, 31, false, false, 0, (⟨#[]⟩ : ByteArray), 0⟩ : S44)] : List (S44)))).bind fun t224 => (if t224 = true then (if t201 = 3 then (if t206 = t189 then (if t204 = 31 then (if t205 = true then (if t209 = t201 then (if t210 = 12 then (if t211 = true then (some false) else (some t212)) else (some false)) else (some false)) else (some false)) else (some false)) else (some false)) else (some false)) else (some false))) else (some false)) else (some false)) = some r := H
    have A12 := Aside0.mk A120
    clear A120
    by_cases c13 : t220 = true
    ·subst c13
     rw [if_pos rfl] at H
     by_cases c14 : t197 = t189
     ·rw [if_pos c14] at H
      have c14b0 : (t197 == t189) = true := beq_iff_eq.mpr c14
      have c14b1 : (t197 != t189) = false := bne_eq_false_iff_eq.mpr c14
      clear c14
      obtain ⟨y221, hy221⟩ : ∃ y_ : List (S44), y_ = (([(⟨4, 2, false, false, 0, (⟨#[98]⟩ : ByteArray), 0⟩ : S44), (⟨1, 31, false, false, 0, (⟨#[]⟩ : ByteArray), 0⟩ : S44)] : List (S44))) := ⟨_, rfl⟩
      replace H : ((cleatref11_Same.f k t196 y221).bind fun t224 => (if t224 = true then (if t201 = 3 then (if t206 = t189 then (if t204 = 31 then (if t205 = true then (if t209 = t201 then (if t210 = 12 then (if t211 = true then (some false) else (some t212)) else (some false)) else (some false)) else (some false)) else (some false)) else (some false)) else (some false)) else (some false))) = some r := by first | (rw [hy221]; with_reducible exact H) | (have H2_ := (Option.bind_some _ _).symm.trans H; rw [hy221]; with_reducible exact H2_) | (have H2_ := (Option.bind_some _ _).symm.trans H; with_reducible exact H2_) | with_reducible exact H | (rw [hy221]; exact H) | exact H
      have Ny221 := Aside0.mk hy221
      clear hy221
      replace H := Option.bind_eq_some_iff.mp H
      obtain ⟨t224, A150, H⟩ := H
      replace H : (if t224 = true then (if t201 = 3 then (if t206 = t189 then (if t204 = 31 then (if t205 = true then (if t209 = t201 then (if t210 = 12 then (if t211 = true then (some false) else (some t212)) else (some false)) else (some false)) else (some false)) else (some false)) else (some false)) else (some false)) else (some false)) = some r := H
      have A15 := Aside0.mk A150
      clear A150
      by_cases c16 : t224 = true
      ·subst c16
       rw [if_pos rfl] at H
       by_cases c17 : t201 = 3
       ·rw [if_pos c17] at H
        have c17b0 : (t201 == 3) = true := beq_iff_eq.mpr c17
        have c17b1 : (t201 != 3) = false := bne_eq_false_iff_eq.mpr c17
        clear c17
        by_cases c18 : t206 = t189
        ·rw [if_pos c18] at H
         have c18b0 : (t206 == t189) = true := beq_iff_eq.mpr c18
         have c18b1 : (t206 != t189) = false := bne_eq_false_iff_eq.mpr c18
         clear c18
         by_cases c19 : t204 = 31
         ·rw [if_pos c19] at H
          have c19b0 : (t204 == 31) = true := beq_iff_eq.mpr c19
          have c19b1 : (t204 != 31) = false := bne_eq_false_iff_eq.mpr c19
          clear c19
          by_cases c20 : t205 = true
          ·subst c20
           rw [if_pos rfl] at H
           by_cases c21 : t209 = t201
           ·rw [if_pos c21] at H
            have c21b0 : (t209 == t201) = true := beq_iff_eq.mpr c21
            have c21b1 : (t209 != t201) = false := bne_eq_false_iff_eq.mpr c21
            clear c21
            by_cases c22 : t210 = 12
            ·rw [if_pos c22] at H
             have c22b0 : (t210 == 12) = true := beq_iff_eq.mpr c22
             have c22b1 : (t210 != 12) = false := bne_eq_false_iff_eq.mpr c22
             clear c22
             by_cases c23 : t211 = true
             ·subst c23
              rw [if_pos rfl] at H
              obtain rfl := Option.some.inj H; exact absurd HRT_.out (by decide)   -- arm 0
             ·replace c23 := Bool.eq_false_iff.mpr c23
              subst c23
              rw [if_neg (show ¬ (false = true) by decide)] at H
              obtain rfl := Option.some.inj H
              go_enter Tryd.func7, Tryd.ntmps7; simp only [List.append_eq, List.cons_append, List.nil_append]
              go_wp2_with (first | ((with_reducible refine gate_callee (f := 19) rfl ?_); refine goesL_ (some 19) rfl rfl Tryd.func19 (by kernel_rfl) rfl #[.string (⟨#[120, 49, 44, 32, 91, 115, 112, 44, 32, 35, 56, 93, 44, 32, 108, 115, 108, 32, 51]⟩ : ByteArray)] rfl (by (try simp only [List.map_toArray, List.map_cons, List.map_nil]); first | done | rfl | (simp only [List.length_drop, List.length_take]; rfl)) ?_; (with_reducible refine (cleatlaw11_of.calls (⟨#[120, 49, 44, 32, 91, 115, 112, 44, 32, 35, 56, 93, 44, 32, 108, 115, 108, 32, 51]⟩ : ByteArray) t188 t189 _ A1.out ?tabs).mono ?_); (case tabs => (first | exact HT | (refine tabs_of HT ?_; repeat (first | (with_reducible first | exact Below.refl _ _ | exact (Aside0.out (by assumption)) | exact (Drawn0.below (by assumption)) | apply below_alloc | apply pw_below_drewN | apply below_drew1 | assumption) | exact HB.out)))); rintro e w43 ⟨v190, rfl, ho0, hb⟩; refine ⟨_, rfl, ?_⟩; have n0_ := Aside0.mk (Kd.R_lower ho0 (below_size (by repeat (first | (with_reducible first | exact HB.out | apply below_alloc | apply pw_below_drewN | apply below_drew1) | exact HB.out)))); have n1_ := Aside0.mk (below_step (by repeat (first | (with_reducible first | exact HB.out | apply below_alloc | apply pw_below_drewN | apply below_drew1) | exact HB.out)) hb); clear HB; have HO191 := n0_; have HB := n1_; clear n0_ n1_; (try clear hb); (try clear hb2); (try clear hk); (try clear hi); (try clear ho0)) | ((with_reducible refine gate_callee (f := 19) rfl ?_); refine goesL_ (some 23) rfl rfl Tryd.func19 (by kernel_rfl) rfl #[.string (⟨#[61, 97, 43, 52, 44, 32, 45, 49, 44, 32, 49, 102]⟩ : ByteArray)] rfl (by (try simp only [List.map_toArray, List.map_cons, List.map_nil]); first | done | rfl | (simp only [List.length_drop, List.length_take]; rfl)) ?_; (with_reducible refine (cleatlaw11_of.calls (⟨#[61, 97, 43, 52, 44, 32, 45, 49, 44, 32, 49, 102]⟩ : ByteArray) t192 t193 _ A2.out ?tabs).mono ?_); (case tabs => (first | exact HT | (refine tabs_of HT ?_; repeat (first | (with_reducible first | exact Below.refl _ _ | exact (Aside0.out (by assumption)) | exact (Drawn0.below (by assumption)) | apply below_alloc | apply pw_below_drewN | apply below_drew1 | assumption) | exact HB.out)))); rintro e w44 ⟨v194, rfl, ho0, hb⟩; refine ⟨_, rfl, ?_⟩; have n0_ := Aside0.mk (Kd.R_elder' (by (with_reducible repeat (first | apply Kd.R_alloc | apply Kd.R_drewN | apply Kd.R_drew)); exact HO191.out) (Kd.R_base ho0) hb); have n1_ := Aside0.mk (Kd.R_lower (Kd.R_new' ho0 (Kd.R_lt (by (with_reducible repeat (first | apply Kd.R_alloc | apply Kd.R_drewN | apply Kd.R_drew)); exact HO191.out))) (below_size (by repeat (first | (with_reducible first | exact HB.out | apply below_alloc | apply pw_below_drewN | apply below_drew1) | exact HB.out)))); have n2_ := Aside0.mk (below_step (by repeat (first | (with_reducible first | exact HB.out | apply below_alloc | apply pw_below_drewN | apply below_drew1) | exact HB.out)) hb); clear HO191; clear HB; have HO191 := n0_; have HO195 := n1_; have HB := n2_; clear n0_ n1_ n2_; (try clear hb); (try clear hb2); (try clear hk); (try clear hi); (try clear ho0)) | ((with_reducible refine gate_callee (f := 19) rfl ?_); refine goesL_ (some 27) rfl rfl Tryd.func19 (by kernel_rfl) rfl #[.string (⟨#[91, 120, 50, 44, 32, 58, 108, 111, 49, 50, 58, 98, 93, 44, 32, 120, 122, 114]⟩ : ByteArray)] rfl (by (try simp only [List.map_toArray, List.map_cons, List.map_nil]); first | done | rfl | (simp only [List.length_drop, List.length_take]; rfl)) ?_; (with_reducible refine (cleatlaw11_of.calls (⟨#[91, 120, 50, 44, 32, 58, 108, 111, 49, 50, 58, 98, 93, 44, 32, 120, 122, 114]⟩ : ByteArray) t196 t197 _ A3.out ?tabs).mono ?_); (case tabs => (first | exact HT | (refine tabs_of HT ?_; repeat (first | (with_reducible first | exact Below.refl _ _ | exact (Aside0.out (by assumption)) | exact (Drawn0.below (by assumption)) | apply below_alloc | apply pw_below_drewN | apply below_drew1 | assumption) | exact HB.out)))); rintro e w45 ⟨v198, rfl, ho0, hb⟩; refine ⟨_, rfl, ?_⟩; have n0_ := Aside0.mk (Kd.R_elder' (by (with_reducible repeat (first | apply Kd.R_alloc | apply Kd.R_drewN | apply Kd.R_drew)); exact HO191.out) (Kd.R_base ho0) hb); have n1_ := Aside0.mk (Kd.R_elder' (by (with_reducible repeat (first | apply Kd.R_alloc | apply Kd.R_drewN | apply Kd.R_drew)); exact HO195.out) (Kd.R_base ho0) hb); have n2_ := Aside0.mk (Kd.R_lower (Kd.R_new' (Kd.R_new' ho0 (Kd.R_lt (by (with_reducible repeat (first | apply Kd.R_alloc | apply Kd.R_drewN | apply Kd.R_drew)); exact HO191.out))) (Kd.R_lt (by (with_reducible repeat (first | apply Kd.R_alloc | apply Kd.R_drewN | apply Kd.R_drew)); exact HO195.out))) (below_size (by repeat (first | (with_reducible first | exact HB.out | apply below_alloc | apply pw_below_drewN | apply below_drew1) | exact HB.out)))); have n3_ := Aside0.mk (below_step (by repeat (first | (with_reducible first | exact HB.out | apply below_alloc | apply pw_below_drewN | apply below_drew1) | exact HB.out)) hb); clear HO191; clear HO195; clear HB; have HO191 := n0_; have HO195 := n1_; have HO199 := n2_; have HB := n3_; clear n0_ n1_ n2_ n3_; (try clear hb); (try clear hb2); (try clear hk); (try clear hi); (try clear ho0)) | ((with_reducible refine gate_callee (f := 19) rfl ?_); refine goesL_ (some 31) rfl rfl Tryd.func19 (by kernel_rfl) rfl #[.string (⟨#[120, 49, 32, 120, 50]⟩ : ByteArray)] rfl (by (try simp only [List.map_toArray, List.map_cons, List.map_nil]); first | done | rfl | (simp only [List.length_drop, List.length_take]; rfl)) ?_; (with_reducible refine (cleatlaw11_of.calls (⟨#[120, 49, 32, 120, 50]⟩ : ByteArray) t200 t201 _ A4.out ?tabs).mono ?_); (case tabs => (first | exact HT | (refine tabs_of HT ?_; repeat (first | (with_reducible first | exact Below.refl _ _ | exact (Aside0.out (by assumption)) | exact (Drawn0.below (by assumption)) | apply below_alloc | apply pw_below_drewN | apply below_drew1 | assumption) | exact HB.out)))); rintro e w46 ⟨v202, rfl, ho0, hb⟩; refine ⟨_, rfl, ?_⟩; have n0_ := Aside0.mk (Kd.R_elder' (by (with_reducible repeat (first | apply Kd.R_alloc | apply Kd.R_drewN | apply Kd.R_drew)); exact HO191.out) (Kd.R_base ho0) hb); have n1_ := Aside0.mk (Kd.R_elder' (by (with_reducible repeat (first | apply Kd.R_alloc | apply Kd.R_drewN | apply Kd.R_drew)); exact HO195.out) (Kd.R_base ho0) hb); have n2_ := Aside0.mk (Kd.R_elder' (by (with_reducible repeat (first | apply Kd.R_alloc | apply Kd.R_drewN | apply Kd.R_drew)); exact HO199.out) (Kd.R_base ho0) hb); have n3_ := Aside0.mk (Kd.R_lower (Kd.R_new' (Kd.R_new' (Kd.R_new' ho0 (Kd.R_lt (by (with_reducible repeat (first | apply Kd.R_alloc | apply Kd.R_drewN | apply Kd.R_drew)); exact HO191.out))) (Kd.R_lt (by (with_reducible repeat (first | apply Kd.R_alloc | apply Kd.R_drewN | apply Kd.R_drew)); exact HO195.out))) (Kd.R_lt (by (with_reducible repeat (first | apply Kd.R_alloc | apply Kd.R_drewN | apply Kd.R_drew)); exact HO199.out))) (below_size (by repeat (first | (with_reducible first | exact HB.out | apply below_alloc | apply pw_below_drewN | apply below_drew1) | exact HB.out)))); have n4_ := Aside0.mk (below_step (by repeat (first | (with_reducible first | exact HB.out | apply below_alloc | apply pw_below_drewN | apply below_drew1) | exact HB.out)) hb); clear HO191; clear HO195; clear HO199; clear HB; have HO191 := n0_; have HO195 := n1_; have HO199 := n2_; have HO203 := n3_; have HB := n4_; clear n0_ n1_ n2_ n3_ n4_; (try clear hb); (try clear hb2); (try clear hk); (try clear hi); (try clear ho0)) | ((with_reducible refine gate_callee (f := 9) rfl ?_); refine goesL_ (some 35) rfl rfl Tryd.func9 (by kernel_rfl) rfl #[.string (⟨#[115, 112]⟩ : ByteArray)] rfl (by (try simp only [List.map_toArray, List.map_cons, List.map_nil]); first | done | rfl | (simp only [List.length_drop, List.length_take]; rfl)) ?_; (with_reducible refine (operand_Reg.calls (⟨#[115, 112]⟩ : ByteArray) t204 true t206 _ A5.out ?tabs).mono ?_); (case tabs => (first | exact HT | (refine tabs_of HT ?_; repeat (first | (with_reducible first | exact Below.refl _ _ | exact (Aside0.out (by assumption)) | exact (Drawn0.below (by assumption)) | apply below_alloc | apply pw_below_drewN | apply below_drew1 | assumption) | exact HB.out)))); rintro e w47 ⟨rfl, hb⟩; refine ⟨_, rfl, ?_⟩; have n0_ := Aside0.mk (Kd.R_below (by (with_reducible repeat (first | apply Kd.R_alloc | apply Kd.R_drewN | apply Kd.R_drew)); exact HO191.out) hb); have n1_ := Aside0.mk (Kd.R_below (by (with_reducible repeat (first | apply Kd.R_alloc | apply Kd.R_drewN | apply Kd.R_drew)); exact HO195.out) hb); have n2_ := Aside0.mk (Kd.R_below (by (with_reducible repeat (first | apply Kd.R_alloc | apply Kd.R_drewN | apply Kd.R_drew)); exact HO199.out) hb); have n3_ := Aside0.mk (Kd.R_below (by (with_reducible repeat (first | apply Kd.R_alloc | apply Kd.R_drewN | apply Kd.R_drew)); exact HO203.out) hb); have n4_ := Aside0.mk (below_step (by repeat (first | (with_reducible first | exact HB.out | apply below_alloc | apply pw_below_drewN | apply below_drew1) | exact HB.out)) hb); clear HO191; clear HO195; clear HO199; clear HO203; clear HB; have HO191 := n0_; have HO195 := n1_; have HO199 := n2_; have HO203 := n3_; have HB := n4_; clear n0_ n1_ n2_ n3_ n4_; (try clear hb); (try clear hb2); (try clear hk); (try clear hi)) | ((with_reducible refine gate_callee (f := 9) rfl ?_); refine goesL_ (some 40) rfl rfl Tryd.func9 (by kernel_rfl) rfl #[.string (⟨#[120, 48, 55]⟩ : ByteArray)] rfl (by (try simp only [List.map_toArray, List.map_cons, List.map_nil]); first | done | rfl | (simp only [List.length_drop, List.length_take]; rfl)) ?_; (with_reducible refine (operand_Reg.calls (⟨#[120, 48, 55]⟩ : ByteArray) t207 t208 t209 _ A6.out ?tabs).mono ?_); (case tabs => (first | exact HT | (refine tabs_of HT ?_; repeat (first | (with_reducible first | exact Below.refl _ _ | exact (Aside0.out (by assumption)) | exact (Drawn0.below (by assumption)) | apply below_alloc | apply pw_below_drewN | apply below_drew1 | assumption) | exact HB.out)))); rintro e w48 ⟨rfl, hb⟩; refine ⟨_, rfl, ?_⟩; have n0_ := Aside0.mk (Kd.R_below (by (with_reducible repeat (first | apply Kd.R_alloc | apply Kd.R_drewN | apply Kd.R_drew)); exact HO191.out) hb); have n1_ := Aside0.mk (Kd.R_below (by (with_reducible repeat (first | apply Kd.R_alloc | apply Kd.R_drewN | apply Kd.R_drew)); exact HO195.out) hb); have n2_ := Aside0.mk (Kd.R_below (by (with_reducible repeat (first | apply Kd.R_alloc | apply Kd.R_drewN | apply Kd.R_drew)); exact HO199.out) hb); have n3_ := Aside0.mk (Kd.R_below (by (with_reducible repeat (first | apply Kd.R_alloc | apply Kd.R_drewN | apply Kd.R_drew)); exact HO203.out) hb); have n4_ := Aside0.mk (below_step (by repeat (first | (with_reducible first | exact HB.out | apply below_alloc | apply pw_below_drewN | apply below_drew1) | exact HB.out)) hb); clear HO191; clear HO195; clear HO199; clear HO203; clear HB; have HO191 := n0_; have HO195 := n1_; have HO199 := n2_; have HO203 := n3_; have HB := n4_; clear n0_ n1_ n2_ n3_ n4_; (try clear hb); (try clear hb2); (try clear hk); (try clear hi)) | ((with_reducible refine gate_callee (f := 13) rfl ?_); refine goesL_ (some 45) rfl rfl Tryd.func13 (by kernel_rfl) rfl #[.string (⟨#[49, 50, 98]⟩ : ByteArray)] rfl (by (try simp only [List.map_toArray, List.map_cons, List.map_nil]); first | done | rfl | (simp only [List.length_drop, List.length_take]; rfl)) ?_; (with_reducible refine (operand_Label.calls (⟨#[49, 50, 98]⟩ : ByteArray) t210 false t212 _ A7.out).mono ?_); rintro e w49 ⟨rfl, hb⟩; refine ⟨_, rfl, ?_⟩; have n0_ := Aside0.mk (Kd.R_below (by (with_reducible repeat (first | apply Kd.R_alloc | apply Kd.R_drewN | apply Kd.R_drew)); exact HO191.out) hb); have n1_ := Aside0.mk (Kd.R_below (by (with_reducible repeat (first | apply Kd.R_alloc | apply Kd.R_drewN | apply Kd.R_drew)); exact HO195.out) hb); have n2_ := Aside0.mk (Kd.R_below (by (with_reducible repeat (first | apply Kd.R_alloc | apply Kd.R_drewN | apply Kd.R_drew)); exact HO199.out) hb); have n3_ := Aside0.mk (Kd.R_below (by (with_reducible repeat (first | apply Kd.R_alloc | apply Kd.R_drewN | apply Kd.R_drew)); exact HO203.out) hb); have n4_ := Aside0.mk (below_step (by repeat (first | (with_reducible first | exact HB.out | apply below_alloc | apply pw_below_drewN | apply below_drew1) | exact HB.out)) hb); clear HO191; clear HO195; clear HO199; clear HO203; clear HB; have HO191 := n0_; have HO195 := n1_; have HO199 := n2_; have HO203 := n3_; have HB := n4_; clear n0_ n1_ n2_ n3_ n4_; (try clear hb); (try clear hb2); (try clear hk); (try clear hi)) | ((with_reducible refine gate_dst (N := 56) rfl ?_); (try (refine gate_guard (by rfl) ?_; dsimp only)); refine Kd.R_lit k44 _ 44 ?hg (N := 56) ?hd (xs := ([(⟨1, 1, false, false, 0, (⟨#[]⟩ : ByteArray), 0⟩ : S44), (⟨4, 31, true, false, 8, (⟨#[]⟩ : ByteArray), 0⟩ : S44), (⟨7, 0, false, false, 3, (⟨#[]⟩ : ByteArray), 0⟩ : S44)] : List (S44))) (inner := [.int .i64 1, .int .i64 1, .bool false, .bool false, .int .u64 0, .string (⟨#[]⟩ : ByteArray), .int .i64 0, .int .i64 4, .int .i64 31, .bool true, .bool false, .int .u64 8, .string (⟨#[]⟩ : ByteArray), .int .i64 0, .int .i64 7, .int .i64 0, .bool false, .bool false, .int .u64 3, .string (⟨#[]⟩ : ByteArray), .int .i64 0]) (ok := fun _ => True) (okp := fun _ => True) ?hr ?hp (fun _ hk => hk) trivial (Below.refl _ _) (Nat.le_refl _) (by simp) ?_; (case hd => rfl); (case hg => rfl); (case hr => first | (go_simp; done) | (go_simp; rfl)); (case hp => exact (Reps.c7 (show Kd.M k44 _ _ _ (⟨1, 1, false, false, 0, (⟨#[]⟩ : ByteArray), 0⟩ : S44) [.int .i64 1, .int .i64 1, .bool false, .bool false, .int .u64 0, .string (⟨#[]⟩ : ByteArray), .int .i64 0] from (k44_mkM _ _ _ (⟨1, 1, false, false, 0, (⟨#[]⟩ : ByteArray), 0⟩ : S44) )) (Reps.c7 (show Kd.M k44 _ _ _ (⟨4, 31, true, false, 8, (⟨#[]⟩ : ByteArray), 0⟩ : S44) [.int .i64 4, .int .i64 31, .bool true, .bool false, .int .u64 8, .string (⟨#[]⟩ : ByteArray), .int .i64 0] from (k44_mkM _ _ _ (⟨4, 31, true, false, 8, (⟨#[]⟩ : ByteArray), 0⟩ : S44) )) (Reps.c7 (show Kd.M k44 _ _ _ (⟨7, 0, false, false, 3, (⟨#[]⟩ : ByteArray), 0⟩ : S44) [.int .i64 7, .int .i64 0, .bool false, .bool false, .int .u64 3, .string (⟨#[]⟩ : ByteArray), .int .i64 0] from (k44_mkM _ _ _ (⟨7, 0, false, false, 3, (⟨#[]⟩ : ByteArray), 0⟩ : S44) )) (Reps.none _ _))))); intro v214 w50 ho51 hb hg_ hnew_; clear hg_ hnew_; (first | rw [← Ny213.out] at ho51 | (simp only [Int.reduceToNat] at ho51; rw [← Ny213.out] at ho51)); have n0_ := Aside0.mk (Kd.R_elder' (by (with_reducible repeat (first | apply Kd.R_alloc | apply Kd.R_drewN | apply Kd.R_drew)); exact HO191.out) (Kd.R_base ho51) hb); have n1_ := Aside0.mk (Kd.R_elder' (by (with_reducible repeat (first | apply Kd.R_alloc | apply Kd.R_drewN | apply Kd.R_drew)); exact HO195.out) (Kd.R_base ho51) hb); have n2_ := Aside0.mk (Kd.R_elder' (by (with_reducible repeat (first | apply Kd.R_alloc | apply Kd.R_drewN | apply Kd.R_drew)); exact HO199.out) (Kd.R_base ho51) hb); have n3_ := Aside0.mk (Kd.R_elder' (by (with_reducible repeat (first | apply Kd.R_alloc | apply Kd.R_drewN | apply Kd.R_drew)); exact HO203.out) (Kd.R_base ho51) hb); have n4_ := Aside0.mk (Kd.R_lower (Kd.R_new' (Kd.R_new' (Kd.R_new' (Kd.R_new' ho51 (Kd.R_lt (by (with_reducible repeat (first | apply Kd.R_alloc | apply Kd.R_drewN | apply Kd.R_drew)); exact HO191.out))) (Kd.R_lt (by (with_reducible repeat (first | apply Kd.R_alloc | apply Kd.R_drewN | apply Kd.R_drew)); exact HO195.out))) (Kd.R_lt (by (with_reducible repeat (first | apply Kd.R_alloc | apply Kd.R_drewN | apply Kd.R_drew)); exact HO199.out))) (Kd.R_lt (by (with_reducible repeat (first | apply Kd.R_alloc | apply Kd.R_drewN | apply Kd.R_drew)); exact HO203.out))) (below_size (by repeat (first | (with_reducible first | exact HB.out | apply below_alloc | apply pw_below_drewN | apply below_drew1) | exact HB.out)))); have n5_ := Aside0.mk (below_step (by repeat (first | (with_reducible first | exact HB.out | apply below_alloc | apply pw_below_drewN | apply below_drew1) | exact HB.out)) hb); clear HO191; clear HO195; clear HO199; clear HO203; clear HB; have HO191 := n0_; have HO195 := n1_; have HO199 := n2_; have HO203 := n3_; have HO215 := n4_; have HB := n5_; clear n0_ n1_ n2_ n3_ n4_ n5_; clear hb ho51; obtain ⟨Ao52, co52, eo52⟩ := Kd.R_slice HO191.out; subst eo52; obtain ⟨Ao53, co53, eo53⟩ := Kd.R_slice HO215.out; subst eo53) | (go_at_call 8; (with_reducible refine (cleatref11_Same.calls k _ _ t188 _ _ y213 true _ ?side1 ?side2 ?side3 ?side4 A9.out).mono ?_); (case side1 => repeat (first | exact (Kd.R_reads' HO191.out).2.2 | (with_reducible refine Kd.C_alloc ?_ _) | (with_reducible refine Kd.C_drewN ?_ _) | (with_reducible refine Kd.C_drew ?_))); (case side2 => exact (Kd.R_reads' HO191.out).2.1); (case side3 => repeat (first | exact (Kd.R_reads' HO215.out).2.2 | (with_reducible refine Kd.C_alloc ?_ _) | (with_reducible refine Kd.C_drewN ?_ _) | (with_reducible refine Kd.C_drew ?_))); (case side4 => exact (Kd.R_reads' HO215.out).2.1); rintro e w' ⟨rfl, ⟨nd, rfl⟩⟩) | ((with_reducible refine gate_dst (N := 69) rfl ?_); (try (refine gate_guard (by rfl) ?_; dsimp only)); refine Kd.R_lit k44 _ 44 ?hg (N := 69) ?hd (xs := ([(⟨5, 0, false, false, 0, (⟨#[97]⟩ : ByteArray), 4⟩ : S44), (⟨2, 0, false, true, 1, (⟨#[]⟩ : ByteArray), 0⟩ : S44), (⟨3, 0, false, false, 0, (⟨#[49, 102]⟩ : ByteArray), 0⟩ : S44)] : List (S44))) (inner := [.int .i64 5, .int .i64 0, .bool false, .bool false, .int .u64 0, .string (⟨#[97]⟩ : ByteArray), .int .i64 4, .int .i64 2, .int .i64 0, .bool false, .bool true, .int .u64 1, .string (⟨#[]⟩ : ByteArray), .int .i64 0, .int .i64 3, .int .i64 0, .bool false, .bool false, .int .u64 0, .string (⟨#[49, 102]⟩ : ByteArray), .int .i64 0]) (ok := fun _ => True) (okp := fun _ => True) ?hr ?hp (fun _ hk => hk) trivial (Below.refl _ _) (Nat.le_refl _) (by simp) ?_; (case hd => rfl); (case hg => rfl); (case hr => first | (go_simp; done) | (go_simp; rfl)); (case hp => exact (Reps.c7 (show Kd.M k44 _ _ _ (⟨5, 0, false, false, 0, (⟨#[97]⟩ : ByteArray), 4⟩ : S44) [.int .i64 5, .int .i64 0, .bool false, .bool false, .int .u64 0, .string (⟨#[97]⟩ : ByteArray), .int .i64 4] from (k44_mkM _ _ _ (⟨5, 0, false, false, 0, (⟨#[97]⟩ : ByteArray), 4⟩ : S44) )) (Reps.c7 (show Kd.M k44 _ _ _ (⟨2, 0, false, true, 1, (⟨#[]⟩ : ByteArray), 0⟩ : S44) [.int .i64 2, .int .i64 0, .bool false, .bool true, .int .u64 1, .string (⟨#[]⟩ : ByteArray), .int .i64 0] from (k44_mkM _ _ _ (⟨2, 0, false, true, 1, (⟨#[]⟩ : ByteArray), 0⟩ : S44) )) (Reps.c7 (show Kd.M k44 _ _ _ (⟨3, 0, false, false, 0, (⟨#[49, 102]⟩ : ByteArray), 0⟩ : S44) [.int .i64 3, .int .i64 0, .bool false, .bool false, .int .u64 0, .string (⟨#[49, 102]⟩ : ByteArray), .int .i64 0] from (k44_mkM _ _ _ (⟨3, 0, false, false, 0, (⟨#[49, 102]⟩ : ByteArray), 0⟩ : S44) )) (Reps.none _ _))))); intro v218 w54 ho55 hb hg_ hnew_; clear hg_ hnew_; (first | rw [← Ny217.out] at ho55 | (simp only [Int.reduceToNat] at ho55; rw [← Ny217.out] at ho55)); have n0_ := Aside0.mk (Kd.R_elder' (by (with_reducible repeat (first | apply Kd.R_alloc | apply Kd.R_drewN | apply Kd.R_drew)); exact HO191.out) (Kd.R_base ho55) hb); have n1_ := Aside0.mk (Kd.R_elder' (by (with_reducible repeat (first | apply Kd.R_alloc | apply Kd.R_drewN | apply Kd.R_drew)); exact HO195.out) (Kd.R_base ho55) hb); have n2_ := Aside0.mk (Kd.R_elder' (by (with_reducible repeat (first | apply Kd.R_alloc | apply Kd.R_drewN | apply Kd.R_drew)); exact HO199.out) (Kd.R_base ho55) hb); have n3_ := Aside0.mk (Kd.R_elder' (by (with_reducible repeat (first | apply Kd.R_alloc | apply Kd.R_drewN | apply Kd.R_drew)); exact HO203.out) (Kd.R_base ho55) hb); have n4_ := Aside0.mk (Kd.R_elder' (by (with_reducible repeat (first | apply Kd.R_alloc | apply Kd.R_drewN | apply Kd.R_drew)); exact HO215.out) (Kd.R_base ho55) hb); have n5_ := Aside0.mk (Kd.R_lower (Kd.R_new' (Kd.R_new' (Kd.R_new' (Kd.R_new' (Kd.R_new' ho55 (Kd.R_lt (by (with_reducible repeat (first | apply Kd.R_alloc | apply Kd.R_drewN | apply Kd.R_drew)); exact HO191.out))) (Kd.R_lt (by (with_reducible repeat (first | apply Kd.R_alloc | apply Kd.R_drewN | apply Kd.R_drew)); exact HO195.out))) (Kd.R_lt (by (with_reducible repeat (first | apply Kd.R_alloc | apply Kd.R_drewN | apply Kd.R_drew)); exact HO199.out))) (Kd.R_lt (by (with_reducible repeat (first | apply Kd.R_alloc | apply Kd.R_drewN | apply Kd.R_drew)); exact HO203.out))) (Kd.R_lt (by (with_reducible repeat (first | apply Kd.R_alloc | apply Kd.R_drewN | apply Kd.R_drew)); exact HO215.out))) (below_size (by repeat (first | (with_reducible first | exact HB.out | apply below_alloc | apply pw_below_drewN | apply below_drew1) | exact HB.out)))); have n6_ := Aside0.mk (below_step (by repeat (first | (with_reducible first | exact HB.out | apply below_alloc | apply pw_below_drewN | apply below_drew1) | exact HB.out)) hb); clear HO191; clear HO195; clear HO199; clear HO203; clear HO215; clear HB; have HO191 := n0_; have HO195 := n1_; have HO199 := n2_; have HO203 := n3_; have HO215 := n4_; have HO219 := n5_; have HB := n6_; clear n0_ n1_ n2_ n3_ n4_ n5_ n6_; clear hb ho55; obtain ⟨Ao56, co56, eo56⟩ := Kd.R_slice HO195.out; subst eo56; obtain ⟨Ao57, co57, eo57⟩ := Kd.R_slice HO219.out; subst eo57) | (go_at_call 8; (with_reducible refine (cleatref11_Same.calls k _ _ t192 _ _ y217 true _ ?side1 ?side2 ?side3 ?side4 A12.out).mono ?_); (case side1 => repeat (first | exact (Kd.R_reads' HO195.out).2.2 | (with_reducible refine Kd.C_alloc ?_ _) | (with_reducible refine Kd.C_drewN ?_ _) | (with_reducible refine Kd.C_drew ?_))); (case side2 => exact (Kd.R_reads' HO195.out).2.1); (case side3 => repeat (first | exact (Kd.R_reads' HO219.out).2.2 | (with_reducible refine Kd.C_alloc ?_ _) | (with_reducible refine Kd.C_drewN ?_ _) | (with_reducible refine Kd.C_drew ?_))); (case side4 => exact (Kd.R_reads' HO219.out).2.1); rintro e w' ⟨rfl, ⟨nd, rfl⟩⟩) | ((with_reducible refine gate_dst (N := 81) rfl ?_); (try (refine gate_guard (by rfl) ?_; dsimp only)); refine Kd.R_lit k44 _ 44 ?hg (N := 81) ?hd (xs := ([(⟨4, 2, false, false, 0, (⟨#[98]⟩ : ByteArray), 0⟩ : S44), (⟨1, 31, false, false, 0, (⟨#[]⟩ : ByteArray), 0⟩ : S44)] : List (S44))) (inner := [.int .i64 4, .int .i64 2, .bool false, .bool false, .int .u64 0, .string (⟨#[98]⟩ : ByteArray), .int .i64 0, .int .i64 1, .int .i64 31, .bool false, .bool false, .int .u64 0, .string (⟨#[]⟩ : ByteArray), .int .i64 0]) (ok := fun _ => True) (okp := fun _ => True) ?hr ?hp (fun _ hk => hk) trivial (Below.refl _ _) (Nat.le_refl _) (by simp) ?_; (case hd => rfl); (case hg => rfl); (case hr => first | (go_simp; done) | (go_simp; rfl)); (case hp => exact (Reps.c7 (show Kd.M k44 _ _ _ (⟨4, 2, false, false, 0, (⟨#[98]⟩ : ByteArray), 0⟩ : S44) [.int .i64 4, .int .i64 2, .bool false, .bool false, .int .u64 0, .string (⟨#[98]⟩ : ByteArray), .int .i64 0] from (k44_mkM _ _ _ (⟨4, 2, false, false, 0, (⟨#[98]⟩ : ByteArray), 0⟩ : S44) )) (Reps.c7 (show Kd.M k44 _ _ _ (⟨1, 31, false, false, 0, (⟨#[]⟩ : ByteArray), 0⟩ : S44) [.int .i64 1, .int .i64 31, .bool false, .bool false, .int .u64 0, .string (⟨#[]⟩ : ByteArray), .int .i64 0] from (k44_mkM _ _ _ (⟨1, 31, false, false, 0, (⟨#[]⟩ : ByteArray), 0⟩ : S44) )) (Reps.none _ _)))); intro v222 w58 ho59 hb hg_ hnew_; clear hg_ hnew_; (first | rw [← Ny221.out] at ho59 | (simp only [Int.reduceToNat] at ho59; rw [← Ny221.out] at ho59)); have n0_ := Aside0.mk (Kd.R_elder' (by (with_reducible repeat (first | apply Kd.R_alloc | apply Kd.R_drewN | apply Kd.R_drew)); exact HO191.out) (Kd.R_base ho59) hb); have n1_ := Aside0.mk (Kd.R_elder' (by (with_reducible repeat (first | apply Kd.R_alloc | apply Kd.R_drewN | apply Kd.R_drew)); exact HO195.out) (Kd.R_base ho59) hb); have n2_ := Aside0.mk (Kd.R_elder' (by (with_reducible repeat (first | apply Kd.R_alloc | apply Kd.R_drewN | apply Kd.R_drew)); exact HO199.out) (Kd.R_base ho59) hb); have n3_ := Aside0.mk (Kd.R_elder' (by (with_reducible repeat (first | apply Kd.R_alloc | apply Kd.R_drewN | apply Kd.R_drew)); exact HO203.out) (Kd.R_base ho59) hb); have n4_ := Aside0.mk (Kd.R_elder' (by (with_reducible repeat (first | apply Kd.R_alloc | apply Kd.R_drewN | apply Kd.R_drew)); exact HO215.out) (Kd.R_base ho59) hb); have n5_ := Aside0.mk (Kd.R_elder' (by (with_reducible repeat (first | apply Kd.R_alloc | apply Kd.R_drewN | apply Kd.R_drew)); exact HO219.out) (Kd.R_base ho59) hb); have n6_ := Aside0.mk (Kd.R_lower (Kd.R_new' (Kd.R_new' (Kd.R_new' (Kd.R_new' (Kd.R_new' (Kd.R_new' ho59 (Kd.R_lt (by (with_reducible repeat (first | apply Kd.R_alloc | apply Kd.R_drewN | apply Kd.R_drew)); exact HO191.out))) (Kd.R_lt (by (with_reducible repeat (first | apply Kd.R_alloc | apply Kd.R_drewN | apply Kd.R_drew)); exact HO195.out))) (Kd.R_lt (by (with_reducible repeat (first | apply Kd.R_alloc | apply Kd.R_drewN | apply Kd.R_drew)); exact HO199.out))) (Kd.R_lt (by (with_reducible repeat (first | apply Kd.R_alloc | apply Kd.R_drewN | apply Kd.R_drew)); exact HO203.out))) (Kd.R_lt (by (with_reducible repeat (first | apply Kd.R_alloc | apply Kd.R_drewN | apply Kd.R_drew)); exact HO215.out))) (Kd.R_lt (by (with_reducible repeat (first | apply Kd.R_alloc | apply Kd.R_drewN | apply Kd.R_drew)); exact HO219.out))) (below_size (by repeat (first | (with_reducible first | exact HB.out | apply below_alloc | apply pw_below_drewN | apply below_drew1) | exact HB.out)))); have n7_ := Aside0.mk (below_step (by repeat (first | (with_reducible first | exact HB.out | apply below_alloc | apply pw_below_drewN | apply below_drew1) | exact HB.out)) hb); clear HO191; clear HO195; clear HO199; clear HO203; clear HO215; clear HO219; clear HB; have HO191 := n0_; have HO195 := n1_; have HO199 := n2_; have HO203 := n3_; have HO215 := n4_; have HO219 := n5_; have HO223 := n6_; have HB := n7_; clear n0_ n1_ n2_ n3_ n4_ n5_ n6_ n7_; clear hb ho59; obtain ⟨Ao60, co60, eo60⟩ := Kd.R_slice HO199.out; subst eo60; obtain ⟨Ao61, co61, eo61⟩ := Kd.R_slice HO223.out; subst eo61) | (go_at_call 8; (with_reducible refine (cleatref11_Same.calls k _ _ t196 _ _ y221 true _ ?side1 ?side2 ?side3 ?side4 A15.out).mono ?_); (case side1 => repeat (first | exact (Kd.R_reads' HO199.out).2.2 | (with_reducible refine Kd.C_alloc ?_ _) | (with_reducible refine Kd.C_drewN ?_ _) | (with_reducible refine Kd.C_drew ?_))); (case side2 => exact (Kd.R_reads' HO199.out).2.1); (case side3 => repeat (first | exact (Kd.R_reads' HO223.out).2.2 | (with_reducible refine Kd.C_alloc ?_ _) | (with_reducible refine Kd.C_drewN ?_ _) | (with_reducible refine Kd.C_drew ?_))); (case side4 => exact (Kd.R_reads' HO223.out).2.1); rintro e w' ⟨rfl, ⟨nd, rfl⟩⟩))
              go_ret
              exact ⟨by first | rfl | (simp [errW_none, errW_some] <;> rfl) | (simp [*, errW_none, errW_some] <;> rfl), by repeat (first | (with_reducible first | exact HB.out | apply below_alloc | apply pw_below_drewN | apply below_drew1) | exact HB.out)⟩
            ·rw [if_neg c22] at H
             have c22b0 : (t210 == 12) = false := beq_eq_false_iff_ne.mpr c22
             have c22b1 : (t210 != 12) = true := bne_iff_ne.mpr c22
             obtain rfl := Option.some.inj H; exact absurd HRT_.out (by decide)   -- arm 2
           ·rw [if_neg c21] at H
            have c21b0 : (t209 == t201) = false := beq_eq_false_iff_ne.mpr c21
            have c21b1 : (t209 != t201) = true := bne_iff_ne.mpr c21
            obtain rfl := Option.some.inj H; exact absurd HRT_.out (by decide)   -- arm 3
          ·replace c20 := Bool.eq_false_iff.mpr c20
           subst c20
           rw [if_neg (show ¬ (false = true) by decide)] at H
           obtain rfl := Option.some.inj H; exact absurd HRT_.out (by decide)   -- arm 4
         ·rw [if_neg c19] at H
          have c19b0 : (t204 == 31) = false := beq_eq_false_iff_ne.mpr c19
          have c19b1 : (t204 != 31) = true := bne_iff_ne.mpr c19
          obtain rfl := Option.some.inj H; exact absurd HRT_.out (by decide)   -- arm 5
        ·rw [if_neg c18] at H
         have c18b0 : (t206 == t189) = false := beq_eq_false_iff_ne.mpr c18
         have c18b1 : (t206 != t189) = true := bne_iff_ne.mpr c18
         obtain rfl := Option.some.inj H; exact absurd HRT_.out (by decide)   -- arm 6
       ·rw [if_neg c17] at H
        have c17b0 : (t201 == 3) = false := beq_eq_false_iff_ne.mpr c17
        have c17b1 : (t201 != 3) = true := bne_iff_ne.mpr c17
        obtain rfl := Option.some.inj H; exact absurd HRT_.out (by decide)   -- arm 7
      ·replace c16 := Bool.eq_false_iff.mpr c16
       subst c16
       rw [if_neg (show ¬ (false = true) by decide)] at H
       obtain rfl := Option.some.inj H; exact absurd HRT_.out (by decide)   -- arm 8
     ·rw [if_neg c14] at H
      have c14b0 : (t197 == t189) = false := beq_eq_false_iff_ne.mpr c14
      have c14b1 : (t197 != t189) = true := bne_iff_ne.mpr c14
      obtain rfl := Option.some.inj H; exact absurd HRT_.out (by decide)   -- arm 9
    ·replace c13 := Bool.eq_false_iff.mpr c13
     subst c13
     rw [if_neg (show ¬ (false = true) by decide)] at H
     obtain rfl := Option.some.inj H; exact absurd HRT_.out (by decide)   -- arm 10
   ·rw [if_neg c11] at H
    have c11b0 : (t193 == t189) = false := beq_eq_false_iff_ne.mpr c11
    have c11b1 : (t193 != t189) = true := bne_iff_ne.mpr c11
    obtain rfl := Option.some.inj H; exact absurd HRT_.out (by decide)   -- arm 11
  ·replace c10 := Bool.eq_false_iff.mpr c10
   subst c10
   rw [if_neg (show ¬ (false = true) by decide)] at H
   obtain rfl := Option.some.inj H; exact absurd HRT_.out (by decide)   -- arm 12
 ·rw [if_neg c8] at H
  have c8b0 : (t189 == 0) = false := beq_eq_false_iff_ne.mpr c8
  have c8b1 : (t189 != 0) = true := bne_iff_ne.mpr c8
  obtain rfl := Option.some.inj H; exact absurd HRT_.out (by decide)   -- arm 13


/-! ### operand_RegText: function 11 -/
def operand_RegText.j0 : Nat → Int → Bool → Bool → Option (ByteArray × Int)
 | 0, _, _, _ => none
 | k + 1, x0, x1, x6 => if x6 = true then (some ((⟨#[]⟩ : ByteArray), 1)) else (if x1 = true then (some ((⟨#[115, 112]⟩ : ByteArray), 0)) else (if x0 = 31 then (some ((⟨#[120, 122, 114]⟩ : ByteArray), 0)) else ((num_Text.f (IntKind.u64.wrap (x0))).bind fun t225 => (if 1 + t225.size ≤ 9223372036854775807 then (some ((⟨#[120]⟩ : ByteArray) ++ t225, 0)) else (none)))))
def operand_RegText.f (k : Nat) (a0 : Int) (a1 : Bool) : Option (ByteArray × Int) := if a0 < 0 then (operand_RegText.j0 k a0 a1 true) else (if a0 > 31 then (operand_RegText.j0 k a0 a1 true) else (if a1 = true then (operand_RegText.j0 k a0 a1 (a0 != 31)) else (operand_RegText.j0 k a0 a1 false)))
theorem operand_RegText.mono_l : ∀ k, (∀ y0 y1 y2, LeO (operand_RegText.j0 k y0 y1 y2) (operand_RegText.j0 (k + 1) y0 y1 y2))
 | 0 => fun _ _ _ r h => by simp [operand_RegText.j0] at h
 | k + 1 => by
  have ih0 := operand_RegText.mono_l k
  ·intro y0 y1 y2
   unfold operand_RegText.j0
   repeat' first
   | (with_reducible exact ih0 _ _ _)
   | (with_reducible exact LeO.refl _)
   | (with_reducible exact LeO.none _)
   | (with_reducible refine LeO.ite ?_ ?_)
   | (with_reducible refine LeO.bind ?_ (fun _ => ?_))
   | exact ih0 _ _ _
   | exact LeO.none _
   | refine LeO.ite ?_ ?_
   | refine LeO.bind ?_ (fun _ => ?_)
theorem operand_RegText.mono : ∀ a0 a1 k, LeO (operand_RegText.f k a0 a1) (operand_RegText.f (k + 1) a0 a1) := by
 intro a0 a1 k
 have ih0 := operand_RegText.mono_l k
 unfold operand_RegText.f
 repeat' first
   | (with_reducible exact ih0 _ _ _)
   | (with_reducible exact LeO.refl _)
   | (with_reducible exact LeO.none _)
   | (with_reducible refine LeO.ite ?_ ?_)
   | (with_reducible refine LeO.bind ?_ (fun _ => ?_))
   | exact ih0 _ _ _
   | exact LeO.none _
   | refine LeO.ite ?_ ?_
   | refine LeO.bind ?_ (fun _ => ?_)
set_option maxHeartbeats 8000000 in
set_option maxRecDepth 100000 in
theorem operand_RegText.calls (k : Nat) (a0 : Int) (a1 : Bool) (r1 : ByteArray) (r2 : Int) (w : World) (h : operand_RegText.f k a0 a1 = some (r1, r2)) (HT : Aside0 (Tabs w)) :
  Calls Tryd.prog 11 #[.int .i64 a0, .bool a1] w fun e w' => e = .returned (.tuple #[.string r1, .int .i64 r2]) ∧ Below w.heap.size w w' := by
 have HB := Aside0.mk (Below.refl w.heap.size w)
 have H : (if a0 < 0 then (operand_RegText.j0 k a0 a1 true) else (if a0 > 31 then (operand_RegText.j0 k a0 a1 true) else (if a1 = true then (operand_RegText.j0 k a0 a1 (a0 != 31)) else (operand_RegText.j0 k a0 a1 false)))) = some (r1, r2) := h
 clear h
 have HC3 := Aside0.mk H
 clear H
 go_enter Tryd.func11, Tryd.ntmps11
 go_upto_region 1 with (fail)
 go_cut [6] (fun v6 wc => ∃ (kq : Nat) (x6_2 : Bool), v6 = .bool x6_2 ∧ Aside0 (operand_RegText.j0 kq a0 a1 x6_2 = some (r1, r2)) ∧ Aside0 (kq ≤ k) ∧ Aside0 (Below w.heap.size w wc))
 case first =>
  have H := HC3.out
  clear HC3
  by_cases c4 : a0 < 0
  ·rw [if_pos c4] at H
   have c4b0 : decide (a0 < 0) = true := decide_eq_true c4
   clear c4
   (first | rw [c4b0] | (simp only [i64_w, i32_w]; rw [c4b0]) | skip)
   have H' := Aside0.mk H
   clear H
   go_wp2
   go_meet
   case rel => exact ⟨_, (true), (by first | rfl | (simp; done) | (simp [*]; done)), H', ⟨by first | omega | exact Nat.le_refl _⟩, ⟨by repeat (first | (with_reducible first | exact HB.out | apply below_alloc | apply pw_below_drewN | apply below_drew1) | exact HB.out)⟩⟩
  ·rw [if_neg c4] at H
   have c4b0 : decide (a0 < 0) = false := decide_eq_false c4
   clear c4
   (first | rw [c4b0] | (simp only [i64_w, i32_w]; rw [c4b0]) | skip)
   by_cases c5 : a0 > 31
   ·rw [if_pos c5] at H
    have c5b0 : decide (31 < a0) = true := decide_eq_true c5
    clear c5
    have H' := Aside0.mk H
    clear H
    go_wp2
    go_meet
    case rel => exact ⟨_, (true), (by first | rfl | (simp; done) | (simp [*]; done)), H', ⟨by first | omega | exact Nat.le_refl _⟩, ⟨by repeat (first | (with_reducible first | exact HB.out | apply below_alloc | apply pw_below_drewN | apply below_drew1) | exact HB.out)⟩⟩
   ·rw [if_neg c5] at H
    have c5b0 : decide (31 < a0) = false := decide_eq_false c5
    clear c5
    by_cases c6 : a1 = true
    ·subst c6
     rw [if_pos rfl] at H
     have H' := Aside0.mk H
     clear H
     go_wp2
     go_meet
     case rel => exact ⟨_, ((a0 != 31)), (by first | rfl | (simp; done) | (simp [*]; done)), H', ⟨by first | omega | exact Nat.le_refl _⟩, ⟨by repeat (first | (with_reducible first | exact HB.out | apply below_alloc | apply pw_below_drewN | apply below_drew1) | exact HB.out)⟩⟩
    ·replace c6 := Bool.eq_false_iff.mpr c6
     subst c6
     rw [if_neg (show ¬ (false = true) by decide)] at H
     have H' := Aside0.mk H
     clear H
     go_wp2
     go_meet
     case rel => exact ⟨_, (false), (by first | rfl | (simp; done) | (simp [*]; done)), H', ⟨by first | omega | exact Nat.le_refl _⟩, ⟨by repeat (first | (with_reducible first | exact HB.out | apply below_alloc | apply pw_below_drewN | apply below_drew1) | exact HB.out)⟩⟩
 case rest =>
  clear HC3
  try clear c1
  try clear p2
  try clear c4
  try clear c4b0
  try clear c5
  try clear c5b0
  try clear c6
  obtain ⟨kq, x6_2, rfl, HA, HJ2, HB⟩ := hcut
  cases kq with
  | zero => exact absurd HA.out (by simp [operand_RegText.j0])
  | succ kj2 =>
   have H := HA.out
   clear HA
   simp only [operand_RegText.j0] at H
   by_cases c7 : x6_2 = true
   ·subst c7
    rw [if_pos rfl] at H
    simp only [Option.some.injEq, Prod.mk.injEq] at H
    obtain ⟨rfl, rfl⟩ := H
    go_wp2
    go_ret2
    exact ⟨by first | rfl | (simp [errW_none, errW_some] <;> rfl) | (simp [*, errW_none, errW_some] <;> rfl), by repeat (first | (with_reducible first | exact HB.out | apply below_alloc | apply pw_below_drewN | apply below_drew1) | exact HB.out)⟩
   ·replace c7 := Bool.eq_false_iff.mpr c7
    subst c7
    rw [if_neg (show ¬ (false = true) by decide)] at H
    by_cases c8 : a1 = true
    ·subst c8
     rw [if_pos rfl] at H
     simp only [Option.some.injEq, Prod.mk.injEq] at H
     obtain ⟨rfl, rfl⟩ := H
     go_wp2
     go_ret2
     exact ⟨by first | rfl | (simp [errW_none, errW_some] <;> rfl) | (simp [*, errW_none, errW_some] <;> rfl), by repeat (first | (with_reducible first | exact HB.out | apply below_alloc | apply pw_below_drewN | apply below_drew1) | exact HB.out)⟩
    ·replace c8 := Bool.eq_false_iff.mpr c8
     subst c8
     rw [if_neg (show ¬ (false = true) by decide)] at H
     by_cases c9 : a0 = 31
     ·rw [if_pos c9] at H
      have c9b0 : (a0 == 31) = true := beq_iff_eq.mpr c9
      have c9b1 : (a0 != 31) = false := bne_eq_false_iff_eq.mpr c9
      clear c9
      simp only [Option.some.injEq, Prod.mk.injEq] at H
      obtain ⟨rfl, rfl⟩ := H
      go_wp2
      go_ret2
      exact ⟨by first | rfl | (simp [errW_none, errW_some] <;> rfl) | (simp [*, errW_none, errW_some] <;> rfl), by repeat (first | (with_reducible first | exact HB.out | apply below_alloc | apply pw_below_drewN | apply below_drew1) | exact HB.out)⟩
     ·rw [if_neg c9] at H
      have c9b0 : (a0 == 31) = false := beq_eq_false_iff_ne.mpr c9
      have c9b1 : (a0 != 31) = true := bne_iff_ne.mpr c9
      replace H := Option.bind_eq_some_iff.mp H
      obtain ⟨t225, A100, H⟩ := H
      replace H : (if 1 + t225.size ≤ 9223372036854775807 then (some ((⟨#[120]⟩ : ByteArray) ++ t225, 0)) else (none)) = some (r1, r2) := H
      have A10 := Aside0.mk A100
      clear A100
      by_cases c11 : 1 + t225.size ≤ 9223372036854775807
      ·rw [if_pos c11] at H
       have c11b0 := eq_true c11
       have c11b1 : decide (1 + t225.size ≤ 9223372036854775807) = true := decide_eq_true c11
       try have c11b2 : (9223372036854775807 < 1 + t225.size) = False := eq_false (Nat.not_lt.2 c11)
       simp only [Option.some.injEq, Prod.mk.injEq] at H
       obtain ⟨rfl, rfl⟩ := H
       go_wp2_with (first | ((with_reducible refine gate_callee (f := 21) rfl ?_); refine goesL_ (some 27) rfl rfl Tryd.func21 (by kernel_rfl) rfl #[.int .u64 (IntKind.u64.wrap (a0))] rfl (by (try simp only [List.map_toArray, List.map_cons, List.map_nil]); first | done | rfl | (simp only [List.length_drop, List.length_take]; rfl)) ?_; (with_reducible refine (num_Text.calls (IntKind.u64.wrap (a0)) t225 _ A10.out ?tabs).mono ?_); (case tabs => (first | exact HT | (refine tabs_of HT ?_; repeat (first | (with_reducible first | exact Below.refl _ _ | exact (Aside0.out (by assumption)) | exact (Drawn0.below (by assumption)) | apply below_alloc | apply pw_below_drewN | apply below_drew1 | assumption) | exact HB.out)))); rintro e w12 ⟨rfl, hb⟩; refine ⟨_, rfl, ?_⟩; have n0_ := Aside0.mk (below_step (by repeat (first | (with_reducible first | exact HB.out | apply below_alloc | apply pw_below_drewN | apply below_drew1) | exact HB.out)) hb); clear HB; have HB := n0_; clear n0_; (try clear hb); (try clear hb2); (try clear hk); (try clear hi)))
       go_ret2
       exact ⟨by first | rfl | (simp [errW_none, errW_some] <;> rfl) | (simp [*, errW_none, errW_some] <;> rfl), by repeat (first | (with_reducible first | exact HB.out | apply below_alloc | apply pw_below_drewN | apply below_drew1) | exact HB.out)⟩
      ·rw [if_neg c11] at H
       exact absurd H (by simp)

/-! ### cleatlaw11_OperandRegs: function 5 -/
def cleatlaw11_OperandRegs.j0 : Nat → Int → Bool → Option (Bool)
 | 0, _, _ => none
 | k + 1, x1, x2 => (operand_RegText.f k x1 x2).bind fun bt231 => (if bt231.2 = 0 then ((operand_Reg.f bt231.1).bind fun bt233 => ((cleatlaw11_given.f k).bind fun t236 => (if t236 = true then (if bt233.2.2 = 0 then (if bt233.1 = x1 then (some (bt233.2.1 == x2)) else (some false)) else (some false)) else (some false)))) else ((cleatlaw11_given.f k).bind fun t237 => (if t237 = true then (if bt231.1.toList = ([] : List UInt8) then (if x1 < 0 then (some true) else (if x1 > 31 then (some true) else (if x2 = true then (some (x1 != 31)) else (some false)))) else (some false)) else (some false))))
def cleatlaw11_OperandRegs.f (k : Nat) (a0 : ByteArray) (a1 : Int) (a2 : Bool) : Option (Bool) := (operand_Reg.f a0).bind fun bt226 => (if bt226.2.2 = 0 then ((operand_RegText.f k bt226.1 bt226.2.1).bind fun bt229 => (if bt229.2 = 0 then (if bt229.1.toList = a0.toList then (cleatlaw11_OperandRegs.j0 k a1 a2) else (some false)) else (some false))) else (cleatlaw11_OperandRegs.j0 k a1 a2))
theorem cleatlaw11_OperandRegs.mono_l : ∀ k, (∀ y0 y1, LeO (cleatlaw11_OperandRegs.j0 k y0 y1) (cleatlaw11_OperandRegs.j0 (k + 1) y0 y1))
 | 0 => fun _ _ r h => by simp [cleatlaw11_OperandRegs.j0] at h
 | k + 1 => by
  have ih0 := cleatlaw11_OperandRegs.mono_l k
  ·intro y0 y1
   unfold cleatlaw11_OperandRegs.j0
   repeat' first
   | (with_reducible exact ih0 _ _)
   | (with_reducible exact cleatlaw11_given.mono _)
   | (with_reducible exact operand_RegText.mono _ _ _)
   | (with_reducible exact LeO.refl _)
   | (with_reducible exact LeO.none _)
   | (with_reducible refine LeO.ite ?_ ?_)
   | (with_reducible refine LeO.bind ?_ (fun _ => ?_))
   | exact ih0 _ _
   | exact cleatlaw11_given.mono _
   | exact operand_RegText.mono _ _ _
   | exact LeO.none _
   | refine LeO.ite ?_ ?_
   | refine LeO.bind ?_ (fun _ => ?_)
theorem cleatlaw11_OperandRegs.mono : ∀ a0 a1 a2 k, LeO (cleatlaw11_OperandRegs.f k a0 a1 a2) (cleatlaw11_OperandRegs.f (k + 1) a0 a1 a2) := by
 intro a0 a1 a2 k
 have ih0 := cleatlaw11_OperandRegs.mono_l k
 unfold cleatlaw11_OperandRegs.f
 repeat' first
   | (with_reducible exact ih0 _ _)
   | (with_reducible exact cleatlaw11_given.mono _)
   | (with_reducible exact operand_RegText.mono _ _ _)
   | (with_reducible exact LeO.refl _)
   | (with_reducible exact LeO.none _)
   | (with_reducible refine LeO.ite ?_ ?_)
   | (with_reducible refine LeO.bind ?_ (fun _ => ?_))
   | exact ih0 _ _
   | exact cleatlaw11_given.mono _
   | exact operand_RegText.mono _ _ _
   | exact LeO.none _
   | refine LeO.ite ?_ ?_
   | refine LeO.bind ?_ (fun _ => ?_)
set_option maxHeartbeats 8000000 in
set_option maxRecDepth 100000 in
theorem cleatlaw11_OperandRegs.calls (k : Nat) (a0 : ByteArray) (a1 : Int) (a2 : Bool) (r : Bool) (w : World) (h : cleatlaw11_OperandRegs.f k a0 a1 a2 = some r) (HT : Aside0 (Tabs w)) :
  Calls Tryd.prog 5 #[.string a0, .int .i64 a1, .bool a2] w fun e w' => e = .returned (.bool r) ∧ Below w.heap.size w w' := by
 have HB := Aside0.mk (Below.refl w.heap.size w)
 have H : ((operand_Reg.f a0).bind fun bt226 => (if bt226.2.2 = 0 then ((operand_RegText.f k bt226.1 bt226.2.1).bind fun bt229 => (if bt229.2 = 0 then (if bt229.1.toList = a0.toList then (cleatlaw11_OperandRegs.j0 k a1 a2) else (some false)) else (some false))) else (cleatlaw11_OperandRegs.j0 k a1 a2))) = some r := h
 clear h
 replace H := Option.bind_eq_some_iff.mp H
 obtain ⟨⟨t226, t227, t228⟩, A40, H⟩ := H
 replace H : (if t228 = 0 then ((operand_RegText.f k t226 t227).bind fun bt229 => (if bt229.2 = 0 then (if bt229.1.toList = a0.toList then (cleatlaw11_OperandRegs.j0 k a1 a2) else (some false)) else (some false))) else (cleatlaw11_OperandRegs.j0 k a1 a2)) = some r := H
 have A4 := Aside0.mk A40
 clear A40
 have HC5 := Aside0.mk H
 clear H
 go_enter Tryd.func5, Tryd.ntmps5
 go_upto_if 24 with (first | ((with_reducible refine gate_callee (f := 9) rfl ?_); refine goesL_ (some 19) rfl rfl Tryd.func9 (by kernel_rfl) rfl #[.string a0] rfl (by (try simp only [List.map_toArray, List.map_cons, List.map_nil]); first | done | rfl | (simp only [List.length_drop, List.length_take]; rfl)) ?_; (with_reducible refine (operand_Reg.calls a0 t226 t227 t228 _ A4.out ?tabs).mono ?_); (case tabs => (first | exact HT | (refine tabs_of HT ?_; repeat (first | (with_reducible first | exact Below.refl _ _ | exact (Aside0.out (by assumption)) | exact (Drawn0.below (by assumption)) | apply below_alloc | apply pw_below_drewN | apply below_drew1 | assumption) | exact HB.out)))); rintro e w6 ⟨rfl, hb⟩; refine ⟨_, rfl, ?_⟩; have n0_ := Aside0.mk (below_step (by repeat (first | (with_reducible first | exact HB.out | apply below_alloc | apply pw_below_drewN | apply below_drew1) | exact HB.out)) hb); clear HB; have HB := n0_; clear n0_; (try clear hb); (try clear hb2); (try clear hk); (try clear hi)))
 (try simp only [Act.put, List.setIfInBounds_toArray, List.set_cons_zero, List.set_cons_succ])
 go_cut [] (fun wc => ∃ (kq : Nat), Aside0 (cleatlaw11_OperandRegs.j0 kq a1 a2 = some r) ∧ Aside0 (kq ≤ k) ∧ Aside0 (Below w.heap.size w wc))
 case first =>
  have H := HC5.out
  clear HC5
  by_cases c7 : t228 = 0
  ·rw [if_pos c7] at H
   have c7b0 : (t228 == 0) = true := beq_iff_eq.mpr c7
   have c7b1 : (t228 != 0) = false := bne_eq_false_iff_eq.mpr c7
   clear c7
   (first | rw [c7b0] | (simp only [i64_w, i32_w]; rw [c7b0]) | skip)
   replace H := Option.bind_eq_some_iff.mp H
   obtain ⟨⟨t229, t230⟩, A80, H⟩ := H
   replace H : (if t230 = 0 then (if t229.toList = a0.toList then (cleatlaw11_OperandRegs.j0 k a1 a2) else (some false)) else (some false)) = some r := H
   have A8 := Aside0.mk A80
   clear A80
   by_cases c9 : t230 = 0
   ·rw [if_pos c9] at H
    have c9b0 : (t230 == 0) = true := beq_iff_eq.mpr c9
    have c9b1 : (t230 != 0) = false := bne_eq_false_iff_eq.mpr c9
    clear c9
    by_cases c10 : t229.toList = a0.toList
    ·rw [if_pos c10] at H
     have c10b0 : (t229.toList == a0.toList) = true := beq_iff_eq.mpr c10
     have c10b1 : (t229.toList != a0.toList) = false := bne_eq_false_iff_eq.mpr c10
     clear c10
     have H' := Aside0.mk H
     clear H
     go_wp2_with (first | ((with_reducible refine gate_callee (f := 11) rfl ?_); refine goesL_ (some 28) rfl rfl Tryd.func11 (by kernel_rfl) rfl #[.int .i64 t226, .bool t227] rfl (by (try simp only [List.map_toArray, List.map_cons, List.map_nil]); first | done | rfl | (simp only [List.length_drop, List.length_take]; rfl)) ?_; (with_reducible refine (operand_RegText.calls k t226 t227 t229 t230 _ A8.out ?tabs).mono ?_); (case tabs => (first | exact HT | (refine tabs_of HT ?_; repeat (first | (with_reducible first | exact Below.refl _ _ | exact (Aside0.out (by assumption)) | exact (Drawn0.below (by assumption)) | apply below_alloc | apply pw_below_drewN | apply below_drew1 | assumption) | exact HB.out)))); rintro e w11 ⟨rfl, hb⟩; refine ⟨_, rfl, ?_⟩; have n0_ := Aside0.mk (below_step (by repeat (first | (with_reducible first | exact HB.out | apply below_alloc | apply pw_below_drewN | apply below_drew1) | exact HB.out)) hb); clear HB; have HB := n0_; clear n0_; (try clear hb); (try clear hb2); (try clear hk); (try clear hi)))
     go_meet
     case rel => exact ⟨_, H', ⟨by first | omega | exact Nat.le_refl _⟩, ⟨by repeat (first | (with_reducible first | exact HB.out | apply below_alloc | apply pw_below_drewN | apply below_drew1) | exact HB.out)⟩⟩
    ·rw [if_neg c10] at H
     have c10b0 : (t229.toList == a0.toList) = false := beq_eq_false_iff_ne.mpr c10
     have c10b1 : (t229.toList != a0.toList) = true := bne_iff_ne.mpr c10
     obtain rfl := Option.some.inj H
     go_wp2_with (first | ((with_reducible refine gate_callee (f := 11) rfl ?_); refine goesL_ (some 28) rfl rfl Tryd.func11 (by kernel_rfl) rfl #[.int .i64 t226, .bool t227] rfl (by (try simp only [List.map_toArray, List.map_cons, List.map_nil]); first | done | rfl | (simp only [List.length_drop, List.length_take]; rfl)) ?_; (with_reducible refine (operand_RegText.calls k t226 t227 t229 t230 _ A8.out ?tabs).mono ?_); (case tabs => (first | exact HT | (refine tabs_of HT ?_; repeat (first | (with_reducible first | exact Below.refl _ _ | exact (Aside0.out (by assumption)) | exact (Drawn0.below (by assumption)) | apply below_alloc | apply pw_below_drewN | apply below_drew1 | assumption) | exact HB.out)))); rintro e w12 ⟨rfl, hb⟩; refine ⟨_, rfl, ?_⟩; have n0_ := Aside0.mk (below_step (by repeat (first | (with_reducible first | exact HB.out | apply below_alloc | apply pw_below_drewN | apply below_drew1) | exact HB.out)) hb); clear HB; have HB := n0_; clear n0_; (try clear hb); (try clear hb2); (try clear hk); (try clear hi)))
     go_ret
     exact ⟨by first | rfl | (simp [errW_none, errW_some] <;> rfl) | (simp [*, errW_none, errW_some] <;> rfl), by repeat (first | (with_reducible first | exact HB.out | apply below_alloc | apply pw_below_drewN | apply below_drew1) | exact HB.out)⟩
   ·rw [if_neg c9] at H
    have c9b0 : (t230 == 0) = false := beq_eq_false_iff_ne.mpr c9
    have c9b1 : (t230 != 0) = true := bne_iff_ne.mpr c9
    obtain rfl := Option.some.inj H
    go_wp2_with (first | ((with_reducible refine gate_callee (f := 11) rfl ?_); refine goesL_ (some 28) rfl rfl Tryd.func11 (by kernel_rfl) rfl #[.int .i64 t226, .bool t227] rfl (by (try simp only [List.map_toArray, List.map_cons, List.map_nil]); first | done | rfl | (simp only [List.length_drop, List.length_take]; rfl)) ?_; (with_reducible refine (operand_RegText.calls k t226 t227 t229 t230 _ A8.out ?tabs).mono ?_); (case tabs => (first | exact HT | (refine tabs_of HT ?_; repeat (first | (with_reducible first | exact Below.refl _ _ | exact (Aside0.out (by assumption)) | exact (Drawn0.below (by assumption)) | apply below_alloc | apply pw_below_drewN | apply below_drew1 | assumption) | exact HB.out)))); rintro e w13 ⟨rfl, hb⟩; refine ⟨_, rfl, ?_⟩; have n0_ := Aside0.mk (below_step (by repeat (first | (with_reducible first | exact HB.out | apply below_alloc | apply pw_below_drewN | apply below_drew1) | exact HB.out)) hb); clear HB; have HB := n0_; clear n0_; (try clear hb); (try clear hb2); (try clear hk); (try clear hi)))
    go_ret
    exact ⟨by first | rfl | (simp [errW_none, errW_some] <;> rfl) | (simp [*, errW_none, errW_some] <;> rfl), by repeat (first | (with_reducible first | exact HB.out | apply below_alloc | apply pw_below_drewN | apply below_drew1) | exact HB.out)⟩
  ·rw [if_neg c7] at H
   have c7b0 : (t228 == 0) = false := beq_eq_false_iff_ne.mpr c7
   have c7b1 : (t228 != 0) = true := bne_iff_ne.mpr c7
   (first | rw [c7b0] | (simp only [i64_w, i32_w]; rw [c7b0]) | skip)
   have H' := Aside0.mk H
   clear H
   go_wp2
   go_meet
   case rel => exact ⟨_, H', ⟨by first | omega | exact Nat.le_refl _⟩, ⟨by repeat (first | (with_reducible first | exact HB.out | apply below_alloc | apply pw_below_drewN | apply below_drew1) | exact HB.out)⟩⟩
 case rest =>
  clear HC5
  try clear c1
  try clear p2
  try clear c5
  try clear c7
  try clear c7b0
  try clear c7b1
  try clear c9
  try clear c9b0
  try clear c9b1
  try clear c10
  try clear c10b0
  try clear c10b1
  try clear c11
  obtain ⟨kq, HA, HJ4, HB⟩ := hcut
  cases kq with
  | zero => exact absurd HA.out (by simp [cleatlaw11_OperandRegs.j0])
  | succ kj4 =>
   have H := HA.out
   clear HA
   simp only [cleatlaw11_OperandRegs.j0] at H
   replace H := Option.bind_eq_some_iff.mp H
   obtain ⟨⟨t231, t232⟩, A140, H⟩ := H
   replace H : (if t232 = 0 then ((operand_Reg.f t231).bind fun bt233 => ((cleatlaw11_given.f kj4).bind fun t236 => (if t236 = true then (if bt233.2.2 = 0 then (if bt233.1 = a1 then (some (bt233.2.1 == a2)) else (some false)) else (some false)) else (some false)))) else ((cleatlaw11_given.f kj4).bind fun t237 => (if t237 = true then (if t231.toList = ([] : List UInt8) then (if a1 < 0 then (some true) else (if a1 > 31 then (some true) else (if a2 = true then (some (a1 != 31)) else (some false)))) else (some false)) else (some false)))) = some r := H
   have A14 := Aside0.mk A140
   clear A140
   by_cases c15 : t232 = 0
   ·rw [if_pos c15] at H
    have c15b0 : (t232 == 0) = true := beq_iff_eq.mpr c15
    have c15b1 : (t232 != 0) = false := bne_eq_false_iff_eq.mpr c15
    clear c15
    replace H := Option.bind_eq_some_iff.mp H
    obtain ⟨⟨t233, t234, t235⟩, A160, H⟩ := H
    replace H : ((cleatlaw11_given.f kj4).bind fun t236 => (if t236 = true then (if t235 = 0 then (if t233 = a1 then (some (t234 == a2)) else (some false)) else (some false)) else (some false))) = some r := H
    have A16 := Aside0.mk A160
    clear A160
    replace H := Option.bind_eq_some_iff.mp H
    obtain ⟨t236, A170, H⟩ := H
    replace H : (if t236 = true then (if t235 = 0 then (if t233 = a1 then (some (t234 == a2)) else (some false)) else (some false)) else (some false)) = some r := H
    have A17 := Aside0.mk A170
    clear A170
    by_cases c18 : t236 = true
    ·subst c18
     rw [if_pos rfl] at H
     by_cases c19 : t235 = 0
     ·rw [if_pos c19] at H
      have c19b0 : (t235 == 0) = true := beq_iff_eq.mpr c19
      have c19b1 : (t235 != 0) = false := bne_eq_false_iff_eq.mpr c19
      clear c19
      by_cases c20 : t233 = a1
      ·rw [if_pos c20] at H
       have c20b0 : (t233 == a1) = true := beq_iff_eq.mpr c20
       have c20b1 : (t233 != a1) = false := bne_eq_false_iff_eq.mpr c20
       clear c20
       obtain rfl := Option.some.inj H
       go_wp2_with (first | ((with_reducible refine gate_callee (f := 11) rfl ?_); refine goesL_ (some 41) rfl rfl Tryd.func11 (by kernel_rfl) rfl #[.int .i64 a1, .bool a2] rfl (by (try simp only [List.map_toArray, List.map_cons, List.map_nil]); first | done | rfl | (simp only [List.length_drop, List.length_take]; rfl)) ?_; (with_reducible refine (operand_RegText.calls kj4 a1 a2 t231 t232 _ A14.out ?tabs).mono ?_); (case tabs => (first | exact HT | (refine tabs_of HT ?_; repeat (first | (with_reducible first | exact Below.refl _ _ | exact (Aside0.out (by assumption)) | exact (Drawn0.below (by assumption)) | apply below_alloc | apply pw_below_drewN | apply below_drew1 | assumption) | exact HB.out)))); rintro e w21 ⟨rfl, hb⟩; refine ⟨_, rfl, ?_⟩; have n0_ := Aside0.mk (below_step (by repeat (first | (with_reducible first | exact HB.out | apply below_alloc | apply pw_below_drewN | apply below_drew1) | exact HB.out)) hb); clear HB; have HB := n0_; clear n0_; (try clear hb); (try clear hb2); (try clear hk); (try clear hi)) | ((with_reducible refine gate_callee (f := 9) rfl ?_); refine goesL_ (some 68) rfl rfl Tryd.func9 (by kernel_rfl) rfl #[.string t231] rfl (by (try simp only [List.map_toArray, List.map_cons, List.map_nil]); first | done | rfl | (simp only [List.length_drop, List.length_take]; rfl)) ?_; (with_reducible refine (operand_Reg.calls t231 t233 t234 t235 _ A16.out ?tabs).mono ?_); (case tabs => (first | exact HT | (refine tabs_of HT ?_; repeat (first | (with_reducible first | exact Below.refl _ _ | exact (Aside0.out (by assumption)) | exact (Drawn0.below (by assumption)) | apply below_alloc | apply pw_below_drewN | apply below_drew1 | assumption) | exact HB.out)))); rintro e w22 ⟨rfl, hb⟩; refine ⟨_, rfl, ?_⟩; have n0_ := Aside0.mk (below_step (by repeat (first | (with_reducible first | exact HB.out | apply below_alloc | apply pw_below_drewN | apply below_drew1) | exact HB.out)) hb); clear HB; have HB := n0_; clear n0_; (try clear hb); (try clear hb2); (try clear hk); (try clear hi)) | ((with_reducible refine gate_callee (f := 7) rfl ?_); refine goesL_ (some 72) rfl rfl Tryd.func7 (by kernel_rfl) rfl #[] rfl (by (try simp only [List.map_toArray, List.map_cons, List.map_nil]); first | done | rfl | (simp only [List.length_drop, List.length_take]; rfl)) ?_; (with_reducible refine (cleatlaw11_given.calls kj4  true _ A17.out ?tabs).mono ?_); (case tabs => (first | exact HT | (refine tabs_of HT ?_; repeat (first | (with_reducible first | exact Below.refl _ _ | exact (Aside0.out (by assumption)) | exact (Drawn0.below (by assumption)) | apply below_alloc | apply pw_below_drewN | apply below_drew1 | assumption) | exact HB.out)))); rintro e w23 ⟨rfl, hb⟩; refine ⟨_, rfl, ?_⟩; have n0_ := Aside0.mk (below_step (by repeat (first | (with_reducible first | exact HB.out | apply below_alloc | apply pw_below_drewN | apply below_drew1) | exact HB.out)) hb); clear HB; have HB := n0_; clear n0_; (try clear hb); (try clear hb2); (try clear hk); (try clear hi)))
       go_ret
       exact ⟨by first | rfl | (simp [errW_none, errW_some] <;> rfl) | (simp [*, errW_none, errW_some] <;> rfl), by repeat (first | (with_reducible first | exact HB.out | apply below_alloc | apply pw_below_drewN | apply below_drew1) | exact HB.out)⟩
      ·rw [if_neg c20] at H
       have c20b0 : (t233 == a1) = false := beq_eq_false_iff_ne.mpr c20
       have c20b1 : (t233 != a1) = true := bne_iff_ne.mpr c20
       obtain rfl := Option.some.inj H
       go_wp2_with (first | ((with_reducible refine gate_callee (f := 11) rfl ?_); refine goesL_ (some 41) rfl rfl Tryd.func11 (by kernel_rfl) rfl #[.int .i64 a1, .bool a2] rfl (by (try simp only [List.map_toArray, List.map_cons, List.map_nil]); first | done | rfl | (simp only [List.length_drop, List.length_take]; rfl)) ?_; (with_reducible refine (operand_RegText.calls kj4 a1 a2 t231 t232 _ A14.out ?tabs).mono ?_); (case tabs => (first | exact HT | (refine tabs_of HT ?_; repeat (first | (with_reducible first | exact Below.refl _ _ | exact (Aside0.out (by assumption)) | exact (Drawn0.below (by assumption)) | apply below_alloc | apply pw_below_drewN | apply below_drew1 | assumption) | exact HB.out)))); rintro e w24 ⟨rfl, hb⟩; refine ⟨_, rfl, ?_⟩; have n0_ := Aside0.mk (below_step (by repeat (first | (with_reducible first | exact HB.out | apply below_alloc | apply pw_below_drewN | apply below_drew1) | exact HB.out)) hb); clear HB; have HB := n0_; clear n0_; (try clear hb); (try clear hb2); (try clear hk); (try clear hi)) | ((with_reducible refine gate_callee (f := 9) rfl ?_); refine goesL_ (some 68) rfl rfl Tryd.func9 (by kernel_rfl) rfl #[.string t231] rfl (by (try simp only [List.map_toArray, List.map_cons, List.map_nil]); first | done | rfl | (simp only [List.length_drop, List.length_take]; rfl)) ?_; (with_reducible refine (operand_Reg.calls t231 t233 t234 t235 _ A16.out ?tabs).mono ?_); (case tabs => (first | exact HT | (refine tabs_of HT ?_; repeat (first | (with_reducible first | exact Below.refl _ _ | exact (Aside0.out (by assumption)) | exact (Drawn0.below (by assumption)) | apply below_alloc | apply pw_below_drewN | apply below_drew1 | assumption) | exact HB.out)))); rintro e w25 ⟨rfl, hb⟩; refine ⟨_, rfl, ?_⟩; have n0_ := Aside0.mk (below_step (by repeat (first | (with_reducible first | exact HB.out | apply below_alloc | apply pw_below_drewN | apply below_drew1) | exact HB.out)) hb); clear HB; have HB := n0_; clear n0_; (try clear hb); (try clear hb2); (try clear hk); (try clear hi)) | ((with_reducible refine gate_callee (f := 7) rfl ?_); refine goesL_ (some 72) rfl rfl Tryd.func7 (by kernel_rfl) rfl #[] rfl (by (try simp only [List.map_toArray, List.map_cons, List.map_nil]); first | done | rfl | (simp only [List.length_drop, List.length_take]; rfl)) ?_; (with_reducible refine (cleatlaw11_given.calls kj4  true _ A17.out ?tabs).mono ?_); (case tabs => (first | exact HT | (refine tabs_of HT ?_; repeat (first | (with_reducible first | exact Below.refl _ _ | exact (Aside0.out (by assumption)) | exact (Drawn0.below (by assumption)) | apply below_alloc | apply pw_below_drewN | apply below_drew1 | assumption) | exact HB.out)))); rintro e w26 ⟨rfl, hb⟩; refine ⟨_, rfl, ?_⟩; have n0_ := Aside0.mk (below_step (by repeat (first | (with_reducible first | exact HB.out | apply below_alloc | apply pw_below_drewN | apply below_drew1) | exact HB.out)) hb); clear HB; have HB := n0_; clear n0_; (try clear hb); (try clear hb2); (try clear hk); (try clear hi)))
       go_ret
       exact ⟨by first | rfl | (simp [errW_none, errW_some] <;> rfl) | (simp [*, errW_none, errW_some] <;> rfl), by repeat (first | (with_reducible first | exact HB.out | apply below_alloc | apply pw_below_drewN | apply below_drew1) | exact HB.out)⟩
     ·rw [if_neg c19] at H
      have c19b0 : (t235 == 0) = false := beq_eq_false_iff_ne.mpr c19
      have c19b1 : (t235 != 0) = true := bne_iff_ne.mpr c19
      obtain rfl := Option.some.inj H
      go_wp2_with (first | ((with_reducible refine gate_callee (f := 11) rfl ?_); refine goesL_ (some 41) rfl rfl Tryd.func11 (by kernel_rfl) rfl #[.int .i64 a1, .bool a2] rfl (by (try simp only [List.map_toArray, List.map_cons, List.map_nil]); first | done | rfl | (simp only [List.length_drop, List.length_take]; rfl)) ?_; (with_reducible refine (operand_RegText.calls kj4 a1 a2 t231 t232 _ A14.out ?tabs).mono ?_); (case tabs => (first | exact HT | (refine tabs_of HT ?_; repeat (first | (with_reducible first | exact Below.refl _ _ | exact (Aside0.out (by assumption)) | exact (Drawn0.below (by assumption)) | apply below_alloc | apply pw_below_drewN | apply below_drew1 | assumption) | exact HB.out)))); rintro e w27 ⟨rfl, hb⟩; refine ⟨_, rfl, ?_⟩; have n0_ := Aside0.mk (below_step (by repeat (first | (with_reducible first | exact HB.out | apply below_alloc | apply pw_below_drewN | apply below_drew1) | exact HB.out)) hb); clear HB; have HB := n0_; clear n0_; (try clear hb); (try clear hb2); (try clear hk); (try clear hi)) | ((with_reducible refine gate_callee (f := 9) rfl ?_); refine goesL_ (some 68) rfl rfl Tryd.func9 (by kernel_rfl) rfl #[.string t231] rfl (by (try simp only [List.map_toArray, List.map_cons, List.map_nil]); first | done | rfl | (simp only [List.length_drop, List.length_take]; rfl)) ?_; (with_reducible refine (operand_Reg.calls t231 t233 t234 t235 _ A16.out ?tabs).mono ?_); (case tabs => (first | exact HT | (refine tabs_of HT ?_; repeat (first | (with_reducible first | exact Below.refl _ _ | exact (Aside0.out (by assumption)) | exact (Drawn0.below (by assumption)) | apply below_alloc | apply pw_below_drewN | apply below_drew1 | assumption) | exact HB.out)))); rintro e w28 ⟨rfl, hb⟩; refine ⟨_, rfl, ?_⟩; have n0_ := Aside0.mk (below_step (by repeat (first | (with_reducible first | exact HB.out | apply below_alloc | apply pw_below_drewN | apply below_drew1) | exact HB.out)) hb); clear HB; have HB := n0_; clear n0_; (try clear hb); (try clear hb2); (try clear hk); (try clear hi)) | ((with_reducible refine gate_callee (f := 7) rfl ?_); refine goesL_ (some 72) rfl rfl Tryd.func7 (by kernel_rfl) rfl #[] rfl (by (try simp only [List.map_toArray, List.map_cons, List.map_nil]); first | done | rfl | (simp only [List.length_drop, List.length_take]; rfl)) ?_; (with_reducible refine (cleatlaw11_given.calls kj4  true _ A17.out ?tabs).mono ?_); (case tabs => (first | exact HT | (refine tabs_of HT ?_; repeat (first | (with_reducible first | exact Below.refl _ _ | exact (Aside0.out (by assumption)) | exact (Drawn0.below (by assumption)) | apply below_alloc | apply pw_below_drewN | apply below_drew1 | assumption) | exact HB.out)))); rintro e w29 ⟨rfl, hb⟩; refine ⟨_, rfl, ?_⟩; have n0_ := Aside0.mk (below_step (by repeat (first | (with_reducible first | exact HB.out | apply below_alloc | apply pw_below_drewN | apply below_drew1) | exact HB.out)) hb); clear HB; have HB := n0_; clear n0_; (try clear hb); (try clear hb2); (try clear hk); (try clear hi)))
      go_ret
      exact ⟨by first | rfl | (simp [errW_none, errW_some] <;> rfl) | (simp [*, errW_none, errW_some] <;> rfl), by repeat (first | (with_reducible first | exact HB.out | apply below_alloc | apply pw_below_drewN | apply below_drew1) | exact HB.out)⟩
    ·replace c18 := Bool.eq_false_iff.mpr c18
     subst c18
     rw [if_neg (show ¬ (false = true) by decide)] at H
     obtain rfl := Option.some.inj H
     go_wp2_with (first | ((with_reducible refine gate_callee (f := 11) rfl ?_); refine goesL_ (some 41) rfl rfl Tryd.func11 (by kernel_rfl) rfl #[.int .i64 a1, .bool a2] rfl (by (try simp only [List.map_toArray, List.map_cons, List.map_nil]); first | done | rfl | (simp only [List.length_drop, List.length_take]; rfl)) ?_; (with_reducible refine (operand_RegText.calls kj4 a1 a2 t231 t232 _ A14.out ?tabs).mono ?_); (case tabs => (first | exact HT | (refine tabs_of HT ?_; repeat (first | (with_reducible first | exact Below.refl _ _ | exact (Aside0.out (by assumption)) | exact (Drawn0.below (by assumption)) | apply below_alloc | apply pw_below_drewN | apply below_drew1 | assumption) | exact HB.out)))); rintro e w30 ⟨rfl, hb⟩; refine ⟨_, rfl, ?_⟩; have n0_ := Aside0.mk (below_step (by repeat (first | (with_reducible first | exact HB.out | apply below_alloc | apply pw_below_drewN | apply below_drew1) | exact HB.out)) hb); clear HB; have HB := n0_; clear n0_; (try clear hb); (try clear hb2); (try clear hk); (try clear hi)) | ((with_reducible refine gate_callee (f := 9) rfl ?_); refine goesL_ (some 68) rfl rfl Tryd.func9 (by kernel_rfl) rfl #[.string t231] rfl (by (try simp only [List.map_toArray, List.map_cons, List.map_nil]); first | done | rfl | (simp only [List.length_drop, List.length_take]; rfl)) ?_; (with_reducible refine (operand_Reg.calls t231 t233 t234 t235 _ A16.out ?tabs).mono ?_); (case tabs => (first | exact HT | (refine tabs_of HT ?_; repeat (first | (with_reducible first | exact Below.refl _ _ | exact (Aside0.out (by assumption)) | exact (Drawn0.below (by assumption)) | apply below_alloc | apply pw_below_drewN | apply below_drew1 | assumption) | exact HB.out)))); rintro e w31 ⟨rfl, hb⟩; refine ⟨_, rfl, ?_⟩; have n0_ := Aside0.mk (below_step (by repeat (first | (with_reducible first | exact HB.out | apply below_alloc | apply pw_below_drewN | apply below_drew1) | exact HB.out)) hb); clear HB; have HB := n0_; clear n0_; (try clear hb); (try clear hb2); (try clear hk); (try clear hi)) | ((with_reducible refine gate_callee (f := 7) rfl ?_); refine goesL_ (some 72) rfl rfl Tryd.func7 (by kernel_rfl) rfl #[] rfl (by (try simp only [List.map_toArray, List.map_cons, List.map_nil]); first | done | rfl | (simp only [List.length_drop, List.length_take]; rfl)) ?_; (with_reducible refine (cleatlaw11_given.calls kj4  false _ A17.out ?tabs).mono ?_); (case tabs => (first | exact HT | (refine tabs_of HT ?_; repeat (first | (with_reducible first | exact Below.refl _ _ | exact (Aside0.out (by assumption)) | exact (Drawn0.below (by assumption)) | apply below_alloc | apply pw_below_drewN | apply below_drew1 | assumption) | exact HB.out)))); rintro e w32 ⟨rfl, hb⟩; refine ⟨_, rfl, ?_⟩; have n0_ := Aside0.mk (below_step (by repeat (first | (with_reducible first | exact HB.out | apply below_alloc | apply pw_below_drewN | apply below_drew1) | exact HB.out)) hb); clear HB; have HB := n0_; clear n0_; (try clear hb); (try clear hb2); (try clear hk); (try clear hi)))
     go_ret
     exact ⟨by first | rfl | (simp [errW_none, errW_some] <;> rfl) | (simp [*, errW_none, errW_some] <;> rfl), by repeat (first | (with_reducible first | exact HB.out | apply below_alloc | apply pw_below_drewN | apply below_drew1) | exact HB.out)⟩
   ·rw [if_neg c15] at H
    have c15b0 : (t232 == 0) = false := beq_eq_false_iff_ne.mpr c15
    have c15b1 : (t232 != 0) = true := bne_iff_ne.mpr c15
    replace H := Option.bind_eq_some_iff.mp H
    obtain ⟨t237, A330, H⟩ := H
    replace H : (if t237 = true then (if t231.toList = ([] : List UInt8) then (if a1 < 0 then (some true) else (if a1 > 31 then (some true) else (if a2 = true then (some (a1 != 31)) else (some false)))) else (some false)) else (some false)) = some r := H
    have A33 := Aside0.mk A330
    clear A330
    by_cases c34 : t237 = true
    ·subst c34
     rw [if_pos rfl] at H
     by_cases c35 : t231.toList = ([] : List UInt8)
     ·rw [if_pos c35] at H
      have c35b0 : (t231.toList == ([] : List UInt8)) = true := beq_iff_eq.mpr c35
      have c35b1 : (t231.toList != ([] : List UInt8)) = false := bne_eq_false_iff_eq.mpr c35
      clear c35
      by_cases c36 : a1 < 0
      ·rw [if_pos c36] at H
       have c36b0 : decide (a1 < 0) = true := decide_eq_true c36
       clear c36
       obtain rfl := Option.some.inj H
       go_wp2_with (first | ((with_reducible refine gate_callee (f := 11) rfl ?_); refine goesL_ (some 41) rfl rfl Tryd.func11 (by kernel_rfl) rfl #[.int .i64 a1, .bool a2] rfl (by (try simp only [List.map_toArray, List.map_cons, List.map_nil]); first | done | rfl | (simp only [List.length_drop, List.length_take]; rfl)) ?_; (with_reducible refine (operand_RegText.calls kj4 a1 a2 t231 t232 _ A14.out ?tabs).mono ?_); (case tabs => (first | exact HT | (refine tabs_of HT ?_; repeat (first | (with_reducible first | exact Below.refl _ _ | exact (Aside0.out (by assumption)) | exact (Drawn0.below (by assumption)) | apply below_alloc | apply pw_below_drewN | apply below_drew1 | assumption) | exact HB.out)))); rintro e w37 ⟨rfl, hb⟩; refine ⟨_, rfl, ?_⟩; have n0_ := Aside0.mk (below_step (by repeat (first | (with_reducible first | exact HB.out | apply below_alloc | apply pw_below_drewN | apply below_drew1) | exact HB.out)) hb); clear HB; have HB := n0_; clear n0_; (try clear hb); (try clear hb2); (try clear hk); (try clear hi)) | ((with_reducible refine gate_callee (f := 7) rfl ?_); refine goesL_ (some 46) rfl rfl Tryd.func7 (by kernel_rfl) rfl #[] rfl (by (try simp only [List.map_toArray, List.map_cons, List.map_nil]); first | done | rfl | (simp only [List.length_drop, List.length_take]; rfl)) ?_; (with_reducible refine (cleatlaw11_given.calls kj4  true _ A33.out ?tabs).mono ?_); (case tabs => (first | exact HT | (refine tabs_of HT ?_; repeat (first | (with_reducible first | exact Below.refl _ _ | exact (Aside0.out (by assumption)) | exact (Drawn0.below (by assumption)) | apply below_alloc | apply pw_below_drewN | apply below_drew1 | assumption) | exact HB.out)))); rintro e w38 ⟨rfl, hb⟩; refine ⟨_, rfl, ?_⟩; have n0_ := Aside0.mk (below_step (by repeat (first | (with_reducible first | exact HB.out | apply below_alloc | apply pw_below_drewN | apply below_drew1) | exact HB.out)) hb); clear HB; have HB := n0_; clear n0_; (try clear hb); (try clear hb2); (try clear hk); (try clear hi)))
       go_ret
       exact ⟨by first | rfl | (simp [errW_none, errW_some] <;> rfl) | (simp [*, errW_none, errW_some] <;> rfl), by repeat (first | (with_reducible first | exact HB.out | apply below_alloc | apply pw_below_drewN | apply below_drew1) | exact HB.out)⟩
      ·rw [if_neg c36] at H
       have c36b0 : decide (a1 < 0) = false := decide_eq_false c36
       clear c36
       by_cases c39 : a1 > 31
       ·rw [if_pos c39] at H
        have c39b0 : decide (31 < a1) = true := decide_eq_true c39
        clear c39
        obtain rfl := Option.some.inj H
        go_wp2_with (first | ((with_reducible refine gate_callee (f := 11) rfl ?_); refine goesL_ (some 41) rfl rfl Tryd.func11 (by kernel_rfl) rfl #[.int .i64 a1, .bool a2] rfl (by (try simp only [List.map_toArray, List.map_cons, List.map_nil]); first | done | rfl | (simp only [List.length_drop, List.length_take]; rfl)) ?_; (with_reducible refine (operand_RegText.calls kj4 a1 a2 t231 t232 _ A14.out ?tabs).mono ?_); (case tabs => (first | exact HT | (refine tabs_of HT ?_; repeat (first | (with_reducible first | exact Below.refl _ _ | exact (Aside0.out (by assumption)) | exact (Drawn0.below (by assumption)) | apply below_alloc | apply pw_below_drewN | apply below_drew1 | assumption) | exact HB.out)))); rintro e w40 ⟨rfl, hb⟩; refine ⟨_, rfl, ?_⟩; have n0_ := Aside0.mk (below_step (by repeat (first | (with_reducible first | exact HB.out | apply below_alloc | apply pw_below_drewN | apply below_drew1) | exact HB.out)) hb); clear HB; have HB := n0_; clear n0_; (try clear hb); (try clear hb2); (try clear hk); (try clear hi)) | ((with_reducible refine gate_callee (f := 7) rfl ?_); refine goesL_ (some 46) rfl rfl Tryd.func7 (by kernel_rfl) rfl #[] rfl (by (try simp only [List.map_toArray, List.map_cons, List.map_nil]); first | done | rfl | (simp only [List.length_drop, List.length_take]; rfl)) ?_; (with_reducible refine (cleatlaw11_given.calls kj4  true _ A33.out ?tabs).mono ?_); (case tabs => (first | exact HT | (refine tabs_of HT ?_; repeat (first | (with_reducible first | exact Below.refl _ _ | exact (Aside0.out (by assumption)) | exact (Drawn0.below (by assumption)) | apply below_alloc | apply pw_below_drewN | apply below_drew1 | assumption) | exact HB.out)))); rintro e w41 ⟨rfl, hb⟩; refine ⟨_, rfl, ?_⟩; have n0_ := Aside0.mk (below_step (by repeat (first | (with_reducible first | exact HB.out | apply below_alloc | apply pw_below_drewN | apply below_drew1) | exact HB.out)) hb); clear HB; have HB := n0_; clear n0_; (try clear hb); (try clear hb2); (try clear hk); (try clear hi)))
        go_ret
        exact ⟨by first | rfl | (simp [errW_none, errW_some] <;> rfl) | (simp [*, errW_none, errW_some] <;> rfl), by repeat (first | (with_reducible first | exact HB.out | apply below_alloc | apply pw_below_drewN | apply below_drew1) | exact HB.out)⟩
       ·rw [if_neg c39] at H
        have c39b0 : decide (31 < a1) = false := decide_eq_false c39
        clear c39
        by_cases c42 : a2 = true
        ·subst c42
         rw [if_pos rfl] at H
         obtain rfl := Option.some.inj H
         go_wp2_with (first | ((with_reducible refine gate_callee (f := 11) rfl ?_); refine goesL_ (some 41) rfl rfl Tryd.func11 (by kernel_rfl) rfl #[.int .i64 a1, .bool true] rfl (by (try simp only [List.map_toArray, List.map_cons, List.map_nil]); first | done | rfl | (simp only [List.length_drop, List.length_take]; rfl)) ?_; (with_reducible refine (operand_RegText.calls kj4 a1 true t231 t232 _ A14.out ?tabs).mono ?_); (case tabs => (first | exact HT | (refine tabs_of HT ?_; repeat (first | (with_reducible first | exact Below.refl _ _ | exact (Aside0.out (by assumption)) | exact (Drawn0.below (by assumption)) | apply below_alloc | apply pw_below_drewN | apply below_drew1 | assumption) | exact HB.out)))); rintro e w43 ⟨rfl, hb⟩; refine ⟨_, rfl, ?_⟩; have n0_ := Aside0.mk (below_step (by repeat (first | (with_reducible first | exact HB.out | apply below_alloc | apply pw_below_drewN | apply below_drew1) | exact HB.out)) hb); clear HB; have HB := n0_; clear n0_; (try clear hb); (try clear hb2); (try clear hk); (try clear hi)) | ((with_reducible refine gate_callee (f := 7) rfl ?_); refine goesL_ (some 46) rfl rfl Tryd.func7 (by kernel_rfl) rfl #[] rfl (by (try simp only [List.map_toArray, List.map_cons, List.map_nil]); first | done | rfl | (simp only [List.length_drop, List.length_take]; rfl)) ?_; (with_reducible refine (cleatlaw11_given.calls kj4  true _ A33.out ?tabs).mono ?_); (case tabs => (first | exact HT | (refine tabs_of HT ?_; repeat (first | (with_reducible first | exact Below.refl _ _ | exact (Aside0.out (by assumption)) | exact (Drawn0.below (by assumption)) | apply below_alloc | apply pw_below_drewN | apply below_drew1 | assumption) | exact HB.out)))); rintro e w44 ⟨rfl, hb⟩; refine ⟨_, rfl, ?_⟩; have n0_ := Aside0.mk (below_step (by repeat (first | (with_reducible first | exact HB.out | apply below_alloc | apply pw_below_drewN | apply below_drew1) | exact HB.out)) hb); clear HB; have HB := n0_; clear n0_; (try clear hb); (try clear hb2); (try clear hk); (try clear hi)))
         go_ret
         exact ⟨by first | rfl | (simp [errW_none, errW_some] <;> rfl) | (simp [*, errW_none, errW_some] <;> rfl), by repeat (first | (with_reducible first | exact HB.out | apply below_alloc | apply pw_below_drewN | apply below_drew1) | exact HB.out)⟩
        ·replace c42 := Bool.eq_false_iff.mpr c42
         subst c42
         rw [if_neg (show ¬ (false = true) by decide)] at H
         obtain rfl := Option.some.inj H
         go_wp2_with (first | ((with_reducible refine gate_callee (f := 11) rfl ?_); refine goesL_ (some 41) rfl rfl Tryd.func11 (by kernel_rfl) rfl #[.int .i64 a1, .bool false] rfl (by (try simp only [List.map_toArray, List.map_cons, List.map_nil]); first | done | rfl | (simp only [List.length_drop, List.length_take]; rfl)) ?_; (with_reducible refine (operand_RegText.calls kj4 a1 false t231 t232 _ A14.out ?tabs).mono ?_); (case tabs => (first | exact HT | (refine tabs_of HT ?_; repeat (first | (with_reducible first | exact Below.refl _ _ | exact (Aside0.out (by assumption)) | exact (Drawn0.below (by assumption)) | apply below_alloc | apply pw_below_drewN | apply below_drew1 | assumption) | exact HB.out)))); rintro e w45 ⟨rfl, hb⟩; refine ⟨_, rfl, ?_⟩; have n0_ := Aside0.mk (below_step (by repeat (first | (with_reducible first | exact HB.out | apply below_alloc | apply pw_below_drewN | apply below_drew1) | exact HB.out)) hb); clear HB; have HB := n0_; clear n0_; (try clear hb); (try clear hb2); (try clear hk); (try clear hi)) | ((with_reducible refine gate_callee (f := 7) rfl ?_); refine goesL_ (some 46) rfl rfl Tryd.func7 (by kernel_rfl) rfl #[] rfl (by (try simp only [List.map_toArray, List.map_cons, List.map_nil]); first | done | rfl | (simp only [List.length_drop, List.length_take]; rfl)) ?_; (with_reducible refine (cleatlaw11_given.calls kj4  true _ A33.out ?tabs).mono ?_); (case tabs => (first | exact HT | (refine tabs_of HT ?_; repeat (first | (with_reducible first | exact Below.refl _ _ | exact (Aside0.out (by assumption)) | exact (Drawn0.below (by assumption)) | apply below_alloc | apply pw_below_drewN | apply below_drew1 | assumption) | exact HB.out)))); rintro e w46 ⟨rfl, hb⟩; refine ⟨_, rfl, ?_⟩; have n0_ := Aside0.mk (below_step (by repeat (first | (with_reducible first | exact HB.out | apply below_alloc | apply pw_below_drewN | apply below_drew1) | exact HB.out)) hb); clear HB; have HB := n0_; clear n0_; (try clear hb); (try clear hb2); (try clear hk); (try clear hi)))
         go_ret
         exact ⟨by first | rfl | (simp [errW_none, errW_some] <;> rfl) | (simp [*, errW_none, errW_some] <;> rfl), by repeat (first | (with_reducible first | exact HB.out | apply below_alloc | apply pw_below_drewN | apply below_drew1) | exact HB.out)⟩
     ·rw [if_neg c35] at H
      have c35b0 : (t231.toList == ([] : List UInt8)) = false := beq_eq_false_iff_ne.mpr c35
      have c35b1 : (t231.toList != ([] : List UInt8)) = true := bne_iff_ne.mpr c35
      obtain rfl := Option.some.inj H
      go_wp2_with (first | ((with_reducible refine gate_callee (f := 11) rfl ?_); refine goesL_ (some 41) rfl rfl Tryd.func11 (by kernel_rfl) rfl #[.int .i64 a1, .bool a2] rfl (by (try simp only [List.map_toArray, List.map_cons, List.map_nil]); first | done | rfl | (simp only [List.length_drop, List.length_take]; rfl)) ?_; (with_reducible refine (operand_RegText.calls kj4 a1 a2 t231 t232 _ A14.out ?tabs).mono ?_); (case tabs => (first | exact HT | (refine tabs_of HT ?_; repeat (first | (with_reducible first | exact Below.refl _ _ | exact (Aside0.out (by assumption)) | exact (Drawn0.below (by assumption)) | apply below_alloc | apply pw_below_drewN | apply below_drew1 | assumption) | exact HB.out)))); rintro e w47 ⟨rfl, hb⟩; refine ⟨_, rfl, ?_⟩; have n0_ := Aside0.mk (below_step (by repeat (first | (with_reducible first | exact HB.out | apply below_alloc | apply pw_below_drewN | apply below_drew1) | exact HB.out)) hb); clear HB; have HB := n0_; clear n0_; (try clear hb); (try clear hb2); (try clear hk); (try clear hi)) | ((with_reducible refine gate_callee (f := 7) rfl ?_); refine goesL_ (some 46) rfl rfl Tryd.func7 (by kernel_rfl) rfl #[] rfl (by (try simp only [List.map_toArray, List.map_cons, List.map_nil]); first | done | rfl | (simp only [List.length_drop, List.length_take]; rfl)) ?_; (with_reducible refine (cleatlaw11_given.calls kj4  true _ A33.out ?tabs).mono ?_); (case tabs => (first | exact HT | (refine tabs_of HT ?_; repeat (first | (with_reducible first | exact Below.refl _ _ | exact (Aside0.out (by assumption)) | exact (Drawn0.below (by assumption)) | apply below_alloc | apply pw_below_drewN | apply below_drew1 | assumption) | exact HB.out)))); rintro e w48 ⟨rfl, hb⟩; refine ⟨_, rfl, ?_⟩; have n0_ := Aside0.mk (below_step (by repeat (first | (with_reducible first | exact HB.out | apply below_alloc | apply pw_below_drewN | apply below_drew1) | exact HB.out)) hb); clear HB; have HB := n0_; clear n0_; (try clear hb); (try clear hb2); (try clear hk); (try clear hi)))
      go_ret
      exact ⟨by first | rfl | (simp [errW_none, errW_some] <;> rfl) | (simp [*, errW_none, errW_some] <;> rfl), by repeat (first | (with_reducible first | exact HB.out | apply below_alloc | apply pw_below_drewN | apply below_drew1) | exact HB.out)⟩
    ·replace c34 := Bool.eq_false_iff.mpr c34
     subst c34
     rw [if_neg (show ¬ (false = true) by decide)] at H
     obtain rfl := Option.some.inj H
     go_wp2_with (first | ((with_reducible refine gate_callee (f := 11) rfl ?_); refine goesL_ (some 41) rfl rfl Tryd.func11 (by kernel_rfl) rfl #[.int .i64 a1, .bool a2] rfl (by (try simp only [List.map_toArray, List.map_cons, List.map_nil]); first | done | rfl | (simp only [List.length_drop, List.length_take]; rfl)) ?_; (with_reducible refine (operand_RegText.calls kj4 a1 a2 t231 t232 _ A14.out ?tabs).mono ?_); (case tabs => (first | exact HT | (refine tabs_of HT ?_; repeat (first | (with_reducible first | exact Below.refl _ _ | exact (Aside0.out (by assumption)) | exact (Drawn0.below (by assumption)) | apply below_alloc | apply pw_below_drewN | apply below_drew1 | assumption) | exact HB.out)))); rintro e w49 ⟨rfl, hb⟩; refine ⟨_, rfl, ?_⟩; have n0_ := Aside0.mk (below_step (by repeat (first | (with_reducible first | exact HB.out | apply below_alloc | apply pw_below_drewN | apply below_drew1) | exact HB.out)) hb); clear HB; have HB := n0_; clear n0_; (try clear hb); (try clear hb2); (try clear hk); (try clear hi)) | ((with_reducible refine gate_callee (f := 7) rfl ?_); refine goesL_ (some 46) rfl rfl Tryd.func7 (by kernel_rfl) rfl #[] rfl (by (try simp only [List.map_toArray, List.map_cons, List.map_nil]); first | done | rfl | (simp only [List.length_drop, List.length_take]; rfl)) ?_; (with_reducible refine (cleatlaw11_given.calls kj4  false _ A33.out ?tabs).mono ?_); (case tabs => (first | exact HT | (refine tabs_of HT ?_; repeat (first | (with_reducible first | exact Below.refl _ _ | exact (Aside0.out (by assumption)) | exact (Drawn0.below (by assumption)) | apply below_alloc | apply pw_below_drewN | apply below_drew1 | assumption) | exact HB.out)))); rintro e w50 ⟨rfl, hb⟩; refine ⟨_, rfl, ?_⟩; have n0_ := Aside0.mk (below_step (by repeat (first | (with_reducible first | exact HB.out | apply below_alloc | apply pw_below_drewN | apply below_drew1) | exact HB.out)) hb); clear HB; have HB := n0_; clear n0_; (try clear hb); (try clear hb2); (try clear hk); (try clear hi)))
     go_ret
     exact ⟨by first | rfl | (simp [errW_none, errW_some] <;> rfl) | (simp [*, errW_none, errW_some] <;> rfl), by repeat (first | (with_reducible first | exact HB.out | apply below_alloc | apply pw_below_drewN | apply below_drew1) | exact HB.out)⟩


/-! ### cleatref10_write: function 40 -/
def cleatref10_write.l0 : Nat → Int → Int → ByteArray → ByteArray → Option (ByteArray)
 | 0, _, _, _, _ => none
 | k + 1, x0, x1, x5, x6 => if x0 > 0 then (if x1 = 0 then (none) else (if 0 ≤ (Int.tmod x0 x1) then (if (Int.tmod x0 x1) ≤ (IntKind.u64.wrap ((Int.tmod x0 x1) + 1)) then (if (IntKind.u64.wrap ((Int.tmod x0 x1) + 1)) ≤ (x5.size : Int) then (if (x5.extract ((Int.tmod x0 x1) : Int).toNat ((IntKind.u64.wrap ((Int.tmod x0 x1) + 1)) : Int).toNat).size + x6.size ≤ 9223372036854775807 then (cleatref10_write.l0 k (IntKind.u64.wrap (Int.tdiv x0 x1)) x1 x5 ((x5.extract ((Int.tmod x0 x1) : Int).toNat ((IntKind.u64.wrap ((Int.tmod x0 x1) + 1)) : Int).toNat) ++ x6)) else (none)) else (none)) else (none)) else (none))) else (if x6.toList = ([] : List UInt8) then (if x1 = 0 then (none) else (if 0 ≤ (Int.tmod x0 x1) then (if (Int.tmod x0 x1) ≤ (IntKind.u64.wrap ((Int.tmod x0 x1) + 1)) then (if (IntKind.u64.wrap ((Int.tmod x0 x1) + 1)) ≤ (x5.size : Int) then (if (x5.extract ((Int.tmod x0 x1) : Int).toNat ((IntKind.u64.wrap ((Int.tmod x0 x1) + 1)) : Int).toNat).size + x6.size ≤ 9223372036854775807 then (cleatref10_write.l0 k (IntKind.u64.wrap (Int.tdiv x0 x1)) x1 x5 ((x5.extract ((Int.tmod x0 x1) : Int).toNat ((IntKind.u64.wrap ((Int.tmod x0 x1) + 1)) : Int).toNat) ++ x6)) else (none)) else (none)) else (none)) else (none))) else (some x6))
def cleatref10_write.f (k : Nat) (a0 : Int) (a1 : Int) : Option (ByteArray) := cleatref10_write.l0 k a0 a1 (⟨#[48, 49, 50, 51, 52, 53, 54, 55, 56, 57, 97, 98, 99, 100, 101, 102]⟩ : ByteArray) (⟨#[]⟩ : ByteArray)
theorem cleatref10_write.mono_l : ∀ k, (∀ y0 y1 y2 y3, LeO (cleatref10_write.l0 k y0 y1 y2 y3) (cleatref10_write.l0 (k + 1) y0 y1 y2 y3))
 | 0 => fun _ _ _ _ r h => by simp [cleatref10_write.l0] at h
 | k + 1 => by
  have ih0 := cleatref10_write.mono_l k
  ·intro y0 y1 y2 y3
   unfold cleatref10_write.l0
   repeat' first
   | (with_reducible exact ih0 _ _ _ _)
   | (with_reducible exact LeO.refl _)
   | (with_reducible exact LeO.none _)
   | (with_reducible refine LeO.ite ?_ ?_)
   | (with_reducible refine LeO.bind ?_ (fun _ => ?_))
   | exact ih0 _ _ _ _
   | exact LeO.none _
   | refine LeO.ite ?_ ?_
   | refine LeO.bind ?_ (fun _ => ?_)
theorem cleatref10_write.mono : ∀ a0 a1 k, LeO (cleatref10_write.f k a0 a1) (cleatref10_write.f (k + 1) a0 a1) := by
 intro a0 a1 k
 have ih0 := cleatref10_write.mono_l k
 unfold cleatref10_write.f
 repeat' first
   | (with_reducible exact ih0 _ _ _ _)
   | (with_reducible exact LeO.refl _)
   | (with_reducible exact LeO.none _)
   | (with_reducible refine LeO.ite ?_ ?_)
   | (with_reducible refine LeO.bind ?_ (fun _ => ?_))
   | exact ih0 _ _ _ _
   | exact LeO.none _
   | refine LeO.ite ?_ ?_
   | refine LeO.bind ?_ (fun _ => ?_)
set_option maxHeartbeats 8000000 in
set_option maxRecDepth 100000 in
theorem cleatref10_write.calls (k : Nat) (a0 : Int) (a1 : Int) (r : ByteArray) (w : World) (h : cleatref10_write.f k a0 a1 = some r) :
  Calls Tryd.prog 40 #[.int .u64 a0, .int .u64 a1] w fun e w' => e = .returned (.string r) ∧ Drawn0 w w' := by
 have H : (cleatref10_write.l0 k a0 a1 (⟨#[48, 49, 50, 51, 52, 53, 54, 55, 56, 57, 97, 98, 99, 100, 101, 102]⟩ : ByteArray) (⟨#[]⟩ : ByteArray)) = some r := h
 clear h
 have H' := Aside0.mk H
 clear H
 go_enter Tryd.func40, Tryd.ntmps40
 go_wp2
 go_loopg [0, 6] k (fun kq v0 v6 w' => ∃ (x0_1 : Int) (x6_1 : ByteArray), v0 = .int .u64 x0_1 ∧ v6 = .string x6_1 ∧ Aside0 (cleatref10_write.l0 kq x0_1 a1 (⟨#[48, 49, 50, 51, 52, 53, 54, 55, 56, 57, 97, 98, 99, 100, 101, 102]⟩ : ByteArray) x6_1 = some r) ∧ Aside0 (kq ≤ k) ∧ Drawn0 w w')
 case atStart => exact ⟨(a0), ((⟨#[]⟩ : ByteArray)), (by first | rfl | (simp; done) | (simp [*]; done)), (by first | rfl | (simp; done) | (simp [*]; done)), H', ⟨Nat.le_refl _⟩, by repeat (first | exact Drawn0.refl _ | apply Drawn0.step)⟩
 case round =>
  clear H'
  try clear p2
  obtain ⟨x0_1, x6_1, rfl, rfl, HA, HK1, ⟨m1, rfl⟩⟩ := hrel
  cases gk with
  | zero => exact absurd HA.out (by simp [cleatref10_write.l0])
  | succ k1 =>
   have H := HA.out
   clear HA
   simp only [cleatref10_write.l0] at H
   by_cases c3 : x0_1 > 0
   ·rw [if_pos c3] at H
    have c3b0 : decide (0 < x0_1) = true := decide_eq_true c3
    clear c3
    by_cases c4 : a1 = 0
    ·rw [if_pos c4] at H
     exact absurd H (by simp)
    ·rw [if_neg c4] at H
     have c4b0 : (a1 == 0) = false := beq_eq_false_iff_ne.mpr c4
     have c4b1 : (a1 != 0) = true := bne_iff_ne.mpr c4
     obtain ⟨ji5, hji5⟩ : ∃ j_ : Int, (Int.tmod x0_1 a1) = j_ := ⟨_, rfl⟩
     replace H : (if 0 ≤ (ji5) then (if (ji5) ≤ (IntKind.u64.wrap ((ji5) + 1)) then (if (IntKind.u64.wrap ((ji5) + 1)) ≤ ((⟨#[48, 49, 50, 51, 52, 53, 54, 55, 56, 57, 97, 98, 99, 100, 101, 102]⟩ : ByteArray).size : Int) then (if ((⟨#[48, 49, 50, 51, 52, 53, 54, 55, 56, 57, 97, 98, 99, 100, 101, 102]⟩ : ByteArray).extract ((ji5) : Int).toNat ((IntKind.u64.wrap ((ji5) + 1)) : Int).toNat).size + x6_1.size ≤ 9223372036854775807 then (cleatref10_write.l0 k1 (IntKind.u64.wrap (Int.tdiv x0_1 a1)) a1 (⟨#[48, 49, 50, 51, 52, 53, 54, 55, 56, 57, 97, 98, 99, 100, 101, 102]⟩ : ByteArray) (((⟨#[48, 49, 50, 51, 52, 53, 54, 55, 56, 57, 97, 98, 99, 100, 101, 102]⟩ : ByteArray).extract ((ji5) : Int).toNat ((IntKind.u64.wrap ((ji5) + 1)) : Int).toNat) ++ x6_1)) else (none)) else (none)) else (none)) else (none)) = some r := by first | (rw [hji5] at H; exact H) | (simp only [hji5] at H ⊢; exact H)
     by_cases c6 : 0 ≤ (ji5)
     ·rw [if_pos c6] at H
      have c6b0 := eq_true c6
      have c6b1 : decide (0 ≤ (ji5)) = true := decide_eq_true c6
      clear c6
      by_cases c7 : (ji5) ≤ (IntKind.u64.wrap ((ji5) + 1))
      ·rw [if_pos c7] at H
       have c7b0 := eq_true c7
       have c7b1 : decide ((ji5) ≤ (IntKind.u64.wrap ((ji5) + 1))) = true := decide_eq_true c7
       by_cases c8 : (IntKind.u64.wrap ((ji5) + 1)) ≤ ((⟨#[48, 49, 50, 51, 52, 53, 54, 55, 56, 57, 97, 98, 99, 100, 101, 102]⟩ : ByteArray).size : Int)
       ·rw [if_pos c8] at H
        have c8b0 := eq_true c8
        have c8b1 : decide ((IntKind.u64.wrap ((ji5) + 1)) ≤ ((⟨#[48, 49, 50, 51, 52, 53, 54, 55, 56, 57, 97, 98, 99, 100, 101, 102]⟩ : ByteArray).size : Int)) = true := decide_eq_true c8
        have c8b2 : IntKind.u64.wrap (ji5 + 1) ≤ (16 : Int) := c8
        have c8b3 : (0 : Int) ≤ IntKind.u64.wrap (ji5 + 1) := Int.le_trans (of_decide_eq_true (p := 0 ≤ ji5) (by assumption)) (by assumption : ji5 ≤ IntKind.u64.wrap (ji5 + 1))
        by_cases c9 : ((⟨#[48, 49, 50, 51, 52, 53, 54, 55, 56, 57, 97, 98, 99, 100, 101, 102]⟩ : ByteArray).extract ((ji5) : Int).toNat ((IntKind.u64.wrap ((ji5) + 1)) : Int).toNat).size + x6_1.size ≤ 9223372036854775807
        ·rw [if_pos c9] at H
         have c9b0 := eq_true c9
         have c9b1 : decide (((⟨#[48, 49, 50, 51, 52, 53, 54, 55, 56, 57, 97, 98, 99, 100, 101, 102]⟩ : ByteArray).extract ((ji5) : Int).toNat ((IntKind.u64.wrap ((ji5) + 1)) : Int).toNat).size + x6_1.size ≤ 9223372036854775807) = true := decide_eq_true c9
         try have c9b2 : (9223372036854775807 < ((⟨#[48, 49, 50, 51, 52, 53, 54, 55, 56, 57, 97, 98, 99, 100, 101, 102]⟩ : ByteArray).extract ((ji5) : Int).toNat ((IntKind.u64.wrap ((ji5) + 1)) : Int).toNat).size + x6_1.size) = False := eq_false (Nat.not_lt.2 c9)
         have H' := Aside0.mk H
         clear H
         go_wp2
         go_roundg k1
         case measure => have := HK1.out; omega
         case rel => exact ⟨(IntKind.u64.wrap (Int.tdiv x0_1 a1)), (((⟨#[48, 49, 50, 51, 52, 53, 54, 55, 56, 57, 97, 98, 99, 100, 101, 102]⟩ : ByteArray).extract ((ji5) : Int).toNat ((IntKind.u64.wrap ((ji5) + 1)) : Int).toNat) ++ x6_1), (by first | rfl | (simp; done) | (simp [*]; done)), (by first | rfl | (simp; done) | (simp only [← hji5] <;> (first | rfl | simp)) | (simp [*]; done)), H', ⟨by have := HK1.out; omega⟩, by repeat (first | exact Drawn0.refl _ | apply Drawn0.step)⟩
        ·rw [if_neg c9] at H
         exact absurd H (by simp)
       ·rw [if_neg c8] at H
        exact absurd H (by simp)
      ·rw [if_neg c7] at H
       exact absurd H (by simp)
     ·rw [if_neg c6] at H
      exact absurd H (by simp)
   ·rw [if_neg c3] at H
    have c3b0 : decide (0 < x0_1) = false := decide_eq_false c3
    clear c3
    by_cases c10 : x6_1.toList = ([] : List UInt8)
    ·rw [if_pos c10] at H
     have c10b0 : (x6_1.toList == ([] : List UInt8)) = true := beq_iff_eq.mpr c10
     have c10b1 : (x6_1.toList != ([] : List UInt8)) = false := bne_eq_false_iff_eq.mpr c10
     clear c10
     by_cases c11 : a1 = 0
     ·rw [if_pos c11] at H
      exact absurd H (by simp)
     ·rw [if_neg c11] at H
      have c11b0 : (a1 == 0) = false := beq_eq_false_iff_ne.mpr c11
      have c11b1 : (a1 != 0) = true := bne_iff_ne.mpr c11
      obtain ⟨ji12, hji12⟩ : ∃ j_ : Int, (Int.tmod x0_1 a1) = j_ := ⟨_, rfl⟩
      replace H : (if 0 ≤ (ji12) then (if (ji12) ≤ (IntKind.u64.wrap ((ji12) + 1)) then (if (IntKind.u64.wrap ((ji12) + 1)) ≤ ((⟨#[48, 49, 50, 51, 52, 53, 54, 55, 56, 57, 97, 98, 99, 100, 101, 102]⟩ : ByteArray).size : Int) then (if ((⟨#[48, 49, 50, 51, 52, 53, 54, 55, 56, 57, 97, 98, 99, 100, 101, 102]⟩ : ByteArray).extract ((ji12) : Int).toNat ((IntKind.u64.wrap ((ji12) + 1)) : Int).toNat).size + x6_1.size ≤ 9223372036854775807 then (cleatref10_write.l0 k1 (IntKind.u64.wrap (Int.tdiv x0_1 a1)) a1 (⟨#[48, 49, 50, 51, 52, 53, 54, 55, 56, 57, 97, 98, 99, 100, 101, 102]⟩ : ByteArray) (((⟨#[48, 49, 50, 51, 52, 53, 54, 55, 56, 57, 97, 98, 99, 100, 101, 102]⟩ : ByteArray).extract ((ji12) : Int).toNat ((IntKind.u64.wrap ((ji12) + 1)) : Int).toNat) ++ x6_1)) else (none)) else (none)) else (none)) else (none)) = some r := by first | (rw [hji12] at H; exact H) | (simp only [hji12] at H ⊢; exact H)
      by_cases c13 : 0 ≤ (ji12)
      ·rw [if_pos c13] at H
       have c13b0 := eq_true c13
       have c13b1 : decide (0 ≤ (ji12)) = true := decide_eq_true c13
       clear c13
       by_cases c14 : (ji12) ≤ (IntKind.u64.wrap ((ji12) + 1))
       ·rw [if_pos c14] at H
        have c14b0 := eq_true c14
        have c14b1 : decide ((ji12) ≤ (IntKind.u64.wrap ((ji12) + 1))) = true := decide_eq_true c14
        by_cases c15 : (IntKind.u64.wrap ((ji12) + 1)) ≤ ((⟨#[48, 49, 50, 51, 52, 53, 54, 55, 56, 57, 97, 98, 99, 100, 101, 102]⟩ : ByteArray).size : Int)
        ·rw [if_pos c15] at H
         have c15b0 := eq_true c15
         have c15b1 : decide ((IntKind.u64.wrap ((ji12) + 1)) ≤ ((⟨#[48, 49, 50, 51, 52, 53, 54, 55, 56, 57, 97, 98, 99, 100, 101, 102]⟩ : ByteArray).size : Int)) = true := decide_eq_true c15
         have c15b2 : IntKind.u64.wrap (ji12 + 1) ≤ (16 : Int) := c15
         have c15b3 : (0 : Int) ≤ IntKind.u64.wrap (ji12 + 1) := Int.le_trans (of_decide_eq_true (p := 0 ≤ ji12) (by assumption)) (by assumption : ji12 ≤ IntKind.u64.wrap (ji12 + 1))
         by_cases c16 : ((⟨#[48, 49, 50, 51, 52, 53, 54, 55, 56, 57, 97, 98, 99, 100, 101, 102]⟩ : ByteArray).extract ((ji12) : Int).toNat ((IntKind.u64.wrap ((ji12) + 1)) : Int).toNat).size + x6_1.size ≤ 9223372036854775807
         ·rw [if_pos c16] at H
          have c16b0 := eq_true c16
          have c16b1 : decide (((⟨#[48, 49, 50, 51, 52, 53, 54, 55, 56, 57, 97, 98, 99, 100, 101, 102]⟩ : ByteArray).extract ((ji12) : Int).toNat ((IntKind.u64.wrap ((ji12) + 1)) : Int).toNat).size + x6_1.size ≤ 9223372036854775807) = true := decide_eq_true c16
          try have c16b2 : (9223372036854775807 < ((⟨#[48, 49, 50, 51, 52, 53, 54, 55, 56, 57, 97, 98, 99, 100, 101, 102]⟩ : ByteArray).extract ((ji12) : Int).toNat ((IntKind.u64.wrap ((ji12) + 1)) : Int).toNat).size + x6_1.size) = False := eq_false (Nat.not_lt.2 c16)
          have H' := Aside0.mk H
          clear H
          go_wp2
          go_roundg k1
          case measure => have := HK1.out; omega
          case rel => exact ⟨(IntKind.u64.wrap (Int.tdiv x0_1 a1)), (((⟨#[48, 49, 50, 51, 52, 53, 54, 55, 56, 57, 97, 98, 99, 100, 101, 102]⟩ : ByteArray).extract ((ji12) : Int).toNat ((IntKind.u64.wrap ((ji12) + 1)) : Int).toNat) ++ x6_1), (by first | rfl | (simp; done) | (simp [*]; done)), (by first | rfl | (simp; done) | (simp only [← hji12] <;> (first | rfl | simp)) | (simp [*]; done)), H', ⟨by have := HK1.out; omega⟩, by repeat (first | exact Drawn0.refl _ | apply Drawn0.step)⟩
         ·rw [if_neg c16] at H
          exact absurd H (by simp)
        ·rw [if_neg c15] at H
         exact absurd H (by simp)
       ·rw [if_neg c14] at H
        exact absurd H (by simp)
      ·rw [if_neg c13] at H
       exact absurd H (by simp)
    ·rw [if_neg c10] at H
     have c10b0 : (x6_1.toList == ([] : List UInt8)) = false := beq_eq_false_iff_ne.mpr c10
     have c10b1 : (x6_1.toList != ([] : List UInt8)) = true := bne_iff_ne.mpr c10
     obtain rfl := Option.some.inj H
     go_wp2
     go_ret
     exact ⟨by first | rfl | (simp; done) | (simp [*]; done), by repeat (first | exact Drawn0.refl _ | apply Drawn0.step)⟩

/-! ### cleatref10_Text: function 22 -/
def cleatref10_Text.f (k : Nat) (a0 : Int) : Option (ByteArray) := (cleatref10_write.f k a0 10).bind fun t238 => (some t238)
theorem cleatref10_Text.mono : ∀ a0 k, LeO (cleatref10_Text.f k a0) (cleatref10_Text.f (k + 1) a0) := by
 intro a0 k
 unfold cleatref10_Text.f
 repeat' first
   | (with_reducible exact cleatref10_write.mono _ _ _)
   | (with_reducible exact LeO.refl _)
   | (with_reducible exact LeO.none _)
   | (with_reducible refine LeO.ite ?_ ?_)
   | (with_reducible refine LeO.bind ?_ (fun _ => ?_))
   | exact cleatref10_write.mono _ _ _
   | exact LeO.none _
   | refine LeO.ite ?_ ?_
   | refine LeO.bind ?_ (fun _ => ?_)
set_option maxHeartbeats 8000000 in
set_option maxRecDepth 100000 in
theorem cleatref10_Text.calls (k : Nat) (a0 : Int) (r : ByteArray) (w : World) (h : cleatref10_Text.f k a0 = some r) :
  Calls Tryd.prog 22 #[.int .u64 a0] w fun e w' => e = .returned (.string r) ∧ Drawn0 w w' := by
 have H : ((cleatref10_write.f k a0 10).bind fun t238 => (some t238)) = some r := h
 clear h
 replace H := Option.bind_eq_some_iff.mp H
 obtain ⟨t238, A20, H⟩ := H
 replace H : (some t238) = some r := H
 have A2 := Aside0.mk A20
 clear A20
 obtain rfl := Option.some.inj H
 go_enter Tryd.func22, Tryd.ntmps22
 go_wp2_with (first | ((with_reducible refine gate_callee (f := 40) rfl ?_); refine goesL_ (some 4) rfl rfl Tryd.func40 (by kernel_rfl) rfl #[.int .u64 a0, .int .u64 10] rfl (by (try simp only [List.map_toArray, List.map_cons, List.map_nil]); first | done | rfl | (simp only [List.length_drop, List.length_take]; rfl)) ?_; (with_reducible refine (cleatref10_write.calls k a0 10 t238 _ A2.out).mono ?_); rintro e w' ⟨rfl, ⟨nd, rfl⟩⟩; refine ⟨_, rfl, ?_⟩))
 go_ret
 exact ⟨by first | rfl | (simp; done) | (simp [*]; done), by repeat (first | exact Drawn0.refl _ | apply Drawn0.step)⟩

end Go.Proofs.YtpndeninbokjoaaDoor.P
