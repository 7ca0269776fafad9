-- printed by wip/tools/myprint.py out of the translation. Not trusted: Lean checks it.
import Derived.Test.YtpndeninbokjoaaDoorPx0
import Derived.Test.YtpndeninbokjoaaDoorPx1
import Derived.Test.YtpndeninbokjoaaDoorPx2
import Derived.Test.YtpndeninbokjoaaDoorPx3
import Derived.Test.YtpndeninbokjoaaDoorPx4
import Derived.Test.YtpndeninbokjoaaDoorPx5
import Derived.Test.YtpndeninbokjoaaDoorPx6
import Derived.Test.YtpndeninbokjoaaDoorPx8
import Derived.Test.YtpndeninbokjoaaDoorPx9
import Derived.Test.YtpndeninbokjoaaDoorPx10
namespace Go.Proofs.YtpndeninbokjoaaDoor.P
open Go.RowKit Go.Proofs.YtpndeninbokjoaaDoorW.PrintWords Go.Proofs.YtpndeninbokjoaaDoorW.PrintLast Go.Proofs.YtpndeninbokjoaaDoorW.PrintMore
attribute [local go_sem] max2_int min2_int max_two min_two max_three min_three max_four min_four   -- for this text's walks alone
set_option linter.unusedVariables false
set_option linter.unusedSimpArgs false

attribute [local go_sem high] eqA44
/-! ### cleatref11_Same: function 8 -/
def cleatref11_Same.l0 : Nat → List (S44) → List (S44) → Int → Option (Bool)
 | 0, _, _, _ => none
 | k + 1, x0, x1, x5 => if x5 < (x0.length : Int) then (if 0 ≤ x5 then (if x5 < (x1.length : Int) then (if (!(((rd_T44 x0 x5).f0) == ((rd_T44 x1 x5).f0)) || (!(((rd_T44 x0 x5).f1) == ((rd_T44 x1 x5).f1)) || (!(((rd_T44 x0 x5).f2) == ((rd_T44 x1 x5).f2)) || (!(((rd_T44 x0 x5).f3) == ((rd_T44 x1 x5).f3)) || (!(((rd_T44 x0 x5).f4) == ((rd_T44 x1 x5).f4)) || (!((((rd_T44 x0 x5).f5).toList) == (((rd_T44 x1 x5).f5).toList)) || (!(((rd_T44 x0 x5).f6) == ((rd_T44 x1 x5).f6))))))))) = true then (some false) else (cleatref11_Same.l0 k x0 x1 (wrap64 (x5 + 1)))) else (none)) else (none)) else (some true)
def cleatref11_Same.f (k : Nat) (l0 : List (S44)) (l1 : List (S44)) : Option (Bool) := if (l0.length : Int) = (l1.length : Int) then (cleatref11_Same.l0 k l0 l1 0) else (some false)
theorem cleatref11_Same.mono_l : ∀ k, (∀ y0 y1 y2, LeO (cleatref11_Same.l0 k y0 y1 y2) (cleatref11_Same.l0 (k + 1) y0 y1 y2))
 | 0 => fun _ _ _ r h => by simp [cleatref11_Same.l0] at h
 | k + 1 => by
  have ih0 := cleatref11_Same.mono_l k
  ·intro y0 y1 y2
   unfold cleatref11_Same.l0
   repeat' first
   | (with_reducible exact ih0 _ _ _)
   | (with_reducible exact LeO.refl _)
   | (with_reducible exact LeO.none _)
   | (with_reducible refine LeO.ite ?_ ?_)
   | (with_reducible refine LeO.bind ?_ (fun _ => ?_))
   | exact ih0 _ _ _
   | exact LeO.none _
   | refine LeO.ite ?_ ?_
   | refine LeO.bind ?_ (fun _ => ?_)
theorem cleatref11_Same.mono : ∀ a0 a1 k, LeO (cleatref11_Same.f k a0 a1) (cleatref11_Same.f (k + 1) a0 a1) := by
 intro a0 a1 k
 have ih0 := cleatref11_Same.mono_l k
 unfold cleatref11_Same.f
 repeat' first
   | (with_reducible exact ih0 _ _ _)
   | (with_reducible exact LeO.refl _)
   | (with_reducible exact LeO.none _)
   | (with_reducible refine LeO.ite ?_ ?_)
   | (with_reducible refine LeO.bind ?_ (fun _ => ?_))
   | exact ih0 _ _ _
   | exact LeO.none _
   | refine LeO.ite ?_ ?_
   | refine LeO.bind ?_ (fun _ => ?_)
set_option maxHeartbeats 8000000 in
set_option maxRecDepth 100000 in
theorem cleatref11_Same.calls (k : Nat) (A0 : Option Addr) (c0 : Nat) (l0 : List (S44)) (A1 : Option Addr) (c1 : Nat) (l1 : List (S44)) (r : Bool) (w : World) (hr0 : Kd.C k44 w A0 l0.length l0) (hc0 : l0.length ≤ c0) (hr1 : Kd.C k44 w A1 l1.length l1) (hc1 : l1.length ≤ c1) (h : cleatref11_Same.f k l0 l1 = some r) :
  Calls Tryd.prog 8 #[.slice A0 l0.length c0, .slice A1 l1.length c1] w fun e w' => e = .returned (.bool r) ∧ Drawn0 w w' := by
 have hu44 := Tryd.underlying44
 have HR0 := Aside0.mk hr0
 have HC0 := Aside0.mk hc0
 clear hr0 hc0
 have HR1 := Aside0.mk hr1
 have HC1 := Aside0.mk hc1
 clear hr1 hc1
 have H : (if (l0.length : Int) = (l1.length : Int) then (cleatref11_Same.l0 k l0 l1 0) else (some false)) = some r := h
 clear h
 by_cases c3 : (l0.length : Int) = (l1.length : Int)
 ·rw [if_pos c3] at H
  have c3b0 : ((l0.length : Int) == (l1.length : Int)) = true := beq_iff_eq.mpr c3
  have c3b1 : ((l0.length : Int) != (l1.length : Int)) = false := bne_eq_false_iff_eq.mpr c3
  have c3b2 : (l0.length == l1.length) = true := by first | simpa using c3 | (simp at c3 ⊢; omega)
  clear c3
  have H' := Aside0.mk H
  clear H
  go_enter Tryd.func8, Tryd.ntmps8
  go_wp2
  repeat (go_quiet (fail); try go_wp2)
  go_loopg [5] k (fun kq v5 w' => ∃ (x5_1 : Int), v5 = .int .i64 x5_1 ∧ Aside0 (cleatref11_Same.l0 kq l0 l1 x5_1 = some r) ∧ Aside0 (kq ≤ k) ∧ Drawn0 w w')
  case atStart => exact ⟨(0), (by first | rfl | (simp; done) | (simp [*]; done)), H', ⟨Nat.le_refl _⟩, by repeat (first | exact Drawn0.refl _ | apply Drawn0.step)⟩
  case round =>
   clear H'
   try clear c1
   try clear p2
   try clear c3
   try clear c3b0
   try clear c3b1
   try clear c3b2
   obtain ⟨x5_1, rfl, HA, HK1, ⟨m1, rfl⟩⟩ := hrel
   cases gk with
   | zero => exact absurd HA.out (by simp [cleatref11_Same.l0])
   | succ k1 =>
    have H := HA.out
    clear HA
    simp only [cleatref11_Same.l0] at H
    by_cases c4 : x5_1 < (l0.length : Int)
    ·rw [if_pos c4] at H
     have c4b0 : decide (x5_1 < (l0.length : Int)) = true := decide_eq_true c4
     clear c4
     by_cases c5 : 0 ≤ x5_1
     ·rw [if_pos c5] at H
      have c5b0 : decide (0 ≤ x5_1) = true := decide_eq_true c5
      clear c5
      by_cases c6 : x5_1 < (l1.length : Int)
      ·rw [if_pos c6] at H
       have c6b0 : decide (x5_1 < (l1.length : Int)) = true := decide_eq_true c6
       clear c6
       by_cases c7 : (!(((rd_T44 l0 x5_1).f0) == ((rd_T44 l1 x5_1).f0)) || (!(((rd_T44 l0 x5_1).f1) == ((rd_T44 l1 x5_1).f1)) || (!(((rd_T44 l0 x5_1).f2) == ((rd_T44 l1 x5_1).f2)) || (!(((rd_T44 l0 x5_1).f3) == ((rd_T44 l1 x5_1).f3)) || (!(((rd_T44 l0 x5_1).f4) == ((rd_T44 l1 x5_1).f4)) || (!((((rd_T44 l0 x5_1).f5).toList) == (((rd_T44 l1 x5_1).f5).toList)) || (!(((rd_T44 l0 x5_1).f6) == ((rd_T44 l1 x5_1).f6))))))))) = true
       ·rw [if_pos c7] at H
        have c7b0 : (!(((rd_T44 l0 x5_1).f0) == ((rd_T44 l1 x5_1).f0)) || (!(((rd_T44 l0 x5_1).f1) == ((rd_T44 l1 x5_1).f1)) || (!(((rd_T44 l0 x5_1).f2) == ((rd_T44 l1 x5_1).f2)) || (!(((rd_T44 l0 x5_1).f3) == ((rd_T44 l1 x5_1).f3)) || (!(((rd_T44 l0 x5_1).f4) == ((rd_T44 l1 x5_1).f4)) || (!((((rd_T44 l0 x5_1).f5).toList) == (((rd_T44 l1 x5_1).f5).toList)) || (!(((rd_T44 l0 x5_1).f6) == ((rd_T44 l1 x5_1).f6))))))))) = true := c7
        clear c7
        obtain rfl := Option.some.inj H
        have p172 : 0 ≤ (x5_1 : Int) := of_decide_eq_true (by first | (with_reducible assumption) | assumption)
        have q172 : x5_1 < (l0.length : Int) := of_decide_eq_true (by first | (with_reducible assumption) | assumption)
        obtain ⟨ad172, e172, hx172_0, hx172_1, hx172_2, hx172_3, hx172_4, hx172_5, hx172_6⟩ := at_T44 HR0.out x5_1 p172 q172
        cases e172
        replace p172 := eq_true p172
        replace q172 := eq_true q172
        have p173 : 0 ≤ (x5_1 : Int) := of_decide_eq_true (by first | (with_reducible assumption) | assumption)
        have q173 : x5_1 < (l1.length : Int) := of_decide_eq_true (by first | (with_reducible assumption) | assumption)
        obtain ⟨ad173, e173, hx173_0, hx173_1, hx173_2, hx173_3, hx173_4, hx173_5, hx173_6⟩ := at_T44 HR1.out x5_1 p173 q173
        cases e173
        replace p173 := eq_true p173
        replace q173 := eq_true q173
        go_wp2
        repeat (go_quiet (fail); try go_wp2)
        go_ret
        exact ⟨by first | rfl | (simp; done) | (simp [*]; done), by repeat (first | exact Drawn0.refl _ | apply Drawn0.step)⟩
       ·rw [if_neg c7] at H
        have c7b0 : (!(((rd_T44 l0 x5_1).f0) == ((rd_T44 l1 x5_1).f0)) || (!(((rd_T44 l0 x5_1).f1) == ((rd_T44 l1 x5_1).f1)) || (!(((rd_T44 l0 x5_1).f2) == ((rd_T44 l1 x5_1).f2)) || (!(((rd_T44 l0 x5_1).f3) == ((rd_T44 l1 x5_1).f3)) || (!(((rd_T44 l0 x5_1).f4) == ((rd_T44 l1 x5_1).f4)) || (!((((rd_T44 l0 x5_1).f5).toList) == (((rd_T44 l1 x5_1).f5).toList)) || (!(((rd_T44 l0 x5_1).f6) == ((rd_T44 l1 x5_1).f6))))))))) = false := by simpa using c7
        clear c7
        have H' := Aside0.mk H
        clear H
        have p172 : 0 ≤ (x5_1 : Int) := of_decide_eq_true (by first | (with_reducible assumption) | assumption)
        have q172 : x5_1 < (l0.length : Int) := of_decide_eq_true (by first | (with_reducible assumption) | assumption)
        obtain ⟨ad172, e172, hx172_0, hx172_1, hx172_2, hx172_3, hx172_4, hx172_5, hx172_6⟩ := at_T44 HR0.out x5_1 p172 q172
        cases e172
        replace p172 := eq_true p172
        replace q172 := eq_true q172
        have p173 : 0 ≤ (x5_1 : Int) := of_decide_eq_true (by first | (with_reducible assumption) | assumption)
        have q173 : x5_1 < (l1.length : Int) := of_decide_eq_true (by first | (with_reducible assumption) | assumption)
        obtain ⟨ad173, e173, hx173_0, hx173_1, hx173_2, hx173_3, hx173_4, hx173_5, hx173_6⟩ := at_T44 HR1.out x5_1 p173 q173
        cases e173
        replace p173 := eq_true p173
        replace q173 := eq_true q173
        go_wp2
        repeat (go_quiet (fail); try go_wp2)
        go_roundg k1
        case measure => have := HK1.out; omega
        case rel => exact ⟨(wrap64 (x5_1 + 1)), (by first | rfl | (simp; done) | (simp [*]; done)), H', ⟨by have := HK1.out; omega⟩, by repeat (first | exact Drawn0.refl _ | apply Drawn0.step)⟩
      ·rw [if_neg c6] at H
       exact absurd H (by simp)
     ·rw [if_neg c5] at H
      exact absurd H (by simp)
    ·rw [if_neg c4] at H
     have c4b0 : decide (x5_1 < (l0.length : Int)) = false := decide_eq_false c4
     clear c4
     obtain rfl := Option.some.inj H
     go_wp2
     repeat (go_quiet (fail); try go_wp2)
     go_ret
     exact ⟨by first | rfl | (simp; done) | (simp [*]; done), by repeat (first | exact Drawn0.refl _ | apply Drawn0.step)⟩
 ·rw [if_neg c3] at H
  have c3b0 : ((l0.length : Int) == (l1.length : Int)) = false := beq_eq_false_iff_ne.mpr c3
  have c3b1 : ((l0.length : Int) != (l1.length : Int)) = true := bne_iff_ne.mpr c3
  have c3b2 : (l0.length == l1.length) = false := by first | simpa using c3 | (simp at c3 ⊢; omega)
  obtain rfl := Option.some.inj H
  go_enter Tryd.func8, Tryd.ntmps8
  go_wp2
  repeat (go_quiet (fail); try go_wp2)
  go_ret
  exact ⟨by first | rfl | (simp; done) | (simp [*]; done), by repeat (first | exact Drawn0.refl _ | apply Drawn0.step)⟩

/-! ### operand_Parse: function 6 -/
theorem numP_le {L : List S29} {p : Nat} {E : Int} {x : Bool × Int} {q : Nat} {E' : Int} (h : numP L p E = some (x, q, E')) : p < q ∧ q ≤ L.length := by
  unfold numP at h
  cases hv : valP true L (sgN L p ⟨#[45]⟩) E with
  | none => rw [hv] at h; cases h
  | some y =>
    obtain ⟨v, r, e⟩ := y
    rw [hv] at h
    cases h
    have := valP_le hv
    have h2 : p ≤ sgN L p ⟨#[45]⟩ := by unfold sgN; split <;> omega
    omega
theorem addP_le {mi : Bool} {L : List S29} {p : Nat} {E x : Int} {q : Nat} {E' : Int} (h : addP mi L p E = some (x, q, E')) : p < q ∧ q ≤ L.length := by
  unfold addP at h
  cases hv : valP false L p E with
  | none => rw [hv] at h; cases h
  | some y =>
    obtain ⟨v, r, e⟩ := y
    rw [hv, Option.bind_some] at h
    have := valP_le hv
    simp only at h
    split at h
    · cases h; omega
    · cases hw : wrE (sigS mi v).2 e with
      | none => rw [hw] at h; cases h
      | some z => rw [hw] at h; cases h; omega
theorem symP_le {L : List S29} {p : Nat} {E : Int} {x : ByteArray × Int} {q : Nat} {E' : Int} (hp : p < L.length) (h : symP L p E = some (x, q, E')) : p < q ∧ q ≤ L.length := by
  unfold symP at h
  split at h
  · cases hv : addP true L (p + 2) E with
    | none => rw [hv] at h; cases h
    | some y => obtain ⟨v, r, e⟩ := y; rw [hv] at h; cases h; have := addP_le hv; omega
  · split at h
    · cases hv : addP false L (p + 2) E with
      | none => rw [hv] at h; cases h
      | some y => obtain ⟨v, r, e⟩ := y; rw [hv] at h; cases h; have := addP_le hv; omega
    · cases h; omega
theorem expP_le {L : List S29} {p : Nat} {E : Int} {x : Ex} {q : Nat} {E' : Int} (h : expP L p E = some (x, q, E')) : p < q ∧ q ≤ L.length := by
  unfold expP at h
  split at h
  · rename_i hn
    cases hv : symP L p E with
    | none => rw [hv] at h; cases h
    | some y => obtain ⟨v, r, e⟩ := y; rw [hv] at h; cases h; exact symP_le (tk_lt (nameT_kind hn)) hv
  · cases hv : numP L p E with
    | none => rw [hv] at h; cases h
    | some y => obtain ⟨v, r, e⟩ := y; rw [hv] at h; cases h; exact numP_le hv
theorem lowP_le {L : List S29} {p : Nat} {E : Int} {x : ByteArray × Int} {q : Nat} {E' : Int} (h : lowP L p E = some (x, q, E')) : p < q ∧ q ≤ L.length := by
  unfold lowP at h
  split at h
  · split at h
    · cases hv : expP L (p + 2) E with
      | none => rw [hv] at h; cases h
      | some y =>
        obtain ⟨v, r, e⟩ := y
        rw [hv, Option.bind_some] at h
        have := expP_le hv
        cases v with
        | inl n => cases h
        | inr s => cases h; omega
    · cases h
  · cases h
theorem memP_le {L : List S29} {p : Nat} {E : Int} {x : S44} {q : Nat} {E' : Int} (h : memP L p E = some (x, q, E')) : p < q ∧ q ≤ L.length := by
  unfold memP at h
  cases hg : regP L p with
  | none => rw [hg] at h; cases h
  | some ns =>
    obtain ⟨n, st⟩ := ns
    rw [hg] at h
    simp only at h
    split at h
    · rename_i h1
      cases h
      have := sgB_lt h1
      omega
    · split at h
      · split at h
        · cases hv : lowP L (p + 3) E with
          | none => rw [hv] at h; cases h
          | some y =>
            obtain ⟨v, r, e⟩ := y
            rw [hv, Option.bind_some] at h
            simp only at h
            split at h
            · rename_i h2
              cases h
              have := sgB_lt h2
              have := lowP_le hv
              omega
            · cases h
        · cases hv : valP true L (sgN L (p + 2) ⟨#[35]⟩) E with
          | none => rw [hv] at h; cases h
          | some y =>
            obtain ⟨v, r, e⟩ := y
            rw [hv, Option.bind_some] at h
            simp only at h
            split at h
            · rename_i h2
              cases h
              have := sgB_lt h2
              have := valP_le hv
              have : p + 2 ≤ sgN L (p + 2) ⟨#[35]⟩ := by unfold sgN; split <;> omega
              omega
            · cases h
      · cases h
theorem sgN_ge (L : List S29) (p : Nat) (s : ByteArray) : p ≤ sgN L p s := by unfold sgN; split <;> omega
theorem oprP_le {L : List S29} {p : Nat} {E : Int} {x : S44} {q : Nat} {E' : Int} (h : oprP L p E = some (x, q, E')) : p < q ∧ q ≤ L.length := by
  unfold oprP at h
  cases hg : regP L p with
  | some ns =>
    obtain ⟨n, st⟩ := ns
    rw [hg] at h
    cases h
    have := regP_lt hg
    omega
  | none =>
    rw [hg] at h
    simp only at h
    split at h
    · cases hv : valP true L (sgN L (p + 1) ⟨#[35]⟩) E with
      | none => rw [hv] at h; cases h
      | some y =>
        obtain ⟨v, r, e⟩ := y
        rw [hv] at h; cases h
        have := valP_le hv
        have := sgN_ge L (p + 1) ⟨#[35]⟩
        omega
    · split at h
      · have := memP_le h; omega
      · split at h
        · cases hv : expP L (p + 1) E with
          | none => rw [hv] at h; cases h
          | some y => obtain ⟨v, r, e⟩ := y; rw [hv] at h; cases h; have := expP_le hv; omega
        · have h9 := sgN_ge L p ⟨#[35]⟩
          split at h
          · cases hv : lowP L (sgN L p ⟨#[35]⟩ + 1) E with
            | none => rw [hv] at h; cases h
            | some y => obtain ⟨v, r, e⟩ := y; rw [hv] at h; cases h; have := lowP_le hv; omega
          · split at h
            · cases hv : numP L (p + 1) E with
              | none => rw [hv] at h; cases h
              | some y => obtain ⟨v, r, e⟩ := y; rw [hv] at h; cases h; have := numP_le hv; omega
            · cases hv : expP L p E with
              | none => rw [hv] at h; cases h
              | some y => obtain ⟨v, r, e⟩ := y; rw [hv] at h; cases h; exact expP_le hv
/-! ### operands with commas between -/
def parP : Nat → List S29 → Nat → Int → List S44 → Option (List S44 × Int)
  | 0, _, _, _, _ => none
  | f + 1, L, p, E, acc =>
    if p < L.length then
      (oprP L p E).bind fun x =>
        if x.2.1 < L.length then (if sgB L x.2.1 ⟨#[44]⟩ = true then (if x.2.1 + 1 = L.length then none else parP f L (x.2.1 + 1) x.2.2 (acc ++ [x.1])) else none)
        else some (acc ++ [x.1], x.2.2)
    else some (acc, E)
def parseF (L : List S29) : List S44 × Int := match parP (L.length + 1) L 0 0 [] with
  | none => ([], 3)
  | some (rows, E) => if E = 0 then (rows, 0) else ([], E)
def operand_Parse.f (l : List S29) : Option (List S44 × Int) := if l.length ≤ 1000000 then some (parseF l) else none
set_option maxHeartbeats 4000000 in
set_option maxRecDepth 100000 in
theorem parse_catch (p q : Addr) (x : Value) (y : Int) (u : TypeId) (pv : Value) (older : List PanicEntry) (w : World) (hx : w.cell? p = some x) (hz : w.frozen? p = false) (hy : w.cell? q = some (.int .i64 y)) (hq : w.frozen? q = false) (hne : p ≠ q) :
    CallsD Tryd.prog 15 #[.pointer (some p), .pointer (some q)] (.panicking ({ v := .iface u pv, recovered := false } :: older)) w fun e u' w' =>
      e = .returned (.tuple #[]) ∧ u' = .panicking ({ v := .iface u pv, recovered := true } :: older) ∧ w' = (w.setCell p (.slice none 0 0)).setCell q (.int .i64 3) := by
  refine callsD_of_wpS Tryd.func15 rfl fun c₀ cs hu => ?_
  apply wpS_seq
  apply wpS_region
  simp [wpOpsS, go_sem, recoverD, hu, Tryd.ntmps15, Exit.thenS]
  refine wpS_cond (t := true) (by simp [Act.eval, Array.replicate]) ?_
  simp only [if_true]
  have h2 : (w.setCell p (.slice none 0 0)).cell? q = some (.int .i64 y) := by rw [World.cell?_setCell_other _ _ _ _ hne]; exact hy
  have h3 : (w.setCell p (.slice none 0 0)).frozen? q = false := by simpa using hq
  apply wpS_region
  simp [wpOpsS, go_sem, hx, hz, h2, h3, bodyPostS, results, Tryd.results15]
theorem parse_idle (p q : Addr) (w : World) :
    CallsD Tryd.prog 15 #[.pointer (some p), .pointer (some q)] .returning w fun e u' w' => e = .returned (.tuple #[]) ∧ u' = .returning ∧ w' = w := by
  refine callsD_of_wpS Tryd.func15 rfl fun c₀ cs hu => ?_
  apply wpS_seq
  apply wpS_region
  simp [wpOpsS, go_sem, recoverD, hu, Tryd.ntmps15, Exit.thenS]
  refine wpS_cond (t := false) (by simp [Act.eval, Array.replicate]) ?_
  simp only [Bool.false_eq_true, if_false]
  refine wpS_of_wp (wp_skip ?_)
  cases c₀
  simp_all [bodyPostS, results, Tryd.results15]
structure Par (w wr : World) (A0 : Option Addr) (c0 : Nat) (l0 : List S29) (p : Nat) (E : Int) (rows : List S44) : Prop where
  rd : Rd w wr (w.heap.size + 2) A0 c0 l0 p E
  row : ∃ v, wr.heap[w.heap.size]? = some (.cells #[v] 23 (0, 0)) ∧ Kd.R k44 44 wr w.heap.size (fun k => k ≠ w.heap.size ∧ k ≠ w.heap.size + 1 ∧ k ≠ w.heap.size + 2) v rows
  er : wr.heap[w.heap.size + 1]? = some (.cells #[.int .i64 0] 24 (0, 0))
theorem opnd_M (w : World) (base : Nat) (ok : Nat → Prop) (x : S44) : k44.M w base ok x [.int .i64 x.f0, .int .i64 x.f1, .bool x.f2, .bool x.f3, .int .u64 x.f4, .string x.f5, .int .i64 x.f6] :=
  ⟨_, _, rfl, rfl, ⟨_, _, rfl, rfl, ⟨_, _, rfl, rfl, ⟨_, _, rfl, rfl, ⟨_, _, rfl, rfl, ⟨_, _, rfl, rfl, rfl⟩⟩⟩⟩⟩⟩
theorem par_append {w w5 w3 : World} {A0 : Option Addr} {c0 : Nat} {l0 : List S29} {q : Nat} {E : Int} {rows rows1 : List S44} {v v1 : Value} (h5 : Rd w w5 (w.heap.size + 2) A0 c0 l0 q E) (e5 : w5.heap[w.heap.size + 1]? = some (.cells #[.int .i64 0] 24 (0, 0))) (hb3 : w3.heap[w.heap.size]? = some (.cells #[v] 23 (0, 0)))
    (r5 : Kd.R k44 44 w5 w.heap.size (fun k => k ≠ w.heap.size ∧ k ≠ w.heap.size + 1 ∧ k ≠ w.heap.size + 2) v rows) (hR3 : Kd.R k44 44 w3 w.heap.size (fun k => k ≠ w.heap.size ∧ k ≠ w.heap.size + 1 ∧ k ≠ w.heap.size + 2) v1 rows1) (hB3 : Below w.heap.size w w3) (hg3 : w5.grownBy w3 v.ownBlock) :
    Par w (w3.setCell ⟨w.heap.size, 0, none⟩ v1) A0 c0 l0 q E rows1 :=
  ⟨⟨blk_far (blk_grown h5.blk hg3 (Kd.R_away r5 (fun _ hk => hk.2.2))) (p := ⟨w.heap.size, 0, none⟩) (by simp) _, h5.row, h5.cap, h5.ge, hB3.setCell (p := ⟨w.heap.size, 0, none⟩) (Nat.le_refl _) _, h5.len⟩,
    ⟨_, blk_set hb3 0 v1, Kd.R_far hR3 (p := ⟨w.heap.size, 0, none⟩) (fun k hk => hk.1) _⟩,
    blk_far (blk_grown e5 hg3 (Kd.R_away r5 (fun _ hk => hk.2.1))) (p := ⟨w.heap.size, 0, none⟩) (by simp) _⟩
theorem parP_none {m : Nat} {L : List S29} {p : Nat} {E : Int} {acc : List S44} (hp : p < L.length) (h : oprP L p E = none) : parP (m + 1) L p E acc = none := by
  simp only [parP]; rw [if_pos hp, h]; rfl
theorem parP_end {m : Nat} {L : List S29} {p q : Nat} {E E' : Int} {x : S44} {acc : List S44} (hp : p < L.length) (h : oprP L p E = some (x, q, E')) (hq : ¬ q < L.length) (hm : 0 < m) : parP (m + 1) L p E acc = parP m L q E' (acc ++ [x]) := by
  obtain ⟨k, rfl⟩ : ∃ k, m = k + 1 := ⟨m - 1, by omega⟩
  simp only [parP]; rw [if_pos hp, h, Option.bind_some]; simp only; rw [if_neg hq, if_neg hq]
theorem parP_nocomma {m : Nat} {L : List S29} {p q : Nat} {E E' : Int} {x : S44} {acc : List S44} (hp : p < L.length) (h : oprP L p E = some (x, q, E')) (hq : q < L.length) (hs : sgB L q ⟨#[44]⟩ = false) : parP (m + 1) L p E acc = none := by
  simp only [parP]; rw [if_pos hp, h, Option.bind_some]; simp only; rw [if_pos hq, if_neg (by rw [hs]; decide)]
theorem parP_last {m : Nat} {L : List S29} {p q : Nat} {E E' : Int} {x : S44} {acc : List S44} (hp : p < L.length) (h : oprP L p E = some (x, q, E')) (hq : q < L.length) (hs : sgB L q ⟨#[44]⟩ = true) (hl : q + 1 = L.length) : parP (m + 1) L p E acc = none := by
  simp only [parP]; rw [if_pos hp, h, Option.bind_some]; simp only; rw [if_pos hq, if_pos hs, if_pos hl]
theorem parP_next {m : Nat} {L : List S29} {p q : Nat} {E E' : Int} {x : S44} {acc : List S44} (hp : p < L.length) (h : oprP L p E = some (x, q, E')) (hq : q < L.length) (hs : sgB L q ⟨#[44]⟩ = true) (hl : ¬ q + 1 = L.length) : parP (m + 1) L p E acc = parP m L (q + 1) E' (acc ++ [x]) := by
  simp only [parP]; rw [if_pos hp, h, Option.bind_some]; simp only; rw [if_pos hq, if_pos hs, if_neg hl]
theorem parseF_none {L : List S29} {r0 : List S44} {r1 : Int} (h : parP (L.length + 1) L 0 0 [] = none) (hv : parseF L = (r0, r1)) : r0 = [] ∧ r1 = 3 := by
  unfold parseF at hv
  rw [h] at hv
  cases hv
  exact ⟨rfl, rfl⟩
set_option maxHeartbeats 4000000 in
set_option maxRecDepth 100000 in
theorem parse_fall (w W : World) (A1 : Option Addr) (n c9 : Nat) (a : Act) (t : TypeId) (v : Value) (hd : a.defers = [{ target := .fn (.func 15) #[.pointer (some ⟨w.heap.size, 0, none⟩), .pointer (some ⟨w.heap.size + 1, 0, none⟩)], args := #[] }])
    (hres : results Tryd.f6 a.tmps = results Tryd.f6 #[undef, undef, .pointer (some ⟨w.heap.size, 0, none⟩), .pointer (some ⟨w.heap.size + 1, 0, none⟩)]) (hv : W.heap[w.heap.size]? = some (.cells #[.slice A1 n c9] 23 (0, 0))) (he : W.heap[w.heap.size + 1]? = some (.cells #[.int .i64 0] 24 (0, 0))) (hb : Below w.heap.size w W) :
    bodyPostD Tryd.prog Tryd.f6 (fun e w' => ∃ v0_ : Value, e = .returned (.tuple #[v0_, .int .i64 3]) ∧ Kd.R k44 44 w' w.heap.size (fun _ => True) v0_ [] ∧ Below w.heap.size w w') (.panic [{ v := .iface t v, recovered := false }]) a W := by
  simp only [bodyPostD]
  rw [hd]
  have hx : W.cell? ⟨w.heap.size, 0, none⟩ = some (.slice A1 n c9) := (blk_cell hv 0).trans rfl
  have hy : W.cell? ⟨w.heap.size + 1, 0, none⟩ = some (.int .i64 0) := (blk_cell he 0).trans rfl
  refine leaves_cons (f := 15) (args := #[.pointer (some ⟨w.heap.size, 0, none⟩), .pointer (some ⟨w.heap.size + 1, 0, none⟩)]) (by simp) (by simp [go_sem]) ?_
  refine (parse_catch _ _ (.slice A1 n c9) 0 t v [] W hx ((blk_frozen hv 0).trans rfl) hy ((blk_frozen he 0).trans rfl) (by simp)).mono ?_
  rintro e u' w'' ⟨rfl, rfl, rfl⟩
  have q0 := World.cell?_setCell_same W _ (.slice none 0 0) hx
  have q1 : ((W.setCell ⟨w.heap.size, 0, none⟩ (.slice none 0 0)).setCell ⟨w.heap.size + 1, 0, none⟩ (.int .i64 3)).cell? ⟨w.heap.size + 1, 0, none⟩ = some (.int .i64 3) := World.cell?_setCell_same _ _ _ (u := .int .i64 0) ((World.cell?_setCell_other _ _ _ _ (by simp)).trans hy)
  simp only [Leaves, settle, List.dropWhile]
  rw [hres]
  simp [Leaves, results, Tryd.results6, go_sem, q0, q1]
  exact ⟨Kd.R_nil _ _ _ _ _, (hb.setCell (p := ⟨w.heap.size, 0, none⟩) (Nat.le_refl _) _).setCell (p := ⟨w.heap.size + 1, 0, none⟩) (Nat.le_succ _) _⟩
set_option maxHeartbeats 4000000 in
set_option maxRecDepth 100000 in
theorem operand_Parse.calls (A0 : Option Addr) (c0 : Nat) (l0 : List S29) (r0 : List S44) (r1 : Int) (w : World) (hr0 : Kd.C k29 w A0 l0.length l0) (hc0 : l0.length ≤ c0) (h : operand_Parse.f l0 = some (r0, r1)) (HT : Aside0 (Tabs w)) :
    Calls Tryd.prog 6 #[.slice A0 l0.length c0] w fun e w' => ∃ v0_ : Value, e = .returned (.tuple #[v0_, .int .i64 r1]) ∧ Kd.R k44 44 w' w.heap.size (fun _ => True) v0_ r0 ∧ Below w.heap.size w w' := by
  unfold operand_Parse.f at h
  by_cases hlen : l0.length ≤ 1000000
  · rw [if_pos hlen] at h
    have HV := Aside0.mk (Option.some.inj h)
    have HLN := Aside0.mk hlen
    have HR0 := Aside0.mk hr0
    have HC0 := Aside0.mk hc0
    clear h hlen hr0 hc0
    have hmf : ∀ (fn : Fn) (first cap : Array Value) (w : World), (Instr.makeFunc fn first cap).run Tryd.prog w = .ok (.func fn first cap) w := fun _ _ _ _ => rfl
    go_enter_defers Tryd.func6, Tryd.ntmps6
    go_wp2
    go_loopg [] (l0.length + 1) (fun gk wr => ∃ (p : Nat) (E : Int) (rows : List S44), Aside0 (Par w wr A0 c0 l0 p E rows) ∧ Aside0 (parP gk l0 p E rows = parP (l0.length + 1) l0 0 0 [] ∧ p ≤ l0.length ∧ l0.length - p < gk ∧ rows.length ≤ p))
    case atStart =>
      refine ⟨0, 0, [], ⟨⟨?_, HR0.out, HC0.out, by simp, below_alloc (below_alloc (below_alloc (Below.refl _ _) _) _) _, HLN.out⟩, ⟨_, ?_, Kd.R_nil _ _ _ _ _⟩, ?_⟩, ⟨rfl, by omega, by omega, by simp⟩⟩
      · simpa using blk_new ((w.alloc (.cells #[.slice none 0 0] 23)).alloc (.cells #[.int .i64 0] 24)) (.cells #[.slice A0 l0.length c0, .int .i64 0, .int .i64 0] 42)
      · exact blk_alloc (blk_alloc (blk_new w _) _) _
      · simpa using blk_alloc (blk_new (w.alloc (.cells #[.slice none 0 0] 23)) (.cells #[.int .i64 0] 24)) (.cells #[.slice A0 l0.length c0, .int .i64 0, .int .i64 0] 42)
    case round =>
      obtain ⟨p, E, rows, HP, HA⟩ := hrel
      rename World => wr
      obtain ⟨m, rfl⟩ : ∃ m, gk = m + 1 := ⟨gk - 1, by have := HA.out.2.2.1; omega⟩
      have h1 : wr.cell? ⟨w.heap.size + 2, 1, none⟩ = some (.int .i64 (p : Int)) := (blk_cell HP.out.rd.blk 1).trans rfl
      by_cases hp : p < l0.length
      · have c1 : decide ((p : Int) < (l0.length : Int)) = true := decide_eq_true (by omega)
        have c3 : decide (p < l0.length) = true := decide_eq_true (by omega)
        have HPL := Aside0.mk hp
        clear hp
        obtain ⟨v, hv, hR⟩ := HP.out.row
        obtain ⟨A1, c9, rfl⟩ := Kd.R_slice hR
        have HVB := Aside0.mk hv
        have HRV := Aside0.mk hR
        have hx : wr.cell? ⟨w.heap.size, 0, none⟩ = some (.slice A1 rows.length c9) := (blk_cell hv 0).trans rfl
        clear hv hR
        have HOP : Aside0 (∀ W, Below wr.heap.size wr W → Calls Tryd.prog 16 #[.pointer (some ⟨w.heap.size + 2, 0, none⟩)] W (RdPost w W (w.heap.size + 2) A0 c0 l0 (oprP l0 p E) opV)) := ⟨fun W hb => rd_operand w W _ A0 c0 l0 p E ⟨HP.out.rd.after hb⟩ (Nat.le_of_lt HPL.out) HT⟩
        cases hop : oprP l0 p E with
        | none =>
          rw [hop] at HOP
          obtain ⟨rfl, rfl⟩ := parseF_none (HA.out.1.symm.trans (parP_none HPL.out hop)) HV.out
          have HX0 : Aside0 (∀ n, (wr.drewN n).cell? ⟨w.heap.size, 0, none⟩ = some (.slice A1 rows.length c9)) := ⟨fun n => (blk_cell (blk_drewN HVB.out n) 0).trans rfl⟩
          clear hop HA HV
          go_wp2
          refine wp_region_any (by kernel_rfl) ?_
          change wpAny _ _ _ _ _ _ _ (World.drew _)
          refine wpAny_ready (rs := [0, 1]) (by kernel_rfl) (by simp) ?_
          refine AllReady.cons rfl (fun K hK => ?_) (AllReady.cons rfl (fun K hK => ?_) AllReady.nil)
          · go_simp
            refine hK _ _ ?_
            clear hK K
            refine wpAny_ready (rs := [1]) (by kernel_rfl) (by simp) ?_
            refine AllReady.cons rfl (fun K hK => ?_) AllReady.nil
            go_simp
            refine hK _ _ ?_
            clear hK K
            refine wpAny_ready (rs := [2]) (by kernel_rfl) (by simp) ?_
            refine AllReady.cons rfl (fun K hK => ?_) AllReady.nil
            go_simp
            refine (HOP.out _ (pw_below_drewN (Below.refl _ _) _)).mono ?_
            rintro e w5 ⟨k5, ⟨t5, v5, rfl⟩, hb5⟩
            go_wp2
            exact parse_fall w w5 _ _ _ _ _ _ rfl (by simp [results, Tryd.results6]) (k5.blk (blk_drewN HVB.out _) (by simp) (by simp)) (k5.blk (blk_drewN HP.out.er _) (by simp) (by simp)) hb5
          · go_simp
            refine hK _ _ ?_
            clear hK K
            refine wpAny_ready (rs := [0, 2]) (by kernel_rfl) (by simp) ?_
            refine AllReady.cons rfl (fun K hK => ?_) (AllReady.cons rfl (fun K hK => ?_) AllReady.nil)
            · go_simp
              refine hK _ _ ?_
              clear hK K
              refine wpAny_ready (rs := [2]) (by kernel_rfl) (by simp) ?_
              refine AllReady.cons rfl (fun K hK => ?_) AllReady.nil
              go_simp
              refine (HOP.out _ (pw_below_drewN (Below.refl _ _) _)).mono ?_
              rintro e w5 ⟨k5, ⟨t5, v5, rfl⟩, hb5⟩
              go_wp2
              exact parse_fall w w5 _ _ _ _ _ _ rfl (by simp [results, Tryd.results6]) (k5.blk (blk_drewN HVB.out _) (by simp) (by simp)) (k5.blk (blk_drewN HP.out.er _) (by simp) (by simp)) hb5
            · go_simp
              refine (HOP.out _ (pw_below_drewN (Below.refl _ _) _)).mono ?_
              rintro e w5 ⟨k5, ⟨t5, v5, rfl⟩, hb5⟩
              go_wp2
              exact parse_fall w w5 _ _ _ _ _ _ rfl (by simp [results, Tryd.results6]) (k5.blk (blk_drewN HVB.out _) (by simp) (by simp)) (k5.blk (blk_drewN HP.out.er _) (by simp) (by simp)) hb5
        | some y =>
          obtain ⟨x, q, E'⟩ := y
          rw [hop] at HOP
          have HQ := Aside0.mk (oprP_le hop)
          have HPR : Aside0 (parP (m + 1) l0 p E rows = parP (l0.length + 1) l0 0 0 []) := ⟨HA.out.1⟩
          have HKL := Aside0.mk HA.out.2
          have HOQ := Aside0.mk hop
          have hxf := blk_frozen HVB.out 0
          have HX0 : Aside0 (∀ n, (wr.drewN n).cell? ⟨w.heap.size, 0, none⟩ = some (.slice A1 rows.length c9)) := ⟨fun n => (blk_cell (blk_drewN HVB.out n) 0).trans rfl⟩
          clear hop HA
          go_wp2
          refine wp_region_noPanic ?_
          go_region_law (first
            | (go_simp
               go_at_call 16
               refine (HOP.out _ (pw_below_drewN (Below.refl _ _) _)).mono ?_
               rintro e w5 ⟨k5, he5, h5⟩
               obtain rfl : e = .returned (.agg #[.int .i64 x.f0, .int .i64 x.f1, .bool x.f2, .bool x.f3, .int .u64 x.f4, .string x.f5, .int .i64 x.f6]) := he5
               have v5 := k5.blk (blk_drewN HVB.out _) (by simp) (by simp)
               have e5 := k5.blk (blk_drewN HP.out.er _) (by simp) (by simp)
               have r5 := Kd.R_keep (Kd.R_drewN HRV.out _) k5 (fun k hk => hk.2.2)
               have f5 : w5.cell? ⟨w.heap.size, 0, none⟩ = some (.slice A1 rows.length c9) := (blk_cell v5 0).trans rfl
               have f6 : ∀ o, (w5.alloc o).cell? ⟨w.heap.size, 0, none⟩ = some (.slice A1 rows.length c9) := fun o => (blk_cell (blk_alloc v5 o) 0).trans rfl
               go_simp)
            | (refine Kd.R_append_step k44 (w0 := w) w.heap.size (by rfl) _ _ 23 44 (.agg #[.int .i64 0, .int .i64 0, .bool false, .bool false, .int .u64 0, .string ⟨#[]⟩, .int .i64 0]) 56 (by rfl) Tryd.underlying23 (by kernel_rfl) rfl (by decide) (by omega) (.slice A1 rows.length c9) rows x [.int .i64 x.f0, .int .i64 x.f1, .bool x.f2, .bool x.f3, .int .u64 x.f4, .string x.f5, .int .i64 x.f6] (fun k => k ≠ w.heap.size ∧ k ≠ w.heap.size + 1 ∧ k ≠ w.heap.size + 2) (fun _ => False) (by rfl) (by rfl) (opnd_M _ _ _ _) (fun _ hk => hk.elim) (fun k hk => by have h1 : w5.heap.size ≤ k := hk; have h2 := h5.keep; omega) r5 h5.below h5.below.size (by have := HKL.out; have := HLN.out; omega) ?_
               intro v1 w3 hR3 hB3 hg3 hat3
               obtain ⟨A3, c3, rfl⟩ := Kd.R_slice hR3
               have hb3 := blk_grown v5 hg3 (Kd.R_away r5 (fun _ hk => hk.1))
               have f0 := blk_cell hb3 0
               have ff := blk_frozen hb3 0
               simp at f0 ff))
          all_goals refine NoPanic.normal ?_
          all_goals
            have HP4 := Aside0.mk (par_append h5 e5 hb3 r5 hR3 hB3 hg3)
            clear h5 e5 hb3 r5 hR3 hB3 hg3 hat3 k5 v5 f5 f6 f0 ff hx h1 HP HVB HRV HOP HX0 hxf
            rw [show rows.length + 1 = (rows ++ [x]).length by simp] at *
            generalize w3.setCell ⟨w.heap.size, 0, none⟩ (.slice A3 (rows ++ [x]).length c3) = w4 at *
            have h1 : w4.cell? ⟨w.heap.size + 2, 1, none⟩ = some (.int .i64 (q : Int)) := (blk_cell HP4.out.rd.blk 1).trans rfl
            by_cases hq : q < l0.length
            · have c4 : decide ((q : Int) < (l0.length : Int)) = true := decide_eq_true (by omega)
              have c5 : decide (q < l0.length) = true := decide_eq_true (by omega)
              have HQL := Aside0.mk hq
              have HN := Aside0.mk (rd_need w w4 _ A0 c0 l0 q E' ⟨#[44]⟩ ⟨HP4.out.rd⟩)
              clear hq
              cases hs : sgB l0 q ⟨#[44]⟩
              · obtain ⟨rfl, rfl⟩ := parseF_none (HPR.out.symm.trans (parP_nocomma HPL.out HOQ.out HQL.out hs)) HV.out
                rw [hs, if_neg (by decide)] at HN
                have HRW := HP4.out.row
                obtain ⟨v4, hv4, hR4⟩ := HRW
                obtain ⟨A4, c8, rfl⟩ := Kd.R_slice hR4
                have HV4 := Aside0.mk hv4
                clear hs HPR HV hv4 hR4 HOQ
                go_wp2_with (fail)
                refine HN.out.mono ?_
                rintro e w6 ⟨k6, ⟨t6, v6, rfl⟩, hb6⟩
                go_wp2
                exact parse_fall w w6 _ _ _ _ _ _ rfl (by simp [results, Tryd.results6]) (k6.blk HV4.out (by simp) (by simp)) (k6.blk HP4.out.er (by simp) (by simp)) hb6
              · rw [hs, if_pos rfl] at HN
                by_cases hl : q + 1 = l0.length
                · obtain ⟨rfl, rfl⟩ := parseF_none (HPR.out.symm.trans (parP_last HPL.out HOQ.out HQL.out hs hl)) HV.out
                  have HRW := HP4.out.row
                  obtain ⟨v4, hv4, hR4⟩ := HRW
                  obtain ⟨A4, c8, rfl⟩ := Kd.R_slice hR4
                  have HV4 := Aside0.mk hv4
                  clear hs HPR HV hv4 hR4 HOQ
                  rw [hl] at HN
                  clear hl
                  go_wp2_with (fail)
                  refine HN.out.mono ?_
                  rintro e w6 ⟨k6, rfl, h6⟩
                  have h7 : w6.cell? ⟨w.heap.size + 2, 1, none⟩ = some (.int .i64 (l0.length : Int)) := (blk_cell h6.blk 1).trans rfl
                  have HV6 := Aside0.mk (k6.blk HV4.out (by simp) (by simp))
                  have HE6 := Aside0.mk (k6.blk HP4.out.er (by simp) (by simp))
                  have H6 := Aside0.mk h6
                  clear k6 h6 HN
                  go_wp2_with (fail)
                  refine (rd_wrong w w6 _ A0 c0 l0 _ E' 3 H6).mono ?_
                  rintro e w7 ⟨⟨t6, v6, rfl⟩, rfl⟩
                  go_wp2
                  exact parse_fall w w7 _ _ _ _ _ _ rfl (by simp [results, Tryd.results6]) HV6.out HE6.out H6.out.below
                · have HNX := Aside0.mk ((parP_next HPL.out HOQ.out HQL.out hs hl).symm.trans HPR.out)
                  obtain ⟨z, hz⟩ : ∃ z : Nat, q + 1 = z := ⟨_, rfl⟩
                  rw [hz] at HN HNX hl
                  have HZ := Aside0.mk hz
                  have c6 : ((z : Int) == (l0.length : Int)) = false := by simp; omega
                  have c7 : (z == l0.length) = false := by simp; omega
                  have c8 : decide (z = l0.length) = false := by simp; omega
                  have c9 : decide ((z : Int) = (l0.length : Int)) = false := by simp; omega
                  clear hs hz HPR HOQ hl
                  go_wp2_with (fail)
                  refine HN.out.mono ?_
                  rintro e w6 ⟨k6, rfl, h6⟩
                  have h7 : w6.cell? ⟨w.heap.size + 2, 1, none⟩ = some (.int .i64 (z : Int)) := (blk_cell h6.blk 1).trans rfl
                  obtain ⟨v4, hv4, hR4⟩ := HP4.out.row
                  have HP6 : Aside0 (Par w w6 A0 c0 l0 z E' (rows ++ [x])) := ⟨h6, ⟨v4, k6.blk hv4 (by simp) (by simp), Kd.R_keep hR4 k6 (fun k hk => hk.2.2)⟩, k6.blk HP4.out.er (by simp) (by simp)⟩
                  clear k6 h6 HN hv4 hR4
                  go_wp2
                  go_roundg m
                  case measure => omega
                  case rel => exact ⟨z, E', rows ++ [x], HP6, ⟨HNX.out, by have := HZ.out; have := HQL.out; omega, by have := HKL.out; have := HQ.out; have := HPL.out; have := HZ.out; omega, by have := HKL.out; have := HQ.out; have := HZ.out; simp; omega⟩⟩
            · have c4 : decide ((q : Int) < (l0.length : Int)) = false := decide_eq_false (by omega)
              have c5 : decide (q < l0.length) = false := decide_eq_false (by omega)
              go_wp2
              go_roundg m
              case measure => omega
              case rel => exact ⟨q, E', rows ++ [x], HP4, ⟨(parP_end HPL.out HOQ.out hq (by have := HKL.out; have := HPL.out; omega)).symm.trans HPR.out, HQ.out.2, by have := HKL.out; have := HQ.out; have := HPL.out; omega, by have := HKL.out; have := HQ.out; simp; omega⟩⟩
      · have c1 : decide ((p : Int) < (l0.length : Int)) = false := decide_eq_false (by omega)
        have c3 : decide (p < l0.length) = false := decide_eq_false (by omega)
        have HE : Aside0 ((if E = 0 then (rows, 0) else ([], E)) = (r0, r1)) := ⟨by
          rw [← HV.out]
          unfold parseF
          rw [← HA.out.1]
          simp only [parP]; rw [if_neg hp]⟩
        obtain ⟨v, hv, hR⟩ := HP.out.row
        obtain ⟨A1, c9, rfl⟩ := Kd.R_slice hR
        have HVB := Aside0.mk hv
        have HRV := Aside0.mk hR
        have hx : wr.cell? ⟨w.heap.size, 0, none⟩ = some (.slice A1 rows.length c9) := (blk_cell hv 0).trans rfl
        have hxf := blk_frozen hv 0
        have he : wr.cell? ⟨w.heap.size + 1, 0, none⟩ = some (.int .i64 0) := (blk_cell HP.out.er 0).trans rfl
        have hef := blk_frozen HP.out.er 0
        have h2 : wr.cell? ⟨w.heap.size + 2, 2, none⟩ = some (.int .i64 E) := (blk_cell HP.out.rd.blk 2).trans rfl
        clear hv hR hp HV HA
        by_cases hE : E = 0
        · subst hE
          obtain ⟨rfl, rfl⟩ : rows = r0 ∧ (0 : Int) = r1 := by have := HE.out; simpa using this
          clear HE
          go_wp2
          simp only [bodyPostD]
          refine leaves_cons (f := 15) (args := #[.pointer (some ⟨w.heap.size, 0, none⟩), .pointer (some ⟨w.heap.size + 1, 0, none⟩)]) (by simp) (by simp [go_sem]) ?_
          refine (parse_idle _ _ _).mono ?_
          rintro e u' w'' ⟨rfl, rfl, rfl⟩
          have q0 := World.cell?_setCell_same wr _ (.slice A1 rows.length c9) hx
          have q1 : ((wr.setCell ⟨w.heap.size, 0, none⟩ (.slice A1 rows.length c9)).setCell ⟨w.heap.size + 1, 0, none⟩ (.int .i64 0)).cell? ⟨w.heap.size + 1, 0, none⟩ = some (.int .i64 0) := World.cell?_setCell_same _ _ _ (u := .int .i64 0) ((World.cell?_setCell_other _ _ _ _ (by simp)).trans he)
          simp [Leaves, settle, results, Tryd.results6, go_sem, q0, q1]
          exact ⟨Kd.R_mono (Kd.R_far (Kd.R_far HRV.out (p := ⟨w.heap.size, 0, none⟩) (fun k hk => hk.1) _) (p := ⟨w.heap.size + 1, 0, none⟩) (fun k hk => hk.2.1) _) (fun _ _ => trivial), (HP.out.rd.below.setCell (p := ⟨w.heap.size, 0, none⟩) (Nat.le_refl _) _).setCell (p := ⟨w.heap.size + 1, 0, none⟩) (Nat.le_succ _) _⟩
        · have c2 : (E == 0) = false := by simpa using hE
          obtain ⟨rfl, rfl⟩ : [] = r0 ∧ E = r1 := by have := HE.out; rw [if_neg hE] at this; simpa using this
          clear HE
          go_wp2
          go_region
          go_wp2
          simp only [bodyPostD]
          refine leaves_cons (f := 15) (args := #[.pointer (some ⟨w.heap.size, 0, none⟩), .pointer (some ⟨w.heap.size + 1, 0, none⟩)]) (by simp) (by simp [go_sem]) ?_
          refine (parse_idle _ _ _).mono ?_
          rintro e u' w'' ⟨rfl, rfl, rfl⟩
          have q0 := World.cell?_setCell_same wr _ (.slice none 0 0) hx
          have q1 : ((wr.setCell ⟨w.heap.size, 0, none⟩ (.slice none 0 0)).setCell ⟨w.heap.size + 1, 0, none⟩ (.int .i64 E)).cell? ⟨w.heap.size + 1, 0, none⟩ = some (.int .i64 E) := World.cell?_setCell_same _ _ _ (u := .int .i64 0) ((World.cell?_setCell_other _ _ _ _ (by simp)).trans he)
          simp [Leaves, settle, results, Tryd.results6, go_sem, q0, q1]
          exact ⟨Kd.R_nil _ _ _ _ _, below_drew ((HP.out.rd.below.setCell (p := ⟨w.heap.size, 0, none⟩) (Nat.le_refl _) _).setCell (p := ⟨w.heap.size + 1, 0, none⟩) (Nat.le_succ _) _)⟩
  · rw [if_neg hlen] at h; cases h

-- NOT PRINTED: function 62 (utf8_word_string)

-- NOT PRINTED: function 49 (utf8_ValidString)

/-! ### lex_Runes: function 43 -/
def lex_Runes.f (a0 : ByteArray) : Option (List Int × Int) := if a0.size ≤ 1000 then some (if Go.Lib.validD a0.data.toList = true then (runesL a0.data.toList, 0) else ([], 3)) else none
set_option maxHeartbeats 4000000 in
set_option maxRecDepth 100000 in
theorem lex_Runes.calls (a0 : ByteArray) (r0 : List Int) (r1 : Int) (w : World) (h : lex_Runes.f a0 = some (r0, r1)) (HT : Aside0 (Tabs w)) :
    Calls Tryd.prog 43 #[.string a0] w fun e w' => ∃ v0_ : Value, e = .returned (.tuple #[v0_, .int .i64 r1]) ∧ Kd.R (Kd.int .i64) 3 w' w.heap.size (fun _ => True) v0_ r0 ∧ Below w.heap.size w w' := by
  unfold lex_Runes.f at h
  by_cases hs : a0.size ≤ 1000
  · rw [if_pos hs] at h
    have h := Option.some.inj h
    have HS := Aside0.mk hs
    have HB := Aside0.mk (Below.refl w.heap.size w)
    by_cases hv : Go.Lib.validD a0.data.toList = true
    · rw [if_pos hv] at h
      obtain ⟨rfl, rfl⟩ := Prod.mk.inj h
      have HV := Aside0.mk hv
      clear h hs hv
      go_enter Tryd.func43, Tryd.ntmps43
      go_wp2_with (fail)
      refine (valid_string a0 _ (by have := HS.out; omega) HT).mono ?_
      rintro e W1 ⟨rfl, hB1⟩
      rw [HV.out]
      have HB1 := Aside0.mk hB1
      clear hB1 HB
      have hS1 := Aside0.mk HB1.out.size
      have hmk := info_i64
      go_wp2
      go_loopg [4, 6] (a0.size + 1) (fun gk v3 _ wr => ∃ (pos : Nat) (T : List Int), Aside0 (a0.size - pos < gk ∧ pos ≤ a0.size ∧ T ++ runesL (a0.data.toList.drop pos) = runesL a0.data.toList ∧ T.length ≤ pos) ∧ Aside0 (wr.heap[W1.heap.size]? = some (.stringIter a0 pos)) ∧ Aside0 ((Kd.int .i64).R 3 wr w.heap.size (fun i => i ≠ W1.heap.size) v3 T) ∧ Aside0 (Below w.heap.size w wr))
      case atStart => exact ⟨0, [], ⟨by omega, Nat.zero_le _, by simp, by simp⟩, ⟨World.iter_heap W1 a0 0⟩, ⟨Kd.R_nil _ _ _ _ _⟩, ⟨below_alloc HB1.out _⟩⟩
      case round =>
        obtain ⟨pos, T, HA, HI, HR, HW⟩ := hrel
        rename World => wr
        by_cases hp : pos < a0.size
        · have HC := Aside0.mk (Go.Lib.decodeL_drop a0 pos)
          have HW0 := Aside0.mk (Go.Lib.decodeL_width (a0.data.toList.drop pos))
          have HB0 := Aside0.mk (Go.Lib.decodeL_rune (a0.data.toList.drop pos))
          have HST := Aside0.mk (runesL_step (a0.data.toList.drop pos) (by intro e; have := congrArg List.length e; simp at this; omega))
          have HLE := Aside0.mk (Go.Lib.decodeL_le (a0.data.toList.drop pos) (by intro e; have := congrArg List.length e; simp at this; omega))
          have hnx : ∀ ty, (Instr.next (.pointer (some ⟨W1.heap.size, 0, none⟩)) true ty).run Tryd.prog wr = _ := fun ty => Go.Lib.run_next_any_at wr W1.heap.size a0 pos ty HI.out hp
          have HI2 := Aside0.mk (Go.Lib.iterAt_heap wr W1.heap.size a0 pos (pos + (Utf8.decode a0 pos).2) HI.out)
          have HW2 := Aside0.mk (Go.Lib.below_iterAt HW.out hS1.out a0 (pos + (Utf8.decode a0 pos).2))
          have HR2 := Aside0.mk (Kd.R_step (w1 := wr.iterAt W1.heap.size a0 (pos + (Utf8.decode a0 pos).2)) HR.out (fun k hk _ => Go.Lib.iterAt_other _ _ _ _ _ hk))
          have HIS : Aside0 (W1.heap.size < (wr.iterAt W1.heap.size a0 (pos + (Utf8.decode a0 pos).2)).heap.size) := ⟨(Array.getElem?_eq_some_iff.1 HI2.out).1⟩
          rw [HC.out] at HW0 HB0 HST HLE
          generalize hx : Utf8.decode a0 pos = cn at *
          obtain ⟨c, n⟩ := cn
          simp only at *
          have HX := Aside0.mk hx
          obtain ⟨z, hz⟩ : ∃ z : Int, ((c : Nat) : Int) = z := ⟨_, rfl⟩
          have hwz : IntKind.i64.wrap z = z := (i64_w _).trans (by simp only [wrap64]; have := HB0.out; omega)
          have HZ := Aside0.mk hz
          have HSz := Aside0.mk HW2.out.size
          have HLN : Aside0 ((T.length + 1) * 8 ≤ 140737488355328) := ⟨by have := HA.out; have := HS.out; omega⟩
          generalize hwx : wr.iterAt W1.heap.size a0 (pos + n) = wx at *
          rw [hz] at hnx
          clear HI HR HW hx HC hz hwx
          go_wp2_with ((with_reducible refine gate_builtin (b := .append) (xs := #[.tmp 15, .tmp 18]) rfl ?_); at_builtin; refine Kd.R_append (Kd.int .i64) (w0 := w) w.heap.size rfl (.tmp 15) (.tmp 18) 80 3 (.int .i64 0) 8 rfl Tryd.underlying80 info_i64 rfl (by decide) (by omega) u4 T z [.int .i64 z] (fun i => i ≠ W1.heap.size) (fun _ => False) rfl rfl ?aP (fun _ hk => hk.elim) (fun k hk => by have := HIS.out; omega) HR2.out HW2.out HSz.out HLN.out ?_; (case aP => exact rfl); intro v1 w3 hR3 hB3 hg3 hat3; have R3 := Aside0.mk hR3; have B3 := Aside0.mk hB3; have I3 : Aside0 (w3.heap[W1.heap.size]? = some (.stringIter a0 (pos + n))) := ⟨(hg3.block _ HIS.out (fun e => HR2.out.1 _ e.symm rfl)).trans HI2.out⟩; clear hR3 hB3 hg3 hat3)
          go_roundg (a0.size - pos)
          case measure => exact HA.out.1
          case rel =>
            refine ⟨pos + n, T ++ [z], ⟨by have := HA.out; have := HW0.out; omega, by have := HLE.out; rw [List.length_drop] at this; have h9 : a0.data.toList.length = a0.size := (by simp); omega, ?_, by have := HA.out; have := HW0.out; simp; omega⟩, I3, R3, B3⟩
            rw [← HA.out.2.2.1, HST.out, List.drop_drop, HZ.out, List.append_assoc]; rfl
        · have hnx : ∀ ty, (Instr.next (.pointer (some ⟨W1.heap.size, 0, none⟩)) true ty).run Tryd.prog wr = _ := fun ty => Go.Lib.run_next_end_at wr W1.heap.size a0 pos ty HI.out hp
          have HT2 : Aside0 (T = runesL a0.data.toList) := ⟨by
            obtain ⟨_, h2, h3, _⟩ := HA.out
            rw [List.drop_eq_nil_of_le (by simp; omega), runesL_nil, List.append_nil] at h3
            exact h3⟩
          clear HA HI hp
          go_wp2
          go_ret2
          exact ⟨_, rfl, by rw [← HT2.out]; exact Kd.R_mono HR.out (fun _ _ => trivial), HW.out⟩
    · rw [if_neg hv] at h
      obtain ⟨rfl, rfl⟩ := Prod.mk.inj h
      have HV := Aside0.mk (Bool.eq_false_iff.2 hv)
      clear h hs hv
      go_enter Tryd.func43, Tryd.ntmps43
      go_wp2_with (fail)
      refine (valid_string a0 _ (by have := HS.out; omega) HT).mono ?_
      rintro e W1 ⟨rfl, hB1⟩
      rw [HV.out]
      have HB1 := Aside0.mk hB1
      clear hB1 HB
      go_wp2
      go_ret2
      exact ⟨_, rfl, Kd.R_nil _ _ _ _ _, HB1.out⟩
  · rw [if_neg hs] at h
    cases h

-- NOT PRINTED: function 44 (lex_reader_skip)

/-! ### lex_Line: function 34 -/
def toTok (t : Int × List UInt8 × Int) : S29 := ⟨t.1, ⟨t.2.1.toArray⟩, t.2.2⟩
def lex_Line.f (a0 : ByteArray) : Option (List S29 × Int) := some ((linB a0.data.toList).1.map toTok, (linB a0.data.toList).2)
theorem lineL_step' (f : Nat) (l : List Int) : lineL (f + 1) l = if lineEnd (l.dropWhile isWht) then some [] else (match tokL (l.dropWhile isWht) with | none => none | some (t, r) => (match lineL f r with | none => none | some ts => some (t :: ts))) := rfl
theorem lineL_fuel : ∀ (f1 f2 : Nat) (l : List Int), l.length < f1 → l.length < f2 → lineL f1 l = lineL f2 l
  | 0, _, _, h, _ => absurd h (Nat.not_lt_zero _)
  | _, 0, _, _, h => absurd h (Nat.not_lt_zero _)
  | f1 + 1, f2 + 1, l, h1, h2 => by
    rw [lineL_step', lineL_step']
    split
    · rfl
    · cases ht : tokL (l.dropWhile isWht) with
      | none => rfl
      | some p =>
        obtain ⟨t, r⟩ := p
        have h3 := tokL_len ht
        have h4 := dropWhile_len (p := isWht) l
        simp only
        rw [lineL_fuel f1 f2 r (by omega) (by omega)]
theorem lineL_step (f : Nat) (l : List Int) (h : l.length < f) : lineL f l = if lineEnd (l.dropWhile isWht) then some [] else (match tokL (l.dropWhile isWht) with | none => none | some (t, r) => (lineL f r).map (t :: ·)) := by
  obtain ⟨f, rfl⟩ : ∃ g, f = g + 1 := ⟨f - 1, by omega⟩
  rw [lineL_step']
  split
  · rfl
  · cases ht : tokL (l.dropWhile isWht) with
    | none => rfl
    | some p =>
      obtain ⟨t, r⟩ := p
      have h3 := tokL_len ht
      have h4 := dropWhile_len (p := isWht) l
      simp only
      rw [lineL_fuel f (f + 1) r (by omega) (by omega)]
      cases lineL (f + 1) r <;> rfl
set_option maxHeartbeats 4000000 in
set_option maxRecDepth 100000 in
theorem lex_Line.calls (a0 : ByteArray) (r0 : List S29) (r1 : Int) (w : World) (h : lex_Line.f a0 = some (r0, r1)) (HT : Aside0 (Tabs w)) :
    Calls Tryd.prog 34 #[.string a0] w fun e w' => ∃ v0_ : Value, e = .returned (.tuple #[v0_, .int .i64 r1]) ∧ Kd.R k29 29 w' w.heap.size (fun _ => True) v0_ r0 ∧ Below w.heap.size w w' := by
  have h := Option.some.inj h
  obtain ⟨rfl, rfl⟩ := Prod.mk.inj h
  clear h
  have HB := Aside0.mk (Below.refl w.heap.size w)
  by_cases hlen : 200 < a0.size
  · have c1 : decide (200 < (a0.size : Int)) = true := decide_eq_true (by omega)
    have HN : Aside0 (linB a0.data.toList = ([], 2)) := ⟨by unfold linB; rw [if_pos (by simpa using hlen)]⟩
    clear hlen
    rw [HN.out]
    go_enter Tryd.func34, Tryd.ntmps34
    go_wp2
    go_ret2
    exact ⟨_, rfl, Kd.R_nil _ _ _ _ _, HB.out⟩
  · have c1 : decide (200 < (a0.size : Int)) = false := decide_eq_false (by omega)
    have HLn : Aside0 (a0.size ≤ 200) := ⟨by omega⟩
    by_cases hv : Go.Lib.validD a0.data.toList = true
    · have HF : Aside0 (lex_Runes.f a0 = some (runesL a0.data.toList, 0)) := ⟨by unfold lex_Runes.f; rw [if_pos (by omega), if_pos hv]⟩
      have HN : Aside0 (linB a0.data.toList = (match lineL (a0.size + 1) (runesL a0.data.toList) with | none => ([], 3) | some ts => (ts, 0))) := ⟨by unfold linB; rw [if_neg (by simpa using hlen), if_pos hv]; rfl⟩
      have HRL : Aside0 ((runesL a0.data.toList).length ≤ a0.size) := ⟨by have := runesL_len _ a0.data.toList (Nat.le_refl _); simpa using this⟩
      have HRB := Aside0.mk (runesL_bd _ a0.data.toList (Nat.le_refl _))
      generalize linB a0.data.toList = ans at *
      generalize runesL a0.data.toList = R at *
      clear hv hlen
      go_enter Tryd.func34, Tryd.ntmps34
      go_wp2_with (fail)
      refine (lex_Runes.calls a0 R 0 _ HF.out HT).mono ?_
      rintro e W1 ⟨v0, rfl, hR1, hB1⟩
      obtain ⟨A, cp, rfl, hcp, hC⟩ := Kd.R_reads hR1
      have HC := Aside0.mk hC
      have HB1 := Aside0.mk hB1
      clear hR1 hcp hC hB1 HB
      have HS1 := Aside0.mk HB1.out.size
      go_wp2
      go_loopg [6, 8, 9] (R.length + 1) (fun gk v6 _ _ wr => ∃ (a : Nat) (T : List (Int × List UInt8 × Int)), Aside0 (R.length - a < gk ∧ a ≤ R.length ∧ lineL (a0.size + 1) R = (lineL (a0.size + 1) (R.drop a)).map (T ++ ·) ∧ T.length ≤ a) ∧ Aside0 (IsS85 W1 wr W1.heap.size R a) ∧ Aside0 (Kd.R k29 29 wr W1.heap.size (fun i => i ≠ W1.heap.size) v6 (T.map toTok)) ∧ Aside0 (Below W1.heap.size W1 wr))
      case atStart => exact ⟨0, [], ⟨by omega, Nat.zero_le _, by rw [List.drop_zero]; cases lineL (a0.size + 1) R <;> rfl, Nat.le_refl _⟩, ⟨IsS85.new W1 W1 A cp R 0 (Below.refl _ _) HC.out⟩, ⟨Kd.R_nil _ _ _ _ _⟩, ⟨below_alloc (Below.refl _ _) _⟩⟩
      case round =>
        obtain ⟨a, T, HA, HI, HR, HW⟩ := hrel
        rename World => wr
        go_wp2_with (fail)
        refine (lx_skip W1.heap.size R a W1 wr HI.out HW.out (by have := HRL.out; have := HLn.out; omega) HA.out.2.1).mono ?_
        rintro e W2 ⟨a2, rfl, h1, h2, h3, hI2, hB2, hK2⟩
        have HR2 := Aside0.mk (Kd.R_keep HR.out hK2 (fun _ h => h))
        have HI2 := Aside0.mk hI2
        have HW2 := Aside0.mk hB2
        have HA2 : Aside0 (R.length - a2 < gk ∧ a2 ≤ R.length ∧ lineL (a0.size + 1) R = (if lineEnd (R.drop a2) then some [] else (match tokL (R.drop a2) with | none => none | some (t, r) => (lineL (a0.size + 1) r).map (t :: ·))).map (T ++ ·) ∧ T.length ≤ a2) := ⟨by have := HA.out.1; omega, h2, by rw [HA.out.2.2.1, lineL_step _ _ (by rw [List.length_drop]; have := HRL.out; omega), h3], by have := HA.out.2.2.2; omega⟩
        clear HA HI HR HW h1 h2 h3 hI2 hB2 hK2
        cases hb : lineEnd (R.drop a2)
        · rw [hb] at HA2
          have HLT : Aside0 (a2 < R.length) := ⟨by
            rcases Nat.lt_or_ge a2 R.length with h | h
            · exact h
            · rw [List.drop_eq_nil_of_le h] at hb; cases hb⟩
          clear hb
          go_wp2_with (fail)
          refine (lx_token W1.heap.size R a2 W1 W2 HI2.out HW2.out (by have := HRL.out; have := HLn.out; omega) HLT.out HRB.out).mono ?_
          rintro e W3 ⟨a3, ha3, hI3, hB3, hK3, hans⟩
          have HR3 := Aside0.mk (Kd.R_keep HR2.out hK3 (fun _ h => h))
          have HI3 := Aside0.mk hI3
          have HW3 := Aside0.mk hB3
          have HL3 := Aside0.mk ha3
          have HS3 := Aside0.mk hB3.size
          clear HR2 HI2 HW2 hI3 hB3 hK3 ha3
          cases ht : tokL (R.drop a2) with
          | none =>
            rw [ht] at hans HA2
            obtain ⟨k, s, v, rfl⟩ := hans
            have HE : Aside0 (ans = ([], 3)) := ⟨by rw [HN.out, HA2.out.2.2.1]; rfl⟩
            clear ht HA2
            go_wp2
            go_ret2
            rw [HE.out]
            exact ⟨_, rfl, Kd.R_nil _ _ _ _ _, HB1.out.trans ((HW3.out.trans ((below_alloc (Below.refl _ _) _).mono HS3.out)).mono HS1.out)⟩
          | some pp =>
            obtain ⟨⟨k, s, v⟩, r⟩ := pp
            rw [ht] at hans HA2
            obtain ⟨rfl, hr⟩ := hans
            have hlt := tokL_len ht
            have HA3 : Aside0 (R.length - a3 < R.length - a2 ∧ lineL (a0.size + 1) R = (lineL (a0.size + 1) (R.drop a3)).map ((T ++ [(k, s, v)]) ++ ·) ∧ a2 < a3) := ⟨by
              have hd := congrArg List.length hr
              rw [List.length_drop] at hd hlt
              have := HL3.out
              have := HLT.out
              refine ⟨by omega, ?_, by omega⟩
              rw [HA2.out.2.2.1, hr, if_neg (by decide)]
              show ((lineL (a0.size + 1) r).map ((k, s, v) :: ·)).map (T ++ ·) = _
              generalize lineL (a0.size + 1) r = o
              cases o <;> simp⟩
            have HLN : Aside0 (((T.map toTok).length + 1) * 32 ≤ 140737488355328) := ⟨by have := HA2.out; have := HRL.out; have := HLn.out; simp; omega⟩
            have HM3 : Aside0 (R.length - a2 < gk ∧ T.length + 1 ≤ a3) := ⟨by have := HA2.out; have := HA3.out; omega⟩
            clear ht hr hlt HA2
            obtain ⟨W4, hW4⟩ : ∃ W4, W3.alloc (.cells #[.int .i64 k, .string ⟨s.toArray⟩, .int .u64 v] 29) = W4 := ⟨_, rfl⟩
            have HX4 : Aside0 (Below W3.heap.size W3 W4) := ⟨by rw [← hW4]; exact below_alloc (Below.refl _ _) _⟩
            have HI4 := Aside0.mk (HI3.out.below HX4.out)
            have HR4 := Aside0.mk (Kd.R_below HR3.out HX4.out)
            have HW4 : Aside0 (Below W1.heap.size W1 W4) := ⟨HW3.out.trans (HX4.out.mono HS3.out)⟩
            have HS4 := Aside0.mk HW4.out.size
            have HB4 : Aside0 (W4.heap[W3.heap.size]? = some (.cells #[.int .i64 k, .string ⟨s.toArray⟩, .int .u64 v] 29 (0, 0))) := ⟨by rw [← hW4]; simpa using blk_new W3 _⟩
            have hx0 : W4.cell? ⟨W3.heap.size, 0, none⟩ = some (.int .i64 k) := (blk_cell HB4.out 0).trans rfl
            have hx1 : W4.cell? ⟨W3.heap.size, 1, none⟩ = some (.string ⟨s.toArray⟩) := (blk_cell HB4.out 1).trans rfl
            have hx2 : W4.cell? ⟨W3.heap.size, 2, none⟩ = some (.int .u64 v) := (blk_cell HB4.out 2).trans rfl
            go_wp2_with ((with_reducible refine gate_builtin (b := .append) (xs := #[.tmp 33, .tmp 35]) rfl ?_); at_builtin; refine Kd.R_append k29 (w0 := W1) W1.heap.size rfl (.tmp 33) (.tmp 35) 22 29 (.agg #[.int .i64 0, .string ⟨#[]⟩, .int .u64 0]) 32 rfl Tryd.underlying22 info_tok rfl (by decide) (by omega) u6 (T.map toTok) (toTok (k, s, v)) [.int .i64 k, .string ⟨s.toArray⟩, .int .u64 v] (fun i => i ≠ W1.heap.size) (fun _ => False) rfl rfl ?aP (fun _ hk => hk.elim) (fun k hk => by have := HI4.out.lt; omega) HR4.out HW4.out HS4.out HLN.out ?_; (case aP => exact ⟨_, _, rfl, rfl, ⟨_, _, rfl, rfl, rfl⟩⟩); intro v1 w3 hR5 hB5 hg5 hat5; have R5 := Aside0.mk hR5; have B5 := Aside0.mk hB5; have I5 := Aside0.mk (HI4.out.grown hg5 (fun e => HR4.out.1 _ e.symm rfl)); clear hR5 hB5 hg5 hat5)
            go_roundg (R.length - a2)
            case measure => exact HM3.out.1
            case rel => exact ⟨a3, T ++ [(k, s, v)], ⟨by have := HA3.out; omega, HL3.out, HA3.out.2.1, by have := HM3.out; simp; omega⟩, I5, ⟨by rw [List.map_append]; exact R5.out⟩, B5⟩
        · rw [hb] at HA2
          have HE : Aside0 (ans = (T, 0)) := ⟨by rw [HN.out, HA2.out.2.2.1]; simp⟩
          clear hb HA2
          go_wp2
          go_ret2
          rw [HE.out]
          exact ⟨_, rfl, Kd.R_mono (Kd.R_lower HR2.out HS1.out) (fun _ _ => trivial), HB1.out.trans (HW2.out.mono HS1.out)⟩
    · have HF : Aside0 (lex_Runes.f a0 = some ([], 3)) := ⟨by unfold lex_Runes.f; rw [if_pos (by omega), if_neg hv]⟩
      have HN : Aside0 (linB a0.data.toList = ([], 3)) := ⟨by unfold linB; rw [if_neg (by simpa using hlen), if_neg hv]⟩
      clear hlen hv
      rw [HN.out]
      go_enter Tryd.func34, Tryd.ntmps34
      go_wp2_with (fail)
      refine (lex_Runes.calls a0 [] 3 _ HF.out HT).mono ?_
      rintro e W1 ⟨v0, rfl, hR1, hB1⟩
      have HB1 := Aside0.mk hB1
      clear hR1 hB1 HB
      go_wp2
      go_ret2
      exact ⟨_, rfl, Kd.R_nil _ _ _ _ _, HB1.out⟩

end Go.Proofs.YtpndeninbokjoaaDoor.P
