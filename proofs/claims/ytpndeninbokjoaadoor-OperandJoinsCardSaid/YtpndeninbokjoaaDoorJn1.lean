/- A reader over tokens that stand ahead of a comma, or at the end, reads what it reads alone. -/
import Derived.Test.YtpndeninbokjoaaDoorPx11
namespace Go.Proofs.YtpndeninbokjoaaDoor.Jn
open Go.RowKit Go.Proofs.YtpndeninbokjoaaDoor.P Go.Proofs.YtpndeninbokjoaaDoorW.PrintWords Go.Proofs.YtpndeninbokjoaaDoorW.PrintLast Go.Proofs.YtpndeninbokjoaaDoorW.PrintMore
set_option linter.unusedVariables false
set_option linter.unusedSimpArgs false
abbrev Tk := S29
abbrev comma : Tk := ⟨4, ⟨#[44]⟩, 0⟩
/-- L stands in M from n on; behind it is the end, or a comma. -/
structure Sim (n : Nat) (L M : List Tk) : Prop where
 low : ∀ p, p < L.length → tk M (n + p) = tk L p
 fin : tk M (n + L.length) = ⟨0, ⟨#[]⟩, 0⟩ ∨ tk M (n + L.length) = comma
theorem sgB_eq (M : List Tk) (p : Nat) (s : ByteArray) : sgB M p s = ((tk M p).f0 == 4 && (tk M p).f1.data.toList == s.data.toList) := by
 unfold sgB; rw [ByteArray.toList_eq, ByteArray.toList_eq]
theorem sgB_comma {M : List Tk} {p : Nat} (h : tk M p = comma) (s : ByteArray) (hs : s.data.toList ≠ [44]) : sgB M p s = false := by
 rw [sgB_eq, h]
 simpa using fun h => hs h.symm
theorem sgB_end {M : List Tk} {p : Nat} (h : tk M p = ⟨0, ⟨#[]⟩, 0⟩) (s : ByteArray) : sgB M p s = false := by
 rw [sgB_eq, h]; rfl
theorem nameT_comma : nameT comma = false := by kernel_rfl
theorem nameT_end : nameT ⟨0, ⟨#[]⟩, 0⟩ = false := by kernel_rfl
variable {n : Nat} {L M : List Tk}
theorem Sim.sgB (S : Sim n L M) {p : Nat} (hp : p ≤ L.length) (s : ByteArray) (hs : s.data.toList ≠ [44]) : sgB M (n + p) s = sgB L p s := by
 rcases Nat.lt_or_eq_of_le hp with h | rfl
 ·unfold P.sgB; rw [S.low p h]
 ·rw [sgB_end (M := L) (tk_end (Nat.le_refl _)) s]
  rcases S.fin with h | h
  ·exact sgB_end h s
  ·exact sgB_comma h s hs
theorem Sim.sgN (S : Sim n L M) {p : Nat} (hp : p ≤ L.length) (s : ByteArray) (hs : s.data.toList ≠ [44]) : sgN M (n + p) s = n + sgN L p s := by
 unfold P.sgN; rw [S.sgB hp s hs]; split <;> omega
theorem Sim.sgT (S : Sim n L M) {p : Nat} (s : ByteArray) (h : P.sgB L p s = true) : P.sgB M (n + p) s = true := by
 have hp := sgB_lt h
 unfold P.sgB at h ⊢; rwa [S.low p hp]
theorem Sim.val (S : Sim n L M) {ch : Bool} {p : Nat} {E v : Int} {q : Nat} {E' : Int} (h : valP ch L p E = some (v, q, E')) : valP ch M (n + p) E = some (v, n + q, E') := by
 have hp := (valP_le h).2
 have hq := (valP_le h).1
 subst hq
 unfold valP at h ⊢
 rw [S.low p hp]
 split at h
 ·rename_i h1; rw [if_pos h1]; cases h; rfl
 ·rename_i h1
  rw [if_neg h1]
  split at h
  ·cases h
  ·rename_i h2
   rw [if_neg h2]
   split at h
   ·rename_i h3; rw [if_pos h3]; cases h; rfl
   ·rename_i h3
    rw [if_neg h3]
    cases hw : wrE (valS (tk L p).f1).2 E with
    | none => rw [hw] at h; cases h
    | some z => rw [hw] at h; cases h; rfl
theorem Sim.num (S : Sim n L M) {p : Nat} (hp : p ≤ L.length) {E : Int} {x : Bool × Int} {q : Nat} {E' : Int} (h : numP L p E = some (x, q, E')) : numP M (n + p) E = some (x, n + q, E') := by
 unfold numP at h ⊢
 rw [S.sgN hp _ (by decide), S.sgB hp _ (by decide)]
 cases hv : valP true L (P.sgN L p ⟨#[45]⟩) E with
 | none => rw [hv] at h; cases h
 | some y =>
  obtain ⟨v, r, e⟩ := y
  rw [hv] at h
  cases h
  rw [S.val hv]; rfl
theorem Sim.add (S : Sim n L M) {mi : Bool} {p : Nat} {E x : Int} {q : Nat} {E' : Int} (h : addP mi L p E = some (x, q, E')) : addP mi M (n + p) E = some (x, n + q, E') := by
 unfold addP at h ⊢
 cases hv : valP false L p E with
 | none => rw [hv] at h; cases h
 | some y =>
  obtain ⟨v, r, e⟩ := y
  rw [hv, Option.bind_some] at h
  rw [S.val hv, Option.bind_some]
  simp only at h ⊢
  split at h
  ·rename_i h1; rw [if_pos h1]; cases h; rfl
  ·rename_i h1
   rw [if_neg h1]
   cases hw : wrE (sigS mi v).2 e with
   | none => rw [hw] at h; cases h
   | some z => rw [hw] at h; cases h; rfl
theorem Sim.sym (S : Sim n L M) {p : Nat} (hp : p < L.length) {E : Int} {x : ByteArray × Int} {q : Nat} {E' : Int} (h : symP L p E = some (x, q, E')) : symP M (n + p) E = some (x, n + q, E') := by
 unfold symP at h ⊢
 rw [show n + p + 1 = n + (p + 1) by omega, show n + p + 2 = n + (p + 2) by omega, S.sgB (by omega) _ (by decide), S.sgB (by omega) _ (by decide), S.low p hp]
 split at h
 ·rename_i h1
  rw [if_pos h1]
  cases hv : addP true L (p + 2) E with
  | none => rw [hv] at h; cases h
  | some y => obtain ⟨v, r, e⟩ := y; rw [hv] at h; cases h; rw [S.add hv]; rfl
 ·rename_i h1
  rw [if_neg h1]
  split at h
  ·rename_i h2
   rw [if_pos h2]
   cases hv : addP false L (p + 2) E with
   | none => rw [hv] at h; cases h
   | some y => obtain ⟨v, r, e⟩ := y; rw [hv] at h; cases h; rw [S.add hv]; rfl
  ·rename_i h2
   rw [if_neg h2]
   cases h; rfl
theorem Sim.name (S : Sim n L M) {p : Nat} (hp : p ≤ L.length) : nameT (tk M (n + p)) = nameT (tk L p) := by
 rcases Nat.lt_or_eq_of_le hp with h | rfl
 ·rw [S.low p h]
 ·rw [tk_end (L := L) (Nat.le_refl _), nameT_end]
  rcases S.fin with h | h
  ·rw [h, nameT_end]
  ·rw [h, nameT_comma]
theorem Sim.exp (S : Sim n L M) {p : Nat} (hp : p ≤ L.length) {E : Int} {x : Ex} {q : Nat} {E' : Int} (h : expP L p E = some (x, q, E')) : expP M (n + p) E = some (x, n + q, E') := by
 unfold expP at h ⊢
 rw [S.name hp]
 split at h
 ·rename_i hn
  rw [if_pos hn]
  cases hv : symP L p E with
  | none => rw [hv] at h; cases h
  | some y => obtain ⟨v, r, e⟩ := y; rw [hv] at h; cases h; rw [S.sym (tk_lt (nameT_kind hn)) hv]; rfl
 ·rename_i hn
  rw [if_neg hn]
  cases hv : numP L p E with
  | none => rw [hv] at h; cases h
  | some y => obtain ⟨v, r, e⟩ := y; rw [hv] at h; cases h; rw [S.num hp hv]; rfl
theorem Sim.lowP (S : Sim n L M) {p : Nat} {E : Int} {x : ByteArray × Int} {q : Nat} {E' : Int} (h : lowP L p E = some (x, q, E')) : lowP M (n + p) E = some (x, n + q, E') := by
 unfold P.lowP at h ⊢
 split at h
 ·rename_i h1
  have hp : p < L.length := tk_lt (by rw [h1.1]; decide)
  rw [S.low p hp, if_pos h1]
  split at h
  ·rename_i h2
   have h3 := sgB_lt h2
   rw [show n + p + 1 = n + (p + 1) by omega, show n + p + 2 = n + (p + 2) by omega, if_pos (S.sgT _ h2)]
   cases hv : expP L (p + 2) E with
   | none => rw [hv] at h; cases h
   | some y =>
    obtain ⟨v, r, e⟩ := y
    rw [hv, Option.bind_some] at h
    rw [S.exp (by omega) hv, Option.bind_some]
    cases v with
    | inl n => cases h
    | inr s => cases h; rfl
  ·cases h
 ·cases h
theorem Sim.reg (S : Sim n L M) {p : Nat} (hp : p ≤ L.length) : regP M (n + p) = regP L p := by
 rcases Nat.lt_or_eq_of_le hp with h | rfl
 ·unfold regP; rw [S.low p h]
 ·unfold regP
  rw [tk_end (L := L) (Nat.le_refl _)]
  rcases S.fin with h | h
  ·rw [h]
  ·rw [h, if_neg (by simp), if_neg (by simp)]
theorem Sim.mem (S : Sim n L M) {p : Nat} (hp : p ≤ L.length) {E : Int} {x : S44} {q : Nat} {E' : Int} (h : memP L p E = some (x, q, E')) : memP M (n + p) E = some (x, n + q, E') := by
 unfold memP at h ⊢
 rw [S.reg hp]
 cases hg : regP L p with
 | none => rw [hg] at h; cases h
 | some ns =>
  obtain ⟨a, st⟩ := ns
  have hl := regP_lt hg
  rw [hg] at h
  simp only at h ⊢
  rw [show n + p + 1 = n + (p + 1) by omega, show n + p + 2 = n + (p + 2) by omega, show n + p + 3 = n + (p + 3) by omega, S.sgB (by omega) _ (by decide)]
  split at h
  ·rename_i h1
   rw [if_pos h1]
   cases h; rfl
  ·rename_i h1
   rw [if_neg h1]
   split at h
   ·rename_i h2
    have h3 := sgB_lt h2
    rw [if_pos (S.sgT _ h2), S.sgB (by omega) _ (by decide), S.sgN (by omega) _ (by decide)]
    split at h
    ·rename_i h4
     rw [if_pos h4]
     cases hv : P.lowP L (p + 3) E with
     | none => rw [hv] at h; cases h
     | some y =>
      obtain ⟨v, r, e⟩ := y
      rw [hv, Option.bind_some] at h
      rw [S.lowP hv, Option.bind_some]
      simp only at h ⊢
      split at h
      ·rename_i h5; rw [if_pos (S.sgT _ h5)]; cases h; rfl
      ·cases h
    ·rename_i h4
     rw [if_neg h4]
     cases hv : valP true L (P.sgN L (p + 2) ⟨#[35]⟩) E with
     | none => rw [hv] at h; cases h
     | some y =>
      obtain ⟨v, r, e⟩ := y
      rw [hv, Option.bind_some] at h
      rw [S.val hv, Option.bind_some]
      simp only at h ⊢
      split at h
      ·rename_i h5; rw [if_pos (S.sgT _ h5)]; cases h; rfl
      ·cases h
   ·cases h
theorem Sim.kind (S : Sim n L M) {p : Nat} (hp : p ≤ L.length) (X : Prop) : ((tk M (n + p)).f0 = 1 ∧ 0 ≤ shS (tk M (n + p)).f1) = ((tk L p).f0 = 1 ∧ 0 ≤ shS (tk L p).f1) := by
 rcases Nat.lt_or_eq_of_le hp with h | rfl
 ·rw [S.low p h]
 ·rw [tk_end (L := L) (Nat.le_refl _)]
  rcases S.fin with h | h
  ·rw [h]
  ·rw [h]; simp
theorem Sim.opr (S : Sim n L M) {p : Nat} (hp : p < L.length) {E : Int} {x : S44} {q : Nat} {E' : Int} (h : oprP L p E = some (x, q, E')) : oprP M (n + p) E = some (x, n + q, E') := by
 unfold oprP at h ⊢
 rw [S.reg (by omega), S.low p hp]
 cases hg : regP L p with
 | some ns =>
  obtain ⟨a, st⟩ := ns
  rw [hg] at h
  cases h; rfl
 | none =>
  rw [hg] at h
  simp only at h ⊢
  have hN : P.sgN L p ⟨#[35]⟩ ≤ L.length := sgN_le (by omega)
  rw [show n + p + 1 = n + (p + 1) by omega, S.sgB (by omega) _ (by decide), S.sgB (by omega) _ (by decide), S.sgB (by omega) _ (by decide), S.sgN (by omega) _ (by decide), S.sgN (by omega) _ (by decide), S.sgB hN _ (by decide)]
  split at h
  ·rename_i h1
   rw [if_pos h1]
   cases hv : valP true L (P.sgN L (p + 1) ⟨#[35]⟩) E with
   | none => rw [hv] at h; cases h
   | some y => obtain ⟨v, r, e⟩ := y; rw [hv] at h; cases h; rw [S.val hv]; rfl
  ·rename_i h1
   rw [if_neg h1]
   split at h
   ·rename_i h2
    rw [if_pos h2]
    exact S.mem (by omega) h
   ·rename_i h2
    rw [if_neg h2]
    split at h
    ·rename_i h3
     rw [if_pos h3]
     cases hv : expP L (p + 1) E with
     | none => rw [hv] at h; cases h
     | some y => obtain ⟨v, r, e⟩ := y; rw [hv] at h; cases h; rw [S.exp (by omega) hv]; rfl
    ·rename_i h3
     rw [if_neg h3]
     split at h
     ·rename_i h4
      rw [if_pos h4, Nat.add_assoc]
      cases hv : P.lowP L (P.sgN L p ⟨#[35]⟩ + 1) E with
      | none => rw [hv] at h; cases h
      | some y => obtain ⟨v, r, e⟩ := y; rw [hv] at h; cases h; rw [S.lowP hv]; rfl
     ·rename_i h4
      rw [if_neg h4]
      split at h
      ·rename_i h5
       rw [if_pos h5]
       cases hv : numP L (p + 1) E with
       | none => rw [hv] at h; cases h
       | some y => obtain ⟨v, r, e⟩ := y; rw [hv] at h; cases h; rw [S.num (by omega) hv]; rfl
      ·rename_i h5
       rw [if_neg h5]
       cases hv : expP L p E with
       | none => rw [hv] at h; cases h
       | some y => obtain ⟨v, r, e⟩ := y; rw [hv] at h; cases h; rw [S.exp (by omega) hv]; rfl
/-! ### No operand ends with a comma -/
def Nc (L : List Tk) (q : Nat) : Prop := sgB L (q - 1) ⟨#[44]⟩ = false
theorem nc_kind {p : Nat} (h : (tk L p).f0 ≠ 4) : Nc L (p + 1) := by
 unfold Nc; rw [sgB_eq, Nat.add_sub_cancel, beq_eq_false_iff_ne.2 h]; rfl
theorem nc_sign {p : Nat} {s : ByteArray} (hs : s.data.toList ≠ [44]) (h : sgB L p s = true) : Nc L (p + 1) := by
 rw [sgB_eq] at h
 unfold Nc
 rw [sgB_eq, Nat.add_sub_cancel]
 simp only [Bool.and_eq_true, beq_iff_eq] at h
 rw [h.2, beq_eq_false_iff_ne.2 (show s.data.toList ≠ (⟨#[44]⟩ : ByteArray).data.toList from hs), Bool.and_false]
theorem nc_val {ch : Bool} {p : Nat} {E v : Int} {q : Nat} {E' : Int} (h : valP ch L p E = some (v, q, E')) : Nc L q := by
 have hq := (valP_le h).1
 subst hq
 apply nc_kind
 intro h4
 unfold valP at h
 rw [h4] at h
 simp at h
theorem nc_num {p : Nat} {E : Int} {x : Bool × Int} {q : Nat} {E' : Int} (h : numP L p E = some (x, q, E')) : Nc L q := by
 unfold numP at h
 cases hv : valP true L (P.sgN L p ⟨#[45]⟩) E with
 | none => rw [hv] at h; cases h
 | some y => obtain ⟨v, r, e⟩ := y; rw [hv] at h; cases h; exact nc_val hv
theorem nc_add {mi : Bool} {p : Nat} {E x : Int} {q : Nat} {E' : Int} (h : addP mi L p E = some (x, q, E')) : Nc L q := by
 unfold addP at h
 cases hv : valP false L p E with
 | none => rw [hv] at h; cases h
 | some y =>
  obtain ⟨v, r, e⟩ := y
  rw [hv, Option.bind_some] at h
  simp only at h
  split at h
  ·cases h; exact nc_val hv
  ·cases hw : wrE (sigS mi v).2 e with
   | none => rw [hw] at h; cases h
   | some z => rw [hw] at h; cases h; exact nc_val hv
theorem nc_sym {p : Nat} (h4 : (tk L p).f0 ≠ 4) {E : Int} {x : ByteArray × Int} {q : Nat} {E' : Int} (h : symP L p E = some (x, q, E')) : Nc L q := by
 unfold symP at h
 split at h
 ·cases hv : addP true L (p + 2) E with
  | none => rw [hv] at h; cases h
  | some y => obtain ⟨v, r, e⟩ := y; rw [hv] at h; cases h; exact nc_add hv
 ·split at h
  ·cases hv : addP false L (p + 2) E with
   | none => rw [hv] at h; cases h
   | some y => obtain ⟨v, r, e⟩ := y; rw [hv] at h; cases h; exact nc_add hv
  ·cases h; exact nc_kind h4
theorem name_kind {t : Tk} (h : nameT t = true) : t.f0 ≠ 4 := by
 intro e
 unfold nameT operand_isName.f at h
 rw [e, if_neg (by decide), if_neg (by decide)] at h
 cases h
theorem nc_exp {p : Nat} {E : Int} {x : Ex} {q : Nat} {E' : Int} (h : expP L p E = some (x, q, E')) : Nc L q := by
 unfold expP at h
 split at h
 ·rename_i hn
  cases hv : symP L p E with
  | none => rw [hv] at h; cases h
  | some y => obtain ⟨v, r, e⟩ := y; rw [hv] at h; cases h; exact nc_sym (name_kind hn) hv
 ·cases hv : numP L p E with
  | none => rw [hv] at h; cases h
  | some y => obtain ⟨v, r, e⟩ := y; rw [hv] at h; cases h; exact nc_num hv
theorem nc_low {p : Nat} {E : Int} {x : ByteArray × Int} {q : Nat} {E' : Int} (h : P.lowP L p E = some (x, q, E')) : Nc L q := by
 unfold P.lowP at h
 split at h
 ·split at h
  ·cases hv : expP L (p + 2) E with
   | none => rw [hv] at h; cases h
   | some y =>
    obtain ⟨v, r, e⟩ := y
    rw [hv, Option.bind_some] at h
    cases v with
    | inl n => cases h
    | inr s => cases h; exact nc_exp hv
  ·cases h
 ·cases h
theorem nc_mem {p : Nat} {E : Int} {x : S44} {q : Nat} {E' : Int} (h : memP L p E = some (x, q, E')) : Nc L q := by
 unfold memP at h
 cases hg : regP L p with
 | none => rw [hg] at h; cases h
 | some ns =>
  obtain ⟨a, st⟩ := ns
  rw [hg] at h
  simp only at h
  split at h
  ·rename_i h1
   cases h
   exact nc_sign (by decide) h1
  ·split at h
   ·split at h
    ·cases hv : P.lowP L (p + 3) E with
     | none => rw [hv] at h; cases h
     | some y =>
      obtain ⟨v, r, e⟩ := y
      rw [hv, Option.bind_some] at h
      simp only at h
      split at h
      ·rename_i h5; cases h; exact nc_sign (by decide) h5
      ·cases h
    ·cases hv : valP true L (P.sgN L (p + 2) ⟨#[35]⟩) E with
     | none => rw [hv] at h; cases h
     | some y =>
      obtain ⟨v, r, e⟩ := y
      rw [hv, Option.bind_some] at h
      simp only at h
      split at h
      ·rename_i h5; cases h; exact nc_sign (by decide) h5
      ·cases h
   ·cases h
theorem nc_opr {p : Nat} {E : Int} {x : S44} {q : Nat} {E' : Int} (h : oprP L p E = some (x, q, E')) : Nc L q := by
 unfold oprP at h
 cases hg : regP L p with
 | some ns =>
  obtain ⟨a, st⟩ := ns
  rw [hg] at h
  cases h
  apply nc_kind
  unfold regP at hg
  split at hg
  ·rename_i h1; rw [h1.1]; decide
  ·cases hg
 | none =>
  rw [hg] at h
  simp only at h
  split at h
  ·cases hv : valP true L (P.sgN L (p + 1) ⟨#[35]⟩) E with
   | none => rw [hv] at h; cases h
   | some y => obtain ⟨v, r, e⟩ := y; rw [hv] at h; cases h; exact nc_val hv
  ·split at h
   ·exact nc_mem h
   ·split at h
    ·cases hv : expP L (p + 1) E with
     | none => rw [hv] at h; cases h
     | some y => obtain ⟨v, r, e⟩ := y; rw [hv] at h; cases h; exact nc_exp hv
    ·split at h
     ·cases hv : P.lowP L (P.sgN L p ⟨#[35]⟩ + 1) E with
      | none => rw [hv] at h; cases h
      | some y => obtain ⟨v, r, e⟩ := y; rw [hv] at h; cases h; exact nc_low hv
     ·split at h
      ·cases hv : numP L (p + 1) E with
       | none => rw [hv] at h; cases h
       | some y => obtain ⟨v, r, e⟩ := y; rw [hv] at h; cases h; exact nc_num hv
      ·cases hv : expP L p E with
       | none => rw [hv] at h; cases h
       | some y => obtain ⟨v, r, e⟩ := y; rw [hv] at h; cases h; exact nc_exp hv
/-- A comma is no operand. -/
theorem opr_comma {p : Nat} (h : tk M p = comma) (E : Int) : oprP M p E = none := by
 have hr : regP M p = none := by unfold regP; rw [h, if_neg (by simp)]
 unfold oprP
 rw [hr]
 simp only
 have hN : ∀ s : ByteArray, s.data.toList ≠ [44] → P.sgN M p s = p := fun s hs => by unfold P.sgN; rw [sgB_comma h s hs]; rfl
 rw [hN _ (by decide), sgB_comma h _ (by decide), sgB_comma h _ (by decide), sgB_comma h _ (by decide), sgB_comma h _ (by decide), h, if_neg (by simp), if_neg (by simp), if_neg (by simp), if_neg (by simp), if_neg (by simp)]
 unfold expP
 rw [h, nameT_comma, if_neg (by decide)]
 unfold numP
 rw [hN _ (by decide)]
 unfold valP
 rw [h]
 rfl
/-! ### The loop -/
theorem par_nil (hc : sgB M (M.length - 1) ⟨#[44]⟩ = true) : ∀ (f p : Nat) (E : Int) (acc : List S44), p < M.length → parP f M p E acc = none
 | 0, _, _, _, _ => rfl
 | f + 1, p, E, acc, hp => by
  rw [parP, if_pos hp]
  cases ho : oprP M p E with
  | none => rfl
  | some y =>
   obtain ⟨x, q, E'⟩ := y
   rw [Option.bind_some]
   have hl := oprP_le ho
   simp only
   by_cases hq : q < M.length
   ·rw [if_pos hq]
    split
    ·split
     ·rfl
     ·exact par_nil hc f _ _ _ (by omega)
    ·rfl
   ·exfalso
    have := nc_opr ho
    unfold Nc at this
    rw [show q - 1 = M.length - 1 by omega, hc] at this
    cases this
theorem par_first (S : Sim 0 L M) (hM : L.length + 1 < M.length) (hc : tk M L.length = comma) (f' : Nat) : ∀ (f p : Nat) (E : Int) (acc r : List S44) (E' : Int), p < L.length → parP f L p E acc = some (r, E') →
  ∃ g, f' ≤ g ∧ parP (f + f') M p E acc = parP g M (L.length + 1) E' r
 | 0, _, _, _, _, _, _, h => by cases h
 | f + 1, p, E, acc, r, E', hp, h => by
  rw [parP, if_pos hp] at h
  rw [show f + 1 + f' = (f + f') + 1 by omega, parP, if_pos (by omega)]
  cases ho : oprP L p E with
  | none => rw [ho] at h; cases h
  | some y =>
   obtain ⟨x, q, e⟩ := y
   rw [ho, Option.bind_some] at h
   have hl := oprP_le ho
   have h2 := S.opr hp ho
   rw [Nat.zero_add, Nat.zero_add] at h2
   rw [h2, Option.bind_some]
   simp only at h ⊢
   rw [if_pos (by omega)]
   by_cases hq : q < L.length
   ·rw [if_pos hq] at h
    split at h
    ·rename_i h3
     have h4 := S.sgT _ h3
     rw [Nat.zero_add] at h4
     rw [if_pos h4]
     split at h
     ·cases h
     ·rw [if_neg (by omega)]
      exact par_first S hM hc f' f _ _ _ _ _ (by omega) h
    ·cases h
   ·rw [if_neg hq] at h
    obtain rfl : q = L.length := by omega
    cases h
    rw [if_pos (by rw [sgB_eq, hc]; rfl), if_neg (by omega)]
    exact ⟨_, by omega, rfl⟩
theorem par_second (S : Sim n L M) (hM : M.length = n + L.length) (pre : List S44) : ∀ (f g p : Nat) (E : Int) (acc r : List S44) (E' : Int), f ≤ g → parP f L p E acc = some (r, E') →
  parP g M (n + p) E (pre ++ acc) = some (pre ++ r, E')
 | 0, _, _, _, _, _, _, _, h => by cases h
 | f + 1, g, p, E, acc, r, E', hg, h => by
  obtain ⟨g', rfl⟩ : ∃ g', g = g' + 1 := ⟨g - 1, by omega⟩
  rw [parP] at h ⊢
  by_cases hp : p < L.length
  ·rw [if_pos hp] at h
   rw [if_pos (by omega)]
   cases ho : oprP L p E with
   | none => rw [ho] at h; cases h
   | some y =>
    obtain ⟨x, q, e⟩ := y
    rw [ho, Option.bind_some] at h
    have hl := oprP_le ho
    rw [S.opr hp ho, Option.bind_some]
    simp only at h ⊢
    by_cases hq : q < L.length
    ·rw [if_pos hq] at h
     rw [if_pos (by omega)]
     split at h
     ·rename_i h3
      rw [if_pos (S.sgT _ h3)]
      split at h
      ·cases h
      ·rw [if_neg (by omega), Nat.add_assoc, List.append_assoc]
       exact par_second S hM pre f g' _ _ _ _ _ (by omega) h
     ·cases h
    ·rw [if_neg hq] at h
     rw [if_neg (by omega)]
     cases h
     rw [List.append_assoc]
  ·rw [if_neg hp] at h
   rw [if_neg (by omega)]
   cases h; rfl
theorem par_len : ∀ (f p : Nat) (E : Int) (acc r : List S44) (E' : Int), parP f L p E acc = some (r, E') → r.length ≤ acc.length + (L.length - p)
 | 0, _, _, _, _, _, h => by cases h
 | f + 1, p, E, acc, r, E', h => by
  rw [parP] at h
  by_cases hp : p < L.length
  ·rw [if_pos hp] at h
   cases ho : oprP L p E with
   | none => rw [ho] at h; cases h
   | some y =>
    obtain ⟨x, q, e⟩ := y
    rw [ho, Option.bind_some] at h
    have hl := oprP_le ho
    simp only at h
    split at h
    ·split at h
     ·split at h
      ·cases h
      ·have := par_len f _ _ _ _ _ h
       rw [List.length_append, List.length_singleton] at this
       omega
     ·cases h
    ·cases h
     rw [List.length_append, List.length_singleton]
     omega
  ·rw [if_neg hp] at h
   cases h; omega
/-! ### Two rows with a comma between -/
theorem tk_app (l m : List Tk) : ∀ p, tk (l ++ m) (l.length + p) = tk m p := fun p => by
 unfold tk
 rw [List.getD_eq_getElem?_getD, List.getD_eq_getElem?_getD, List.getElem?_append_right (by omega)]
 congr 2; omega
theorem tk_low (l m : List Tk) {p : Nat} (h : p < l.length) : tk (l ++ m) p = tk l p := by
 unfold tk
 rw [List.getD_eq_getElem?_getD, List.getD_eq_getElem?_getD, List.getElem?_append_left h]
theorem sim_left (l m : List Tk) : Sim 0 l ((l ++ [comma]) ++ m) :=
 ⟨fun p h => by rw [Nat.zero_add, List.append_assoc, tk_low _ _ h], Or.inr (by rw [Nat.zero_add, List.append_assoc, show l.length = l.length + 0 from rfl, tk_app]; rfl)⟩
theorem sim_right (l m : List Tk) : Sim (l.length + 1) m ((l ++ [comma]) ++ m) := by
 have e : l.length + 1 = (l ++ [comma]).length := by simp
 exact ⟨fun p h => by rw [e, tk_app], Or.inl (by rw [e]; exact tk_end (by simp; omega))⟩
theorem parse_none (l m : List Tk) (h : l.length = 0 ∨ m.length = 0) : parseF ((l ++ [comma]) ++ m) = ([], 3) := by
 have e : parP (((l ++ [comma]) ++ m).length + 1) ((l ++ [comma]) ++ m) 0 0 [] = none := by
  rcases h with h | h
  ·obtain rfl := List.eq_nil_of_length_eq_zero h
   rw [parP, if_pos (by simp), opr_comma (by rfl)]
   rfl
  ·obtain rfl := List.eq_nil_of_length_eq_zero h
   refine par_nil ?_ _ _ _ _ (by simp)
   rw [sgB_eq, List.append_nil, show (l ++ [comma]).length - 1 = l.length + 0 by simp, tk_app]
   rfl
 unfold parseF
 rw [e]
theorem parse_ok {l : List Tk} {a : List S44} (h : parseF l = (a, 0)) : parP (l.length + 1) l 0 0 [] = some (a, 0) := by
 unfold parseF at h
 split at h
 ·cases h
 ·rename_i r E hr
  split at h
  ·rename_i h0; cases h; rw [hr, h0]
  ·rename_i h0; cases h; exact absurd rfl h0
theorem parse_both (l m : List Tk) (hl : l.length ≠ 0) (hm : m.length ≠ 0) {a b : List S44} (ha : parseF l = (a, 0)) (hb : parseF m = (b, 0)) : parseF ((l ++ [comma]) ++ m) = (a ++ b, 0) := by
 obtain ⟨g, hg, h1⟩ := par_first (sim_left l m) (by simp; omega) (by rw [List.append_assoc, show l.length = l.length + 0 from rfl, tk_app]; rfl) (m.length + 1) (l.length + 1) 0 0 [] a 0 (by omega) (parse_ok ha)
 have h2 := par_second (sim_right l m) (by simp; omega) a (m.length + 1) g 0 0 [] b 0 hg (parse_ok hb)
 rw [List.append_nil, Nat.add_zero] at h2
 have e : parP (((l ++ [comma]) ++ m).length + 1) ((l ++ [comma]) ++ m) 0 0 [] = some (a ++ b, 0) := by
  rw [show ((l ++ [comma]) ++ m).length + 1 = l.length + 1 + (m.length + 1) by simp; omega, h1, h2]
 unfold parseF
 rw [e]
 rfl
theorem parse_len {l : List Tk} {a : List S44} {e : Int} (h : parseF l = (a, e)) : a.length ≤ l.length := by
 unfold parseF at h
 split at h
 ·cases h; simp
 ·rename_i r E hr
  have := par_len _ _ _ _ _ _ hr
  split at h
  ·cases h; simpa using this
  ·cases h; simp
end Go.Proofs.YtpndeninbokjoaaDoor.Jn
