/- The pool of literals: a list, and a map from each literal to its place. -/
import Derived.Test.YtoglfjeggfbngaaPx0
import Derived.Test.YtoglfjeggfbngaaPx1
import Derived.Maps.Own
import Derived.Maps.OwnOps
import Derived.Maps.OwnSet
import Derived.Maps.Views
import Derived.DeepKeys4
import Derived.MapViews
namespace Go.Proofs.Ytoglfjeggfbngaa.P
open Go.RowKit Go.Maps Go.ChangeShapes Go.WideShapes Go.Proofs.YtoglfjeggfbngaaW.PrintWords Go.Proofs.YtoglfjeggfbngaaW.PrintLast Go.Proofs.YtoglfjeggfbngaaW.PrintMore
set_option linter.unusedVariables false
set_option linter.unusedSimpArgs false
theorem laidOutP : laidOutB Try.prog = true := by kernel_rfl
theorem rowLit : (34 : TypeId) < Try.prog.types.size := of_decide_eq_true (by kernel_rfl)
theorem wideLit : (match Try.prog.underlying 34 with | some (.array _ _) | some (.struct _) => true | _ => false) = true := by rw [Try.underlying34]
theorem litKeyed : Keyed Try.prog 34 := Keyed.of_law (deep_law_laid laidOutP (m := 2) (by omega) rowLit (by kernel_rfl) wideLit)
structure Lt where
  f0 : ByteArray
  f1 : Int
  f2 : Int
deriving DecidableEq
/-- A literal, as a value. -/
def ltV (x : Lt) : Value := .agg #[.string x.f0, .int .i64 x.f1, .int .u64 x.f2]
def ltOk (x : Lt) : Prop := x.f0.size ≤ maxLen ∧ (Lit.int .i64 x.f1).wf = true ∧ (Lit.int .u64 x.f2).wf = true
theorem ltV_inj {x y : Lt} (h : ltV x = ltV y) : x = y := by
  obtain ⟨a, b, c⟩ := x
  obtain ⟨a', b', c'⟩ := y
  simp [ltV] at h
  obtain ⟨rfl, rfl, rfl⟩ := h
  rfl
theorem cellsLit : Try.prog.cellsOf 34 = 3 := by kernel_rfl
theorem lt_lits (d : Nat) {x : Lt} (h : ltOk x) : Try.prog.keyLits (d + 2) 34 [.string x.f0, .int .i64 x.f1, .int .u64 x.f2] = some [.string x.f0.data.toList, .int .i64 x.f1, .int .u64 x.f2] := by
  obtain ⟨h0, h1, h2⟩ := h
  have c9 : Try.prog.cellsOf 9 = 1 := by kernel_rfl
  have c3 : Try.prog.cellsOf 3 = 1 := by kernel_rfl
  have c28 : Try.prog.cellsOf 28 = 1 := by kernel_rfl
  simp [Program.keyLits, Try.underlying34, cellsLit, c9, c3, c28, Try.underlying9, Try.underlying3, Try.underlying28, h0, h1, h2]
/-- What a literal reads as, as a key. -/
def ltK (x : Lt) : Lit := .string (keyBytes [.string x.f0.data.toList, .int .i64 x.f1, .int .u64 x.f2])
theorem lt_key {x : Lt} (h : ltOk x) : keyOf Try.prog 34 (ltV x) = some (ltK x) := by
  have hc : (ltV x).cells.toList = [.string x.f0, .int .i64 x.f1, .int .u64 x.f2] := by simp [ltV, Value.cells]
  have hf : (ltV x).formed Try.prog 34 = true := by simp [Value.formed, Try.underlying34, ltV, Value.cells, cellsLit]
  have hk : Try.prog.keyType 34 = true := by kernel_rfl
  obtain ⟨d, hd⟩ : ∃ d, Try.prog.types.size = d + 1 := ⟨Try.prog.types.size - 1, (Nat.sub_add_cancel (Nat.lt_of_le_of_lt (Nat.zero_le _) rowLit)).symm⟩
  unfold keyOf
  rw [Try.underlying34]
  simp only [hf, hc, hk, Bool.and_true, if_true]
  rw [hd, lt_lits d h]
  rfl
theorem ltK_inj {x y : Lt} (hx : ltOk x) (hy : ltOk y) (h : ltK x = ltK y) : x = y := ltV_inj (litKeyed.inj (lt_key hx) (h ▸ lt_key hy))
theorem ltK_isKey (x : Lt) : WideAt.IsKeyLit (ltK x) := trivial
/-- The map tells the places of the literals of a list. -/
def Mr (D : DataW Unit) (l : List Lt) : Prop :=
  Tidy D ∧ ∀ x, ltOk x → has D (ltK x) = decide (x ∈ l) ∧ (x ∈ l → D.atKey (ltK x) (.lit (.int .i64 0)) = .lit (.int .i64 ((l.idxOf x : Nat) : Int)))
theorem mr_nil : Mr (.map []) [] := ⟨tidy_empty, fun x _ => ⟨by simp [has], by simp⟩⟩
theorem mr_put {D : DataW Unit} {l : List Lt} (h : Mr D l) {x : Lt} (hx : ltOk x) (hn : x ∉ l) : Mr (D.put (ltK x) (.lit (.int .i64 ((l.length : Nat) : Int)))) (l ++ [x]) := by
  refine ⟨h.1.put (ltK_isKey x) _, fun y hy => ?_⟩
  by_cases e : y = x
  · subst e
    refine ⟨by rw [has_put_same h.1.isMap (ltK_isKey y)]; simp, fun _ => ?_⟩
    rw [atKey_put_same h.1.isMap (ltK_isKey y), List.idxOf_append, if_neg hn]
    simp
  · have hk : ltK y ≠ ltK x := fun e2 => e (ltK_inj hy hx e2)
    obtain ⟨h1, h2⟩ := h.2 y hy
    refine ⟨by rw [has_put_other hk, h1]; simp [e], fun hm => ?_⟩
    have hm2 : y ∈ l := by simpa [e] using hm
    rw [atKey_put_other hk, h2 hm2, List.idxOf_append, if_pos hm2]
end Go.Proofs.Ytoglfjeggfbngaa.P
