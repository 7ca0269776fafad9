/- The document's rows on the pool (pooled), walked by hand. -/
import Derived.Test.YtoglfjeggfbngaaPs
namespace Go.Proofs.Ytoglfjeggfbngaa.P
open Go.RowKit Go.Maps Go.MapKept Go.ChangeMaps Go.ChangeShapes Go.WideShapes Go.Proofs.YtoglfjeggfbngaaW.PrintWords Go.Proofs.YtoglfjeggfbngaaW.PrintLast Go.Proofs.YtoglfjeggfbngaaW.PrintMore
set_option linter.unusedVariables false
set_option linter.unusedSimpArgs false
def nA : Nd := ⟨10, ⟨#[]⟩, 0, true, 1⟩
def nB : Nd := ⟨10, ⟨#[]⟩, 0, false, 18446744073709551615⟩
def nC : Nd := ⟨10, ⟨#[97]⟩, 8, false, 0⟩
def nD : Nd := ⟨10, ⟨#[97]⟩, 0, false, 0⟩
def nE : Nd := ⟨4, ⟨#[97]⟩, 0, false, 0⟩
def lA : List Lt := [⟨⟨#[]⟩, 0, 18446744073709551615⟩]
def lC : List Lt := lA ++ [⟨⟨#[97]⟩, 8, 0⟩]
def lD : List Lt := lC ++ [⟨⟨#[97]⟩, 0, 0⟩]
theorem put_nA (B b : Nat) (w : World) (hBw : B ≤ w.heap.size) (h : PoolAt B b [] w) : Calls Try.prog 9 #[.pointer (some ⟨b, 0, none⟩), .agg #[.int .i64 10, .string ⟨#[]⟩, .int .i64 0, .bool true, .int .u64 1]] w fun e w' => e = .returned (.tuple #[.int .i64 0, .int .i64 0]) ∧ PoolAt B b lA w' ∧ Below B w w' ∧ Kept b w w' :=
  pool_put B b [] nA w hBw h ⟨by decide, by decide, by decide⟩
theorem put_nB (B b : Nat) (w : World) (hBw : B ≤ w.heap.size) (h : PoolAt B b lA w) : Calls Try.prog 9 #[.pointer (some ⟨b, 0, none⟩), .agg #[.int .i64 10, .string ⟨#[]⟩, .int .i64 0, .bool false, .int .u64 18446744073709551615]] w fun e w' => e = .returned (.tuple #[.int .i64 0, .int .i64 0]) ∧ PoolAt B b lA w' ∧ Below B w w' ∧ Kept b w w' :=
  pool_put B b lA nB w hBw h ⟨by decide, by decide, by decide⟩
theorem put_nC (B b : Nat) (w : World) (hBw : B ≤ w.heap.size) (h : PoolAt B b lA w) : Calls Try.prog 9 #[.pointer (some ⟨b, 0, none⟩), .agg #[.int .i64 10, .string ⟨#[97]⟩, .int .i64 8, .bool false, .int .u64 0]] w fun e w' => e = .returned (.tuple #[.int .i64 1, .int .i64 0]) ∧ PoolAt B b lC w' ∧ Below B w w' ∧ Kept b w w' :=
  pool_put B b lA nC w hBw h ⟨by decide, by decide, by decide⟩
theorem put_nD (B b : Nat) (w : World) (hBw : B ≤ w.heap.size) (h : PoolAt B b lC w) : Calls Try.prog 9 #[.pointer (some ⟨b, 0, none⟩), .agg #[.int .i64 10, .string ⟨#[97]⟩, .int .i64 0, .bool false, .int .u64 0]] w fun e w' => e = .returned (.tuple #[.int .i64 2, .int .i64 0]) ∧ PoolAt B b lD w' ∧ Below B w w' ∧ Kept b w w' :=
  pool_put B b lC nD w hBw h ⟨by decide, by decide, by decide⟩
theorem put_nE (B b : Nat) (w : World) (hBw : B ≤ w.heap.size) (h : PoolAt B b lD w) : Calls Try.prog 9 #[.pointer (some ⟨b, 0, none⟩), .agg #[.int .i64 4, .string ⟨#[97]⟩, .int .i64 0, .bool false, .int .u64 0]] w fun e w' => e = .returned (.tuple #[.int .i64 0, .int .i64 1]) ∧ PoolAt B b lD w' ∧ Below B w w' ∧ Kept b w w' :=
  pool_put B b lD nE w hBw h ⟨by decide, by decide, by decide⟩
theorem value_258 (w : World) : Calls Try.prog 13 #[.agg #[.string ⟨#[]⟩, .int .i64 0, .int .u64 258]] w fun e w' => e = .returned (.tuple #[.string ⟨#[2, 1, 0, 0, 0, 0, 0, 0]⟩, .int .i64 0]) ∧ Below w.heap.size w w' :=
  pool_value_good ⟨⟨#[]⟩, 0, 258⟩ w (by decide)
/-- A new pool, its world a letter. -/
theorem pool_made (w : World) : Calls Try.prog 8 #[] w fun e w' => e = .returned (.pointer (some ⟨w.heap.size, 0, none⟩)) ∧ PoolAt w.heap.size w.heap.size [] w' ∧ Below w.heap.size w w' ∧ w.heap.size < w'.heap.size :=
  (pool_new w).mono (by rintro e w' ⟨rfl, rfl⟩; exact ⟨rfl, pool_fresh w, below_alloc (Below.refl _ _) _, by simp⟩)
set_option maxHeartbeats 1000000 in
theorem pooled_calls (w : World) : Calls Try.prog 7 #[] w fun e w' => e = .returned (.bool true) ∧ Below w.heap.size w w' := by
  go_enter Try.func7, Try.ntmps7
  go_wp2_with (go_at_call 8; refine (pool_made _).mono ?_; rintro e w1 ⟨rfl, hp_, hb_, hs_⟩; have P0 := Aside0.mk hp_; have P0B := Aside0.mk hb_; have P0S := Nat.le_of_lt hs_; clear hp_ hb_ hs_)
  go_wp2_with ((go_at_call 9; (with_reducible refine (put_nA w.heap.size w.heap.size _ P0S P0.out).mono ?_); rintro e w2 ⟨rfl, hp_, hb_, hk_⟩; have PA := Aside0.mk hp_; have PAB := Aside0.mk ((P0B.out).trans hb_); have PAS := Nat.le_trans P0S hb_.size; clear hp_ hb_ hk_))
  go_wp2_with ((go_at_call 9; (with_reducible refine (put_nB w.heap.size w.heap.size _ PAS PA.out).mono ?_); rintro e w3 ⟨rfl, hp_, hb_, hk_⟩; have PB := Aside0.mk hp_; have PBB := Aside0.mk ((PAB.out).trans hb_); have PBS := Nat.le_trans PAS hb_.size; clear hp_ hb_ hk_))
  go_wp2_with ((go_at_call 9; (with_reducible refine (put_nC w.heap.size w.heap.size _ PBS PB.out).mono ?_); rintro e w4 ⟨rfl, hp_, hb_, hk_⟩; have PC := Aside0.mk hp_; have PCB := Aside0.mk ((PBB.out).trans hb_); have PCS := Nat.le_trans PBS hb_.size; clear hp_ hb_ hk_))
  go_wp2_with ((go_at_call 9; (with_reducible refine (put_nD w.heap.size w.heap.size _ PCS PC.out).mono ?_); rintro e w5 ⟨rfl, hp_, hb_, hk_⟩; have PD := Aside0.mk hp_; have PDB := Aside0.mk ((PCB.out).trans hb_); have PDS := Nat.le_trans PCS hb_.size; clear hp_ hb_ hk_))
  go_wp2_with ((go_at_call 9; (with_reducible refine (put_nE w.heap.size w.heap.size _ PDS PD.out).mono ?_); rintro e w6 ⟨rfl, hp_, hb_, hk_⟩; have PE := Aside0.mk hp_; have PEB := Aside0.mk ((PDB.out).trans hb_); have PES := Nat.le_trans PDS hb_.size; clear hp_ hb_ hk_))
  go_wp2_with (go_at_call 13; refine (value_258 _).mono ?_; rintro e w7 ⟨rfl, hb_⟩; have PF := Aside0.mk (PoolAt_keep PE.out hb_); have PFB := Aside0.mk (PEB.out.trans (hb_.mono PES)); clear hb_)
  go_wp2_with (go_at_call 10; refine (pool_size w.heap.size w.heap.size _ _ PF.out).mono ?_; rintro e w' ⟨rfl, rfl⟩)
  go_ret
  exact ⟨rfl, PFB.out⟩
end Go.Proofs.Ytoglfjeggfbngaa.P
