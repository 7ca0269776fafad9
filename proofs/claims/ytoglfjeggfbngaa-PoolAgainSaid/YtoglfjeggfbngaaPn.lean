/- The pool's own functions, walked by hand. -/
import Derived.Test.YtoglfjeggfbngaaPm
namespace Go.Proofs.Ytoglfjeggfbngaa.P
open Go.RowKit Go.Maps Go.ChangeShapes Go.WideShapes Go.Proofs.YtoglfjeggfbngaaW.PrintWords Go.Proofs.YtoglfjeggfbngaaW.PrintLast Go.Proofs.YtoglfjeggfbngaaW.PrintMore
set_option linter.unusedVariables false
set_option linter.unusedSimpArgs false
theorem pool_new (w : World) : Calls Try.prog 8 #[] w fun e w' => e = .returned (.pointer (some ⟨w.heap.size, 0, none⟩)) ∧ w' = w.alloc (.cells #[.slice none 0 0, .map none] 51) := by
  go_enter Try.func8, Try.ntmps8
  go_wp2
  go_ret
  exact ⟨rfl, rfl⟩
abbrev ltKd : Kd Lt := Kd.iso (Kd.pair Kd.string (Kd.pair (Kd.int .i64) (Kd.int .u64))) (fun x : Lt => (x.f0, x.f1, x.f2))
/-- The map's part of a pool. -/
def PMap (B : Nat) (mp : Option Nat) (l : List Lt) (w : World) : Prop :=
  (mp = none ∧ l = []) ∨ ∃ bm D, mp = some bm ∧ B ≤ bm ∧ w.ownsMap Try.prog 34 (plainElem Try.prog 3) bm l.length D ∧ Mr D l
/-- A pool of these literals. -/
def PoolAt (B b : Nat) (l : List Lt) (w : World) : Prop :=
  B ≤ b ∧ (∀ x ∈ l, ltOk x) ∧ ∃ v mp, w.heap[b]? = some (.cells #[v, .map mp] 51 (0, 0)) ∧ ltKd.R 34 w B (fun k => k ≠ b) v l ∧ PMap B mp l w
theorem pool_fresh (w : World) : PoolAt w.heap.size w.heap.size [] (w.alloc (.cells #[.slice none 0 0, .map none] 51)) :=
  ⟨Nat.le_refl _, by simp, _, _, blk_new w _, Kd.R_nil _ _ _ _ _, Or.inl ⟨rfl, rfl⟩⟩
theorem pool_size_nil (w : World) : Calls Try.prog 10 #[.pointer none] w fun e w' => e = .returned (.int .i64 0) ∧ w' = w := by
  go_enter Try.func10, Try.ntmps10
  go_wp2
  go_ret
  exact ⟨rfl, rfl⟩
theorem pool_size (B b : Nat) (l : List Lt) (w : World) (h : PoolAt B b l w) : Calls Try.prog 10 #[.pointer (some ⟨b, 0, none⟩)] w fun e w' => e = .returned (.int .i64 l.length) ∧ w' = w := by
  obtain ⟨hB, hok, v, mp, hb, hR, hM⟩ := h
  obtain ⟨A, c, rfl⟩ := Kd.R_slice hR
  have hc := blk_cell hb 0
  simp at hc
  go_enter Try.func10, Try.ntmps10
  go_wp2
  go_ret
  exact ⟨rfl, rfl⟩
theorem zero_int (w : World) : (zeroValue 3).run Try.prog w = .ok (.int .i64 0) w := Try.zeroValue3 w
/-- All blocks of w but b, and but rows of literals, are as they were. -/
def Kept (b : Nat) (w w1 : World) : Prop := ∀ j cs t f, w.heap[j]? = some (.cells cs t f) → j ≠ b → t ≠ 34 → w1.heap[j]? = some (.cells cs t f)
theorem Kept.trans {b : Nat} {w w1 w2 : World} (h : Kept b w w1) (k : Kept b w1 w2) : Kept b w w2 := fun j cs t f hj hb ht => k j cs t f (h j cs t f hj hb ht) hb ht
theorem Kept.below {b : Nat} {w w1 : World} (h : Below w.heap.size w w1) : Kept b w w1 := fun j cs t f hj _ _ => (h.block j (blk_lt hj)).trans hj
theorem Kept.grown {b : Nat} {w w1 : World} {row : Option Nat} (h : w.grownBy w1 row) (hr : ∀ k cs t f, row = some k → w.heap[k]? = some (.cells cs t f) → t = 34) : Kept b w w1 := fun j cs t f hj hb ht =>
  (h.block j (blk_lt hj) (fun e => ht (hr j cs t f e.symm hj))).trans hj
theorem Kept.set {b i : Nat} {w : World} (v : Value) : Kept b w (w.setCell ⟨b, i, none⟩ v) := fun j cs t f hj hb ht => (Below.heap_setCell w ⟨b, i, none⟩ v j hb).trans hj
theorem look_run (bm n : Nat) (D : DataW Unit) (x : Lt) (b : Bool) (i : Int) (w : World) (hown : w.ownsMap Try.prog 34 (plainElem Try.prog 3) bm n D) (hk : ltOk x) (hh : has D (ltK x) = b) (hat : D.atKey (ltK x) (.lit (.int .i64 0)) = .lit (.int .i64 i)) :
    (Instr.lookup 47 (.map (some bm)) (.agg #[.string x.f0, .int .i64 x.f1, .int .u64 x.f2]) true).run Try.prog w = .ok (.tuple #[.int .i64 i, .bool b]) w := by
  obtain ⟨v, ps, hrun, hv⟩ := hown.look_ok litKeyed Try.underlying47 (zero_int w) (plainElem_int Try.underlying3 (by decide)) (lt_key hk)
  obtain ⟨c, rfl, hc, hwc⟩ := plainElem_int_inv Try.underlying3 hv
  have hc := congrArg Prod.fst hc
  simp only at hc
  rw [hat] at hc
  obtain rfl : i = c := by simpa using hc
  rw [← hh]
  exact hrun
theorem PMap_grown {B : Nat} {mp : Option Nat} {l : List Lt} {w w1 : World} (h : PMap B mp l w) {row : Option Nat} (hg : w.grownBy w1 row) (hr : ∀ k, mp = some k → row ≠ some k) : PMap B mp l w1 := by
  rcases h with h | ⟨bm, D, rfl, hbm, hown, hM⟩
  · exact Or.inl h
  · exact Or.inr ⟨bm, D, rfl, hbm, hown.kept hg (fun e => hr bm rfl e.symm), hM⟩
theorem PMap_alloc {B : Nat} {mp : Option Nat} {l : List Lt} {w : World} (h : PMap B mp l w) (o : Obj) : PMap B mp l (w.alloc o) := PMap_grown h (World.grownBy_alloc w o none) (by simp)
theorem PoolAt_keep {B b : Nat} {l : List Lt} {w w1 : World} (h : PoolAt B b l w) (hb : Below w.heap.size w w1) : PoolAt B b l w1 := by
  obtain ⟨hB, hok, v, mp, hbl, hR, hM⟩ := h
  exact ⟨hB, hok, v, mp, blk_grown hbl (grown_of_below hb none) (by simp), Kd.R_below hR hb, PMap_grown hM (grown_of_below hb none) (by simp)⟩
theorem look_no (B : Nat) (mp : Option Nat) (l : List Lt) (x : Lt) (w : World) (h : PMap B mp l w) (hx : x ∉ l) (hk : ltOk x) :
    ∃ i, ∀ n, (Instr.lookup 47 (.map mp) (.agg #[.string x.f0, .int .i64 x.f1, .int .u64 x.f2]) true).run Try.prog (w.drewN n) = .ok (.tuple #[.int .i64 i, .bool false]) (w.drewN n) := by
  rcases h with ⟨rfl, rfl⟩ | ⟨bm, D, rfl, hbm, hown, hM⟩
  · exact ⟨0, fun n => Maps.look_nil true litKeyed Try.underlying47 (zero_int _) (lt_key hk)⟩
  · obtain ⟨hhas, hat⟩ := hM.2 x hk
    obtain ⟨v, ps, hrun, hv⟩ := hown.look_ok litKeyed Try.underlying47 (zero_int w) (plainElem_int Try.underlying3 (by decide)) (lt_key hk)
    obtain ⟨c, rfl, hc, hwc⟩ := plainElem_int_inv Try.underlying3 hv
    have hc := congrArg Prod.fst hc
    refine ⟨c, fun n => look_run bm l.length D x false c _ hown hk (by rw [hhas]; simpa using hx) hc⟩
set_option maxHeartbeats 2000000 in
theorem store_put_old (B b : Nat) (l : List Lt) (x : Lt) (most : Int) (w : World) (hBw : B ≤ w.heap.size) (h : PoolAt B b l w) (hx : x ∈ l) (hk : ltOk x) :
    Calls Try.prog 15 #[.pointer (some ⟨b, 0, none⟩), ltV x, .int .i64 most] w fun e w' => e = .returned (.tuple #[.int .i64 (l.idxOf x), .bool true]) ∧ Below w.heap.size w w' := by
  obtain ⟨hB, hok, v, mp, hb, hR, hM⟩ := h
  obtain ⟨A, c, rfl⟩ := Kd.R_slice hR
  rcases hM with ⟨rfl, rfl⟩ | ⟨bm, D, rfl, hbm, hown, hMr⟩
  · simp at hx
  have hc := blk_cell hb 0
  have hc1 := blk_cell hb 1
  simp at hc hc1
  have hbl := blk_lt hb
  obtain ⟨hhas, hat⟩ := hMr.2 x hk
  have hh : has D (ltK x) = true := by rw [hhas]; simpa using hx
  have hat := hat hx
  have hL : ∀ n, (Instr.lookup 47 (.map (some bm)) (.agg #[.string x.f0, .int .i64 x.f1, .int .u64 x.f2]) true).run Try.prog ((w.alloc (.cells #[.string x.f0, .int .i64 x.f1, .int .u64 x.f2] 34)).drewN n) = .ok (.tuple #[.int .i64 ((l.idxOf x : Nat) : Int), .bool true]) ((w.alloc (.cells #[.string x.f0, .int .i64 x.f1, .int .u64 x.f2] 34)).drewN n) := fun n => look_run bm l.length D x true _ _ (hown.alloc _) hk hh hat
  clear hhas hR hMr hok hh hat
  unfold ltV
  generalize ((l.idxOf x : Nat) : Int) = i at hL ⊢
  clear hx
  go_enter Try.func15, Try.ntmps15
  go_wp2
  go_quiet (fail)
  go_wp2
  go_ret2
  exact ⟨rfl, pw_below_drewN ((Below.refl _ _).alloc (Nat.le_refl _) _) _⟩
/-- A literal that is not there, and there is no room. -/
theorem store_put_full (B b : Nat) (l : List Lt) (x : Lt) (most : Int) (w : World) (hBw : B ≤ w.heap.size) (h : PoolAt B b l w) (hx : x ∉ l) (hk : ltOk x) (hm : most ≤ l.length) :
    Calls Try.prog 15 #[.pointer (some ⟨b, 0, none⟩), ltV x, .int .i64 most] w fun e w' => e = .returned (.tuple #[.int .i64 0, .bool false]) ∧ PoolAt B b l w' ∧ Below B w w' ∧ Kept b w w' := by
  have hP := Aside0.mk h
  obtain ⟨hB, hok, v, mp, hb, hR, hM⟩ := h
  obtain ⟨A, c, rfl⟩ := Kd.R_slice hR
  have hL : ∃ i, ∀ n, (Instr.lookup 47 (.map mp) (.agg #[.string x.f0, .int .i64 x.f1, .int .u64 x.f2]) true).run Try.prog ((w.alloc (.cells #[.string x.f0, .int .i64 x.f1, .int .u64 x.f2] 34)).drewN n) = .ok (.tuple #[.int .i64 i, .bool false]) ((w.alloc (.cells #[.string x.f0, .int .i64 x.f1, .int .u64 x.f2] 34)).drewN n) :=
    look_no B mp l x _ ((PMap_alloc hM _)) hx hk
  obtain ⟨i, hL⟩ := hL
  have hc := blk_cell hb 0
  have hc1 := blk_cell hb 1
  simp at hc hc1
  have hbl := blk_lt hb
  clear hM hR hok hx
  unfold ltV
  go_enter Try.func15, Try.ntmps15
  go_wp2
  go_quiet (fail)
  go_wp2
  go_ret2
  exact ⟨rfl, PoolAt_keep hP.out (pw_below_drewN (below_alloc (Below.refl _ _) _) _), pw_below_drewN ((Below.refl _ _).alloc hBw _) _, Kept.below (pw_below_drewN (below_alloc (Below.refl _ _) _) _)⟩
end Go.Proofs.Ytoglfjeggfbngaa.P
