/- The region of the three registers' fields in code.filled: its invariant. Written by wip/tools/genfl.py. -/
import Derived.Test.YtemenenkefcebaaDoorRi
import Derived.WalkLawsBesides
import Derived.Lib.ItoaWalk
import Derived.Recover
import Derived.Defers
import Derived.Below
namespace Go.Proofs.YtemenenkefcebaaDoor.P
open Go.RowKit Go.Proofs.YtemenenkefcebaaDoorW.PrintWords Go.Proofs.YtemenenkefcebaaDoorW.PrintLast Go.Proofs.YtemenenkefcebaaDoorW.PrintMore
set_option linter.unusedVariables false
set_option linter.unusedSimpArgs false
/-- A field's cells. -/
abbrev fC (at_ n v : Int) : Array Value := #[.int .i64 at_, .int .i64 n, .int .u32 (v % 4294967296)]
abbrev zC : Array Value := #[.int .i64 0, .int .i64 0, .int .u32 0]
/-- What holds there, by what has come up. -/
def flI (g : Nat) (d n m : Int) (a0 : Act) (w0 : World) (f : Nat → Bool) (a : Act) (w : World) : Prop :=
 a.tmps.size = a0.tmps.size ∧ a.defers = a0.defers ∧ (∀ j, j ∉ [3, 4, 5, 16, 17, 18, 19, 20, 21, 22, 23, 24] → a.tmps.getD j undef = a0.tmps.getD j undef) ∧ Below w0.heap.size w0 w ∧
 (f 12 = true → f 9 = true) ∧ (f 13 = true → f 10 = true) ∧ (f 14 = true → f 11 = true) ∧
 (f 0 = true → a.tmps.getD 16 undef = .pointer (some ⟨g, 1, none⟩)) ∧ (f 1 = true → a.tmps.getD 17 undef = .int .i64 d) ∧ (f 2 = true → a.tmps.getD 18 undef = .agg (fC 0 5 d)) ∧
 (f 3 = true → a.tmps.getD 19 undef = .pointer (some ⟨g, 2, none⟩)) ∧ (f 4 = true → a.tmps.getD 20 undef = .int .i64 n) ∧ (f 5 = true → a.tmps.getD 21 undef = .agg (fC 5 5 n)) ∧
 (f 6 = true → a.tmps.getD 22 undef = .pointer (some ⟨g, 3, none⟩)) ∧ (f 7 = true → a.tmps.getD 23 undef = .int .i64 m) ∧ (f 8 = true → a.tmps.getD 24 undef = .agg (fC 16 5 m)) ∧
 ∃ b3 b4 b5 : Nat,
  (f 9 = true → a.tmps.getD 3 undef = .pointer (some ⟨b3, 0, none⟩) ∧ w0.heap.size ≤ b3 ∧ w.heap[b3]? = some (.cells (if f 12 = true then fC 0 5 d else zC) 64)) ∧
  (f 10 = true → a.tmps.getD 4 undef = .pointer (some ⟨b4, 0, none⟩) ∧ w0.heap.size ≤ b4 ∧ w.heap[b4]? = some (.cells (if f 13 = true then fC 5 5 n else zC) 64)) ∧
  (f 11 = true → a.tmps.getD 5 undef = .pointer (some ⟨b5, 0, none⟩) ∧ w0.heap.size ≤ b5 ∧ w.heap[b5]? = some (.cells (if f 14 = true then fC 16 5 m else zC) 64)) ∧
  (f 9 = true → f 10 = true → b3 ≠ b4) ∧ (f 9 = true → f 11 = true → b3 ≠ b5) ∧ (f 10 = true → f 11 = true → b4 ≠ b5)
theorem flI_size {g : Nat} {d n m : Int} {a0 a : Act} {w0 w : World} {f : Nat → Bool} (h : flI g d n m a0 w0 f a w) : a.tmps.size = a0.tmps.size := h.1
theorem flI_oth {g : Nat} {d n m : Int} {a0 a : Act} {w0 w : World} {f : Nat → Bool} (h : flI g d n m a0 w0 f a w) : ∀ j, j ∉ [3, 4, 5, 16, 17, 18, 19, 20, 21, 22, 23, 24] → a.tmps.getD j undef = a0.tmps.getD j undef := h.2.2.1
theorem flI_below {g : Nat} {d n m : Int} {a0 a : Act} {w0 w : World} {f : Nat → Bool} (h : flI g d n m a0 w0 f a w) : Below w0.heap.size w0 w := h.2.2.2.1
theorem flI_0 {g : Nat} {d n m : Int} {a0 a : Act} {w0 w : World} {f : Nat → Bool} (h : flI g d n m a0 w0 f a w) (hs : 25 ≤ a0.tmps.size) : flI g d n m a0 w0 (upd f 0) (a.put (some 16) (.pointer (some ⟨g, 1, none⟩))) w := by
 obtain ⟨hsz, hdf, hoth, hbl, i12, i13, i14, h0, h1, h2, h3, h4, h5, h6, h7, h8, b3, b4, b5, h9, h10, h11, x34, x35, x45⟩ := h
 have P : ∀ j, (a.put (some 16) (.pointer (some ⟨g, 1, none⟩))).tmps.getD j undef = if j = 16 then .pointer (some ⟨g, 1, none⟩) else a.tmps.getD j undef := fun j => put_getD a 16 j _ (by omega)
 refine ⟨(put_size _ _ _).trans hsz, hdf, fun j hj => ?_, hbl, i12, i13, i14, ?_, ?_, ?_, ?_, ?_, ?_, ?_, ?_, ?_, b3, b4, b5, ?_, ?_, ?_, x34, x35, x45⟩
 ·rw [P, if_neg (by rintro rfl; exact hj (by decide))]; exact hoth j hj
 all_goals simp (config := {decide := true}) only [P, upd, if_true, if_false]
 all_goals assumption
theorem flI_1 {g : Nat} {d n m : Int} {a0 a : Act} {w0 w : World} {f : Nat → Bool} (h : flI g d n m a0 w0 f a w) (hs : 25 ≤ a0.tmps.size) : flI g d n m a0 w0 (upd f 1) (a.put (some 17) (.int .i64 d)) w := by
 obtain ⟨hsz, hdf, hoth, hbl, i12, i13, i14, h0, h1, h2, h3, h4, h5, h6, h7, h8, b3, b4, b5, h9, h10, h11, x34, x35, x45⟩ := h
 have P : ∀ j, (a.put (some 17) (.int .i64 d)).tmps.getD j undef = if j = 17 then .int .i64 d else a.tmps.getD j undef := fun j => put_getD a 17 j _ (by omega)
 refine ⟨(put_size _ _ _).trans hsz, hdf, fun j hj => ?_, hbl, i12, i13, i14, ?_, ?_, ?_, ?_, ?_, ?_, ?_, ?_, ?_, b3, b4, b5, ?_, ?_, ?_, x34, x35, x45⟩
 ·rw [P, if_neg (by rintro rfl; exact hj (by decide))]; exact hoth j hj
 all_goals simp (config := {decide := true}) only [P, upd, if_true, if_false]
 all_goals assumption
theorem flI_2 {g : Nat} {d n m : Int} {a0 a : Act} {w0 w : World} {f : Nat → Bool} (h : flI g d n m a0 w0 f a w) (hs : 25 ≤ a0.tmps.size) {w1 : World} (hb : Below w.heap.size w w1) : flI g d n m a0 w0 (upd f 2) (a.put (some 18) (.agg (fC 0 5 d))) w1 := by
 obtain ⟨hsz, hdf, hoth, hbl, i12, i13, i14, h0, h1, h2, h3, h4, h5, h6, h7, h8, b3, b4, b5, h9, h10, h11, x34, x35, x45⟩ := h
 have P : ∀ j, (a.put (some 18) (.agg (fC 0 5 d))).tmps.getD j undef = if j = 18 then .agg (fC 0 5 d) else a.tmps.getD j undef := fun j => put_getD a 18 j _ (by omega)
 refine ⟨(put_size _ _ _).trans hsz, hdf, fun j hj => ?_, hbl.trans (hb.mono hbl.size), i12, i13, i14, ?_, ?_, ?_, ?_, ?_, ?_, ?_, ?_, ?_, b3, b4, b5, ?_, ?_, ?_, x34, x35, x45⟩
 ·rw [P, if_neg (by rintro rfl; exact hj (by decide))]; exact hoth j hj
 all_goals simp (config := {decide := true}) only [P, upd, if_true, if_false]
 all_goals first | assumption | exact fun k => ⟨(h9 k).1, (h9 k).2.1, blk_below (h9 k).2.2 hb⟩ | exact fun k => ⟨(h10 k).1, (h10 k).2.1, blk_below (h10 k).2.2 hb⟩ | exact fun k => ⟨(h11 k).1, (h11 k).2.1, blk_below (h11 k).2.2 hb⟩
theorem flI_3 {g : Nat} {d n m : Int} {a0 a : Act} {w0 w : World} {f : Nat → Bool} (h : flI g d n m a0 w0 f a w) (hs : 25 ≤ a0.tmps.size) : flI g d n m a0 w0 (upd f 3) (a.put (some 19) (.pointer (some ⟨g, 2, none⟩))) w := by
 obtain ⟨hsz, hdf, hoth, hbl, i12, i13, i14, h0, h1, h2, h3, h4, h5, h6, h7, h8, b3, b4, b5, h9, h10, h11, x34, x35, x45⟩ := h
 have P : ∀ j, (a.put (some 19) (.pointer (some ⟨g, 2, none⟩))).tmps.getD j undef = if j = 19 then .pointer (some ⟨g, 2, none⟩) else a.tmps.getD j undef := fun j => put_getD a 19 j _ (by omega)
 refine ⟨(put_size _ _ _).trans hsz, hdf, fun j hj => ?_, hbl, i12, i13, i14, ?_, ?_, ?_, ?_, ?_, ?_, ?_, ?_, ?_, b3, b4, b5, ?_, ?_, ?_, x34, x35, x45⟩
 ·rw [P, if_neg (by rintro rfl; exact hj (by decide))]; exact hoth j hj
 all_goals simp (config := {decide := true}) only [P, upd, if_true, if_false]
 all_goals assumption
theorem flI_4 {g : Nat} {d n m : Int} {a0 a : Act} {w0 w : World} {f : Nat → Bool} (h : flI g d n m a0 w0 f a w) (hs : 25 ≤ a0.tmps.size) : flI g d n m a0 w0 (upd f 4) (a.put (some 20) (.int .i64 n)) w := by
 obtain ⟨hsz, hdf, hoth, hbl, i12, i13, i14, h0, h1, h2, h3, h4, h5, h6, h7, h8, b3, b4, b5, h9, h10, h11, x34, x35, x45⟩ := h
 have P : ∀ j, (a.put (some 20) (.int .i64 n)).tmps.getD j undef = if j = 20 then .int .i64 n else a.tmps.getD j undef := fun j => put_getD a 20 j _ (by omega)
 refine ⟨(put_size _ _ _).trans hsz, hdf, fun j hj => ?_, hbl, i12, i13, i14, ?_, ?_, ?_, ?_, ?_, ?_, ?_, ?_, ?_, b3, b4, b5, ?_, ?_, ?_, x34, x35, x45⟩
 ·rw [P, if_neg (by rintro rfl; exact hj (by decide))]; exact hoth j hj
 all_goals simp (config := {decide := true}) only [P, upd, if_true, if_false]
 all_goals assumption
theorem flI_5 {g : Nat} {d n m : Int} {a0 a : Act} {w0 w : World} {f : Nat → Bool} (h : flI g d n m a0 w0 f a w) (hs : 25 ≤ a0.tmps.size) {w1 : World} (hb : Below w.heap.size w w1) : flI g d n m a0 w0 (upd f 5) (a.put (some 21) (.agg (fC 5 5 n))) w1 := by
 obtain ⟨hsz, hdf, hoth, hbl, i12, i13, i14, h0, h1, h2, h3, h4, h5, h6, h7, h8, b3, b4, b5, h9, h10, h11, x34, x35, x45⟩ := h
 have P : ∀ j, (a.put (some 21) (.agg (fC 5 5 n))).tmps.getD j undef = if j = 21 then .agg (fC 5 5 n) else a.tmps.getD j undef := fun j => put_getD a 21 j _ (by omega)
 refine ⟨(put_size _ _ _).trans hsz, hdf, fun j hj => ?_, hbl.trans (hb.mono hbl.size), i12, i13, i14, ?_, ?_, ?_, ?_, ?_, ?_, ?_, ?_, ?_, b3, b4, b5, ?_, ?_, ?_, x34, x35, x45⟩
 ·rw [P, if_neg (by rintro rfl; exact hj (by decide))]; exact hoth j hj
 all_goals simp (config := {decide := true}) only [P, upd, if_true, if_false]
 all_goals first | assumption | exact fun k => ⟨(h9 k).1, (h9 k).2.1, blk_below (h9 k).2.2 hb⟩ | exact fun k => ⟨(h10 k).1, (h10 k).2.1, blk_below (h10 k).2.2 hb⟩ | exact fun k => ⟨(h11 k).1, (h11 k).2.1, blk_below (h11 k).2.2 hb⟩
theorem flI_6 {g : Nat} {d n m : Int} {a0 a : Act} {w0 w : World} {f : Nat → Bool} (h : flI g d n m a0 w0 f a w) (hs : 25 ≤ a0.tmps.size) : flI g d n m a0 w0 (upd f 6) (a.put (some 22) (.pointer (some ⟨g, 3, none⟩))) w := by
 obtain ⟨hsz, hdf, hoth, hbl, i12, i13, i14, h0, h1, h2, h3, h4, h5, h6, h7, h8, b3, b4, b5, h9, h10, h11, x34, x35, x45⟩ := h
 have P : ∀ j, (a.put (some 22) (.pointer (some ⟨g, 3, none⟩))).tmps.getD j undef = if j = 22 then .pointer (some ⟨g, 3, none⟩) else a.tmps.getD j undef := fun j => put_getD a 22 j _ (by omega)
 refine ⟨(put_size _ _ _).trans hsz, hdf, fun j hj => ?_, hbl, i12, i13, i14, ?_, ?_, ?_, ?_, ?_, ?_, ?_, ?_, ?_, b3, b4, b5, ?_, ?_, ?_, x34, x35, x45⟩
 ·rw [P, if_neg (by rintro rfl; exact hj (by decide))]; exact hoth j hj
 all_goals simp (config := {decide := true}) only [P, upd, if_true, if_false]
 all_goals assumption
theorem flI_7 {g : Nat} {d n m : Int} {a0 a : Act} {w0 w : World} {f : Nat → Bool} (h : flI g d n m a0 w0 f a w) (hs : 25 ≤ a0.tmps.size) : flI g d n m a0 w0 (upd f 7) (a.put (some 23) (.int .i64 m)) w := by
 obtain ⟨hsz, hdf, hoth, hbl, i12, i13, i14, h0, h1, h2, h3, h4, h5, h6, h7, h8, b3, b4, b5, h9, h10, h11, x34, x35, x45⟩ := h
 have P : ∀ j, (a.put (some 23) (.int .i64 m)).tmps.getD j undef = if j = 23 then .int .i64 m else a.tmps.getD j undef := fun j => put_getD a 23 j _ (by omega)
 refine ⟨(put_size _ _ _).trans hsz, hdf, fun j hj => ?_, hbl, i12, i13, i14, ?_, ?_, ?_, ?_, ?_, ?_, ?_, ?_, ?_, b3, b4, b5, ?_, ?_, ?_, x34, x35, x45⟩
 ·rw [P, if_neg (by rintro rfl; exact hj (by decide))]; exact hoth j hj
 all_goals simp (config := {decide := true}) only [P, upd, if_true, if_false]
 all_goals assumption
theorem flI_8 {g : Nat} {d n m : Int} {a0 a : Act} {w0 w : World} {f : Nat → Bool} (h : flI g d n m a0 w0 f a w) (hs : 25 ≤ a0.tmps.size) {w1 : World} (hb : Below w.heap.size w w1) : flI g d n m a0 w0 (upd f 8) (a.put (some 24) (.agg (fC 16 5 m))) w1 := by
 obtain ⟨hsz, hdf, hoth, hbl, i12, i13, i14, h0, h1, h2, h3, h4, h5, h6, h7, h8, b3, b4, b5, h9, h10, h11, x34, x35, x45⟩ := h
 have P : ∀ j, (a.put (some 24) (.agg (fC 16 5 m))).tmps.getD j undef = if j = 24 then .agg (fC 16 5 m) else a.tmps.getD j undef := fun j => put_getD a 24 j _ (by omega)
 refine ⟨(put_size _ _ _).trans hsz, hdf, fun j hj => ?_, hbl.trans (hb.mono hbl.size), i12, i13, i14, ?_, ?_, ?_, ?_, ?_, ?_, ?_, ?_, ?_, b3, b4, b5, ?_, ?_, ?_, x34, x35, x45⟩
 ·rw [P, if_neg (by rintro rfl; exact hj (by decide))]; exact hoth j hj
 all_goals simp (config := {decide := true}) only [P, upd, if_true, if_false]
 all_goals first | assumption | exact fun k => ⟨(h9 k).1, (h9 k).2.1, blk_below (h9 k).2.2 hb⟩ | exact fun k => ⟨(h10 k).1, (h10 k).2.1, blk_below (h10 k).2.2 hb⟩ | exact fun k => ⟨(h11 k).1, (h11 k).2.1, blk_below (h11 k).2.2 hb⟩
theorem flI_9 {g : Nat} {d n m : Int} {a0 a : Act} {w0 w : World} {f : Nat → Bool} (h : flI g d n m a0 w0 f a w) (hs : 25 ≤ a0.tmps.size) (hf : f 9 = false) : flI g d n m a0 w0 (upd f 9) (a.put (some 3) (.pointer (some ⟨w.heap.size, 0, none⟩))) (w.alloc (.cells zC 64)) := by
 obtain ⟨hsz, hdf, hoth, hbl, i12, i13, i14, h0, h1, h2, h3, h4, h5, h6, h7, h8, b3, b4, b5, h9, h10, h11, x34, x35, x45⟩ := h
 have P : ∀ j, (a.put (some 3) (.pointer (some ⟨w.heap.size, 0, none⟩))).tmps.getD j undef = if j = 3 then .pointer (some ⟨w.heap.size, 0, none⟩) else a.tmps.getD j undef := fun j => put_getD a 3 j _ (by omega)
 have n12 : f 12 = false := by cases hc : f 12 with | false => rfl | true => have := i12 hc; rw [hf] at this; cases this
 refine ⟨(put_size _ _ _).trans hsz, hdf, fun j hj => ?_, hbl.alloc hbl.size _, ?_, ?_, ?_, ?_, ?_, ?_, ?_, ?_, ?_, ?_, ?_, ?_, w.heap.size, b4, b5, ?_, ?_, ?_, fun _ k => Nat.ne_of_gt (blk_lt (h10 k).2.2), fun _ k => Nat.ne_of_gt (blk_lt (h11 k).2.2), x45⟩
 ·rw [P, if_neg (by rintro rfl; exact hj (by decide))]; exact hoth j hj
 all_goals simp (config := {decide := true}) only [P, upd, if_true, if_false]
 all_goals first | assumption | exact fun _ => rfl | exact fun _ => trivial | exact fun k => ⟨(h9 k).1, (h9 k).2.1, blk_alloc (h9 k).2.2 _⟩ | exact fun k => ⟨(h10 k).1, (h10 k).2.1, blk_alloc (h10 k).2.2 _⟩ | exact fun k => ⟨(h11 k).1, (h11 k).2.1, blk_alloc (h11 k).2.2 _⟩ | exact fun _ => ⟨rfl, hbl.size, by rw [n12]; exact blk_new w _⟩ | (rw [n12]; exact ⟨trivial, hbl.size, blk_new w _⟩) | (rw [n12]; exact fun _ => ⟨trivial, hbl.size, blk_new w _⟩)
theorem flI_10 {g : Nat} {d n m : Int} {a0 a : Act} {w0 w : World} {f : Nat → Bool} (h : flI g d n m a0 w0 f a w) (hs : 25 ≤ a0.tmps.size) (hf : f 10 = false) : flI g d n m a0 w0 (upd f 10) (a.put (some 4) (.pointer (some ⟨w.heap.size, 0, none⟩))) (w.alloc (.cells zC 64)) := by
 obtain ⟨hsz, hdf, hoth, hbl, i12, i13, i14, h0, h1, h2, h3, h4, h5, h6, h7, h8, b3, b4, b5, h9, h10, h11, x34, x35, x45⟩ := h
 have P : ∀ j, (a.put (some 4) (.pointer (some ⟨w.heap.size, 0, none⟩))).tmps.getD j undef = if j = 4 then .pointer (some ⟨w.heap.size, 0, none⟩) else a.tmps.getD j undef := fun j => put_getD a 4 j _ (by omega)
 have n13 : f 13 = false := by cases hc : f 13 with | false => rfl | true => have := i13 hc; rw [hf] at this; cases this
 refine ⟨(put_size _ _ _).trans hsz, hdf, fun j hj => ?_, hbl.alloc hbl.size _, ?_, ?_, ?_, ?_, ?_, ?_, ?_, ?_, ?_, ?_, ?_, ?_, b3, w.heap.size, b5, ?_, ?_, ?_, fun k _ => Nat.ne_of_lt (blk_lt (h9 k).2.2), x35, fun _ k => Nat.ne_of_gt (blk_lt (h11 k).2.2)⟩
 ·rw [P, if_neg (by rintro rfl; exact hj (by decide))]; exact hoth j hj
 all_goals simp (config := {decide := true}) only [P, upd, if_true, if_false]
 all_goals first | assumption | exact fun _ => rfl | exact fun _ => trivial | exact fun k => ⟨(h9 k).1, (h9 k).2.1, blk_alloc (h9 k).2.2 _⟩ | exact fun k => ⟨(h10 k).1, (h10 k).2.1, blk_alloc (h10 k).2.2 _⟩ | exact fun k => ⟨(h11 k).1, (h11 k).2.1, blk_alloc (h11 k).2.2 _⟩ | exact fun _ => ⟨rfl, hbl.size, by rw [n13]; exact blk_new w _⟩ | (rw [n13]; exact ⟨trivial, hbl.size, blk_new w _⟩) | (rw [n13]; exact fun _ => ⟨trivial, hbl.size, blk_new w _⟩)
theorem flI_11 {g : Nat} {d n m : Int} {a0 a : Act} {w0 w : World} {f : Nat → Bool} (h : flI g d n m a0 w0 f a w) (hs : 25 ≤ a0.tmps.size) (hf : f 11 = false) : flI g d n m a0 w0 (upd f 11) (a.put (some 5) (.pointer (some ⟨w.heap.size, 0, none⟩))) (w.alloc (.cells zC 64)) := by
 obtain ⟨hsz, hdf, hoth, hbl, i12, i13, i14, h0, h1, h2, h3, h4, h5, h6, h7, h8, b3, b4, b5, h9, h10, h11, x34, x35, x45⟩ := h
 have P : ∀ j, (a.put (some 5) (.pointer (some ⟨w.heap.size, 0, none⟩))).tmps.getD j undef = if j = 5 then .pointer (some ⟨w.heap.size, 0, none⟩) else a.tmps.getD j undef := fun j => put_getD a 5 j _ (by omega)
 have n14 : f 14 = false := by cases hc : f 14 with | false => rfl | true => have := i14 hc; rw [hf] at this; cases this
 refine ⟨(put_size _ _ _).trans hsz, hdf, fun j hj => ?_, hbl.alloc hbl.size _, ?_, ?_, ?_, ?_, ?_, ?_, ?_, ?_, ?_, ?_, ?_, ?_, b3, b4, w.heap.size, ?_, ?_, ?_, x34, fun k _ => Nat.ne_of_lt (blk_lt (h9 k).2.2), fun k _ => Nat.ne_of_lt (blk_lt (h10 k).2.2)⟩
 ·rw [P, if_neg (by rintro rfl; exact hj (by decide))]; exact hoth j hj
 all_goals simp (config := {decide := true}) only [P, upd, if_true, if_false]
 all_goals first | assumption | exact fun _ => rfl | exact fun _ => trivial | exact fun k => ⟨(h9 k).1, (h9 k).2.1, blk_alloc (h9 k).2.2 _⟩ | exact fun k => ⟨(h10 k).1, (h10 k).2.1, blk_alloc (h10 k).2.2 _⟩ | exact fun k => ⟨(h11 k).1, (h11 k).2.1, blk_alloc (h11 k).2.2 _⟩ | exact fun _ => ⟨rfl, hbl.size, by rw [n14]; exact blk_new w _⟩ | (rw [n14]; exact ⟨trivial, hbl.size, blk_new w _⟩) | (rw [n14]; exact fun _ => ⟨trivial, hbl.size, blk_new w _⟩)
theorem flI_12 {g : Nat} {d n m : Int} {a0 a : Act} {w0 w : World} {f : Nat → Bool} (h : flI g d n m a0 w0 f a w) (hs : 25 ≤ a0.tmps.size) (hi : f 9 = true) {b : Nat} (hb : a.tmps.getD 3 undef = .pointer (some ⟨b, 0, none⟩)) : flI g d n m a0 w0 (upd f 12) a (((w.setCell ⟨b, 0, none⟩ (.int .i64 0)).setCell ⟨b, 1, none⟩ (.int .i64 5)).setCell ⟨b, 2, none⟩ (.int .u32 (d % 4294967296))) := by
 obtain ⟨hsz, hdf, hoth, hbl, i12, i13, i14, h0, h1, h2, h3, h4, h5, h6, h7, h8, b3, b4, b5, h9, h10, h11, x34, x35, x45⟩ := h
 obtain rfl : b3 = b := by
  have := (h9 hi).1.symm.trans hb
  simpa using this
 have hge := (h9 hi).2.1
 refine ⟨hsz, hdf, hoth, ((hbl.setCell (p := ⟨b3, 0, none⟩) hge _).setCell (p := ⟨b3, 1, none⟩) hge _).setCell (p := ⟨b3, 2, none⟩) hge _, ?_, ?_, ?_, h0, h1, h2, h3, h4, h5, h6, h7, h8, b3, b4, b5, ?_, ?_, ?_, x34, x35, x45⟩
 all_goals simp (config := {decide := true}) only [upd, if_true, if_false]
 all_goals first | assumption | exact fun _ => hi | exact fun k => ⟨(h10 k).1, (h10 k).2.1, blk_far (blk_far (blk_far (h10 k).2.2 (p := ⟨b3, 0, none⟩) (fun e => x34 hi k e.symm) _) (p := ⟨b3, 1, none⟩) (fun e => x34 hi k e.symm) _) (p := ⟨b3, 2, none⟩) (fun e => x34 hi k e.symm) _⟩ | exact fun k => ⟨(h11 k).1, (h11 k).2.1, blk_far (blk_far (blk_far (h11 k).2.2 (p := ⟨b3, 0, none⟩) (fun e => x35 hi k e.symm) _) (p := ⟨b3, 1, none⟩) (fun e => x35 hi k e.symm) _) (p := ⟨b3, 2, none⟩) (fun e => x35 hi k e.symm) _⟩ | (intro _; refine ⟨hb, hge, ?_⟩; have hk := (h9 hi).2.2; refine blk_put (cs := #[.int .i64 0, .int .i64 5, (if f 12 = true then fC 0 5 d else zC).getD 2 undef]) (blk_put (cs := #[.int .i64 0, (if f 12 = true then fC 0 5 d else zC).getD 1 undef, (if f 12 = true then fC 0 5 d else zC).getD 2 undef]) (blk_put hk 0 _ ?_) 1 _ ?_) 2 _ ?_ <;> cases f 12 <;> rfl)
theorem flI_13 {g : Nat} {d n m : Int} {a0 a : Act} {w0 w : World} {f : Nat → Bool} (h : flI g d n m a0 w0 f a w) (hs : 25 ≤ a0.tmps.size) (hi : f 10 = true) {b : Nat} (hb : a.tmps.getD 4 undef = .pointer (some ⟨b, 0, none⟩)) : flI g d n m a0 w0 (upd f 13) a (((w.setCell ⟨b, 0, none⟩ (.int .i64 5)).setCell ⟨b, 1, none⟩ (.int .i64 5)).setCell ⟨b, 2, none⟩ (.int .u32 (n % 4294967296))) := by
 obtain ⟨hsz, hdf, hoth, hbl, i12, i13, i14, h0, h1, h2, h3, h4, h5, h6, h7, h8, b3, b4, b5, h9, h10, h11, x34, x35, x45⟩ := h
 obtain rfl : b4 = b := by
  have := (h10 hi).1.symm.trans hb
  simpa using this
 have hge := (h10 hi).2.1
 refine ⟨hsz, hdf, hoth, ((hbl.setCell (p := ⟨b4, 0, none⟩) hge _).setCell (p := ⟨b4, 1, none⟩) hge _).setCell (p := ⟨b4, 2, none⟩) hge _, ?_, ?_, ?_, h0, h1, h2, h3, h4, h5, h6, h7, h8, b3, b4, b5, ?_, ?_, ?_, x34, x35, x45⟩
 all_goals simp (config := {decide := true}) only [upd, if_true, if_false]
 all_goals first | assumption | exact fun _ => hi | exact fun k => ⟨(h9 k).1, (h9 k).2.1, blk_far (blk_far (blk_far (h9 k).2.2 (p := ⟨b4, 0, none⟩) (x34 k hi) _) (p := ⟨b4, 1, none⟩) (x34 k hi) _) (p := ⟨b4, 2, none⟩) (x34 k hi) _⟩ | exact fun k => ⟨(h11 k).1, (h11 k).2.1, blk_far (blk_far (blk_far (h11 k).2.2 (p := ⟨b4, 0, none⟩) (fun e => x45 hi k e.symm) _) (p := ⟨b4, 1, none⟩) (fun e => x45 hi k e.symm) _) (p := ⟨b4, 2, none⟩) (fun e => x45 hi k e.symm) _⟩ | (intro _; refine ⟨hb, hge, ?_⟩; have hk := (h10 hi).2.2; refine blk_put (cs := #[.int .i64 5, .int .i64 5, (if f 13 = true then fC 5 5 n else zC).getD 2 undef]) (blk_put (cs := #[.int .i64 5, (if f 13 = true then fC 5 5 n else zC).getD 1 undef, (if f 13 = true then fC 5 5 n else zC).getD 2 undef]) (blk_put hk 0 _ ?_) 1 _ ?_) 2 _ ?_ <;> cases f 13 <;> rfl)
theorem flI_14 {g : Nat} {d n m : Int} {a0 a : Act} {w0 w : World} {f : Nat → Bool} (h : flI g d n m a0 w0 f a w) (hs : 25 ≤ a0.tmps.size) (hi : f 11 = true) {b : Nat} (hb : a.tmps.getD 5 undef = .pointer (some ⟨b, 0, none⟩)) : flI g d n m a0 w0 (upd f 14) a (((w.setCell ⟨b, 0, none⟩ (.int .i64 16)).setCell ⟨b, 1, none⟩ (.int .i64 5)).setCell ⟨b, 2, none⟩ (.int .u32 (m % 4294967296))) := by
 obtain ⟨hsz, hdf, hoth, hbl, i12, i13, i14, h0, h1, h2, h3, h4, h5, h6, h7, h8, b3, b4, b5, h9, h10, h11, x34, x35, x45⟩ := h
 obtain rfl : b5 = b := by
  have := (h11 hi).1.symm.trans hb
  simpa using this
 have hge := (h11 hi).2.1
 refine ⟨hsz, hdf, hoth, ((hbl.setCell (p := ⟨b5, 0, none⟩) hge _).setCell (p := ⟨b5, 1, none⟩) hge _).setCell (p := ⟨b5, 2, none⟩) hge _, ?_, ?_, ?_, h0, h1, h2, h3, h4, h5, h6, h7, h8, b3, b4, b5, ?_, ?_, ?_, x34, x35, x45⟩
 all_goals simp (config := {decide := true}) only [upd, if_true, if_false]
 all_goals first | assumption | exact fun _ => hi | exact fun k => ⟨(h9 k).1, (h9 k).2.1, blk_far (blk_far (blk_far (h9 k).2.2 (p := ⟨b5, 0, none⟩) (x35 k hi) _) (p := ⟨b5, 1, none⟩) (x35 k hi) _) (p := ⟨b5, 2, none⟩) (x35 k hi) _⟩ | exact fun k => ⟨(h10 k).1, (h10 k).2.1, blk_far (blk_far (blk_far (h10 k).2.2 (p := ⟨b5, 0, none⟩) (x45 k hi) _) (p := ⟨b5, 1, none⟩) (x45 k hi) _) (p := ⟨b5, 2, none⟩) (x45 k hi) _⟩ | (intro _; refine ⟨hb, hge, ?_⟩; have hk := (h11 hi).2.2; refine blk_put (cs := #[.int .i64 16, .int .i64 5, (if f 14 = true then fC 16 5 m else zC).getD 2 undef]) (blk_put (cs := #[.int .i64 16, (if f 14 = true then fC 16 5 m else zC).getD 1 undef, (if f 14 = true then fC 16 5 m else zC).getD 2 undef]) (blk_put hk 0 _ ?_) 1 _ ?_) 2 _ ?_ <;> cases f 14 <;> rfl)
theorem flI_done {g : Nat} {d n m : Int} {a0 a : Act} {w0 w : World} {f : Nat → Bool} (h : flI g d n m a0 w0 f a w) (hf : ∀ i, i < 15 → f i = true) :
  ∃ b3 b4 b5 : Nat, a.tmps.getD 3 undef = .pointer (some ⟨b3, 0, none⟩) ∧ a.tmps.getD 4 undef = .pointer (some ⟨b4, 0, none⟩) ∧ a.tmps.getD 5 undef = .pointer (some ⟨b5, 0, none⟩) ∧
   w.heap[b3]? = some (.cells (fC 0 5 d) 64) ∧ w.heap[b4]? = some (.cells (fC 5 5 n) 64) ∧ w.heap[b5]? = some (.cells (fC 16 5 m) 64) ∧ Below w0.heap.size w0 w ∧
   a = [3, 4, 5, 16, 17, 18, 19, 20, 21, 22, 23, 24].foldl (fun c d => c.put (some d) (a.tmps.getD d undef)) a0 := by
 obtain ⟨hsz, hdf, hoth, hbl, i12, i13, i14, h0, h1, h2, h3, h4, h5, h6, h7, h8, b3, b4, b5, h9, h10, h11, x34, x35, x45⟩ := h
 have k9 := h9 (hf 9 (by decide))
 have k10 := h10 (hf 10 (by decide))
 have k11 := h11 (hf 11 (by decide))
 rw [hf 12 (by decide), if_pos rfl] at k9
 rw [hf 13 (by decide), if_pos rfl] at k10
 rw [hf 14 (by decide), if_pos rfl] at k11
 exact ⟨b3, b4, b5, k9.1, k10.1, k11.1, k9.2.2, k10.2.2, k11.2.2, hbl, act_slots hsz hdf _ hoth⟩
end Go.Proofs.YtemenenkefcebaaDoor.P
