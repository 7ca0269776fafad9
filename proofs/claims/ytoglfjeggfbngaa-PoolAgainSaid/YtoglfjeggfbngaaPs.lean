/- pool.Value, walked by hand. -/
import Derived.Test.YtoglfjeggfbngaaPr
import Derived.Lib.ConvBytes
namespace Go.Proofs.Ytoglfjeggfbngaa.P
open Go.RowKit Go.Maps Go.MapKept Go.ChangeMaps Go.ChangeShapes Go.WideShapes Go.Proofs.YtoglfjeggfbngaaW.PrintWords Go.Proofs.YtoglfjeggfbngaaW.PrintLast Go.Proofs.YtoglfjeggfbngaaW.PrintMore
set_option linter.unusedVariables false
set_option linter.unusedSimpArgs false
/-- Has a literal a value? -/
def valB (x : Lt) : Bool := !(decide (x.f0.data.toList ≠ [] ∧ x.f2 ≠ 0) || decide (x.f0.data.toList = [] ∧ x.f1 ≠ 0))
def bytes8 (v : Int) : List Int := [v % 256, v / 256 % 256, v / 65536 % 256, v / 16777216 % 256, v / 4294967296 % 256, v / 1099511627776 % 256, v / 281474976710656 % 256, v / 72057594037927936 % 256]
set_option maxHeartbeats 4000000 in
theorem pool_value_good (x : Lt) (w : World) (hv : valB x = true) : Calls Try.prog 13 #[ltV x] w fun e w' => e = .returned (.tuple #[.string (strOfNums (bytes8 x.f2)), .int .i64 0]) ∧ Below w.heap.size w w' := by
  obtain ⟨s, a, v⟩ := x
  unfold ltV
  unfold valB at hv
  simp only [← ByteArray.toList_eq] at hv
  have hp : s.toList ≠ [] ∧ v = 0 ∨ s.toList = [] ∧ a = 0 := by
    by_cases h1 : s.toList = [] <;> by_cases h2 : v = 0 <;> by_cases h3 : a = 0 <;> simp_all
  clear hv
  have hcv : ∀ (a0 : Value) (a1 a2 x0 x1 x2 x3 x4 x5 x6 x7 : Int), (convert 55 9 (.slice (some ⟨w.heap.size + 1, 0, none⟩) 8 8)).run Try.prog ((w.alloc (.cells #[a0, .int .i64 a1, .int .u64 a2] 34)).alloc (.cells #[.int .u8 x0, .int .u8 x1, .int .u8 x2, .int .u8 x3, .int .u8 x4, .int .u8 x5, .int .u8 x6, .int .u8 x7] 54)) = .ok (.string (strOfNums [x0, x1, x2, x3, x4, x5, x6, x7])) ((w.alloc (.cells #[a0, .int .i64 a1, .int .u64 a2] 34)).alloc (.cells #[.int .u8 x0, .int .u8 x1, .int .u8 x2, .int .u8 x3, .int .u8 x4, .int .u8 x5, .int .u8 x6, .int .u8 x7] 54)) := by
    intro a0 a1 a2 x0 x1 x2 x3 x4 x5 x6 x7
    have hb := blk_new (w.alloc (.cells #[a0, .int .i64 a1, .int .u64 a2] 34)) (.cells #[.int .u8 x0, .int .u8 x1, .int .u8 x2, .int .u8 x3, .int .u8 x4, .int .u8 x5, .int .u8 x6, .int .u8 x7] 54)
    rw [World.size_alloc] at hb
    refine run_convert_bytes_arg _ 55 5 Try.underlying55 Try.underlying5 (w.heap.size + 1) 0 8 8 [x0, x1, x2, x3, x4, x5, x6, x7] rfl (fun i hi => ?_) 9 Try.underlying9
    have hi' : i = 0 ∨ i = 1 ∨ i = 2 ∨ i = 3 ∨ i = 4 ∨ i = 5 ∨ i = 6 ∨ i = 7 := by omega
    rcases hi' with rfl | rfl | rfl | rfl | rfl | rfl | rfl | rfl <;> exact (blk_cell hb _).trans rfl
  rcases hp with ⟨h1, rfl⟩ | ⟨h1, rfl⟩
  · have b0 : (s.toList == ([] : List UInt8)) = false := beq_eq_false_iff_ne.mpr h1
    have b1 : (s.toList != ([] : List UInt8)) = true := bne_iff_ne.mpr h1
    clear h1
    go_enter Try.func13, Try.ntmps13
    go_wp2
    refine wp_loop_rounds 9 ?_
    iterate 9 (rw [rounds_succ]; go_wp2)
    go_ret2
    exact ⟨rfl, ((Below.refl _ _).alloc (Nat.le_refl _) _).alloc (by simp) _⟩
  · have b0 : (s.toList == ([] : List UInt8)) = true := beq_iff_eq.mpr h1
    have b1 : (s.toList != ([] : List UInt8)) = false := bne_eq_false_iff_eq.mpr h1
    clear h1
    go_enter Try.func13, Try.ntmps13
    go_wp2
    refine wp_loop_rounds 9 ?_
    iterate 9 (rw [rounds_succ]; go_wp2)
    go_ret2
    exact ⟨rfl, ((Below.refl _ _).alloc (Nat.le_refl _) _).alloc (by simp) _⟩
theorem pool_value_bad (x : Lt) (w : World) (hv : valB x = false) : Calls Try.prog 13 #[ltV x] w fun e w' => e = .returned (.tuple #[.string ⟨#[]⟩, .int .i64 1]) ∧ Below w.heap.size w w' := by
  obtain ⟨s, a, v⟩ := x
  unfold ltV
  unfold valB at hv
  simp only [← ByteArray.toList_eq] at hv
  have hp : s.toList ≠ [] ∧ v ≠ 0 ∨ s.toList = [] ∧ a ≠ 0 := by
    by_cases h1 : s.toList = [] <;> by_cases h2 : v = 0 <;> by_cases h3 : a = 0 <;> simp_all
  clear hv
  rcases hp with ⟨h1, h2⟩ | ⟨h1, h2⟩
  · have b0 : (s.toList == ([] : List UInt8)) = false := beq_eq_false_iff_ne.mpr h1
    have b1 : (s.toList != ([] : List UInt8)) = true := bne_iff_ne.mpr h1
    have c0 : (v == 0) = false := beq_eq_false_iff_ne.mpr h2
    have c1 : (v != 0) = true := bne_iff_ne.mpr h2
    clear h1 h2
    go_enter Try.func13, Try.ntmps13
    go_wp2
    go_ret2
    exact ⟨rfl, (Below.refl _ _).alloc (Nat.le_refl _) _⟩
  · have b0 : (s.toList == ([] : List UInt8)) = true := beq_iff_eq.mpr h1
    have b1 : (s.toList != ([] : List UInt8)) = false := bne_eq_false_iff_eq.mpr h1
    have c0 : (a == 0) = false := beq_eq_false_iff_ne.mpr h2
    have c1 : (a != 0) = true := bne_iff_ne.mpr h2
    clear h1 h2
    go_enter Try.func13, Try.ntmps13
    go_wp2
    go_ret2
    exact ⟨rfl, (Below.refl _ _).alloc (Nat.le_refl _) _⟩
end Go.Proofs.Ytoglfjeggfbngaa.P
