/- PoolValue, walked by hand. -/
import Derived.Test.YtoglfjeggfbngaaPv
namespace Go.Proofs.Ytoglfjeggfbngaa.P
open Go.RowKit Go.Maps Go.MapKept Go.ChangeMaps Go.ChangeShapes Go.WideShapes Go.Proofs.YtoglfjeggfbngaaW.PrintWords Go.Proofs.YtoglfjeggfbngaaW.PrintLast Go.Proofs.YtoglfjeggfbngaaW.PrintMore
set_option linter.unusedVariables false
set_option linter.unusedSimpArgs false
theorem lit_equalIn (d : Nat) (w : World) (x0 y0 : ByteArray) (x1 y1 x2 y2 : Int) :
    (Op.equalIn (d + 2) 34 (.agg #[.string x0, .int .i64 x1, .int .u64 x2]) (.agg #[.string y0, .int .i64 y1, .int .u64 y2])).run Try.prog w = .ok (x0.toList == y0.toList && (x1 == y1 && x2 == y2)) w := by
  refine eqA_of Try.underlying34 (by kernel_rfl) ?_
  refine eqf_cons (by rfl) (by go_simp; rfl) (by go_simp; rfl) (by go_simp) ?_
  refine eqf_cons (by rfl) (by go_simp; rfl) (by go_simp; rfl) (by go_simp) ?_
  exact eqf_last (by rfl) (by go_simp; rfl) (by go_simp; rfl) (by go_simp)
theorem lit_eql (x y : Lt) (w : World) : (binOp .eql 34 (ltV x) (ltV y)).run Try.prog w = .ok (.bool (decide (x = y))) w := by
  obtain ⟨x0, x1, x2⟩ := x
  obtain ⟨y0, y1, y2⟩ := y
  have e : (x0.toList == y0.toList && (x1 == y1 && x2 == y2)) = decide ((⟨x0, x1, x2⟩ : Lt) = ⟨y0, y1, y2⟩) := by
    rw [Bool.eq_iff_iff]
    simp only [Bool.and_eq_true, beq_iff_eq, decide_eq_true_eq, Lt.mk.injEq]
    constructor
    · rintro ⟨h0, h1, h2⟩
      refine ⟨?_, h1, h2⟩
      rw [ByteArray.toList_eq, ByteArray.toList_eq] at h0
      exact ByteArray.ext (Array.toList_inj.1 h0)
    · rintro ⟨rfl, h1, h2⟩
      exact ⟨rfl, h1, h2⟩
  rw [← e]
  unfold ltV
  simp only [binOp]
  simp [Op.equal, Op.maxDepth, lit_equalIn 9998 w]
theorem keep1 {W1 w : World} {cs : Array Value} {t : TypeId} (h : Below (w.alloc (.cells cs t)).heap.size (w.alloc (.cells cs t)) W1) : Below w.heap.size w W1 ∧ W1.heap[w.heap.size]? = some (.cells cs t (0, 0)) :=
  ⟨(below_alloc (Below.refl _ _) _).trans (h.mono (by simp)), blk_grown (blk_new w _) (grown_of_below h none) (by simp)⟩
theorem nd_cells {n : Nd} {W W1 : World} {b : Nat} (h : Below W.heap.size W W1 ∧ W1.heap[b]? = some (.cells #[.int .i64 n.f0, .string n.f1, .int .i64 n.f2, .bool n.f3, .int .u64 n.f4] 30 (0, 0))) :
    W1.cell? ⟨b, 0, none⟩ = some (.int .i64 n.f0) ∧ W1.cell? ⟨b, 1, none⟩ = some (.string n.f1) ∧ W1.cell? ⟨b, 2, none⟩ = some (.int .i64 n.f2) ∧ W1.cell? ⟨b, 3, none⟩ = some (.bool n.f3) ∧ W1.cell? ⟨b, 4, none⟩ = some (.int .u64 n.f4) :=
  ⟨(blk_cell h.2 0).trans rfl, (blk_cell h.2 1).trans rfl, (blk_cell h.2 2).trans rfl, (blk_cell h.2 3).trans rfl, (blk_cell h.2 4).trans rfl⟩
theorem keep2 {w W W1 : World} {b : Nat} {o : Obj} (h : Below w.heap.size w W ∧ W.heap[b]? = some o) (hb : Below W.heap.size W W1) : Below w.heap.size w W1 ∧ W1.heap[b]? = some o :=
  ⟨h.1.trans (hb.mono h.1.size), blk_grown h.2 (grown_of_below hb none) (by simp)⟩
theorem keep3 {w W W1 : World} {b : Nat} {o : Obj} (h : Below w.heap.size w W ∧ W.heap[b]? = some o) (p : Obj) (hb : Below (W.alloc p).heap.size (W.alloc p) W1) : Below w.heap.size w W1 ∧ W1.heap[b]? = some o :=
  keep2 ⟨h.1.alloc h.1.size _, blk_alloc h.2 _⟩ hb
theorem keep4 {w W W1 : World} {cs : Array Value} {t : TypeId} (h : Below w.heap.size w W) (hb : Below (W.alloc (.cells cs t)).heap.size (W.alloc (.cells cs t)) W1) : Below w.heap.size w W1 ∧ W1.heap[W.heap.size]? = some (.cells cs t (0, 0)) :=
  keep2 ⟨h.alloc h.size _, blk_new _ _⟩ hb
theorem lt_cells {x : Lt} {W W1 : World} {b : Nat} (h : Below W.heap.size W W1 ∧ W1.heap[b]? = some (.cells #[.string x.f0, .int .i64 x.f1, .int .u64 x.f2] 34 (0, 0))) :
    W1.cell? ⟨b, 0, none⟩ = some (.string x.f0) ∧ W1.cell? ⟨b, 1, none⟩ = some (.int .i64 x.f1) ∧ W1.cell? ⟨b, 2, none⟩ = some (.int .u64 x.f2) :=
  ⟨(blk_cell h.2 0).trans rfl, (blk_cell h.2 1).trans rfl, (blk_cell h.2 2).trans rfl⟩
theorem keep5 {w W : World} {b : Nat} {o : Obj} (h : Below w.heap.size w W ∧ W.heap[b]? = some o) (n : Nat) : Below w.heap.size w (W.drewN n) ∧ (W.drewN n).heap[b]? = some o := ⟨pw_below_drewN h.1 n, h.2⟩
def nilN (n : Nd) : Bool := decide (n.f1.data.toList = [])
theorem value_long (n : Nd) (w : World) (h : 100 < n.f1.size) : Calls Try.prog 6 #[ndV n] w fun e w' => e = .returned (.bool true) ∧ Below w.heap.size w w' := by
  have h1 : (100 : Int) < n.f1.size := by omega
  unfold ndV
  go_enter Try.func6, Try.ntmps6
  go_wp2
  go_ret
  exact ⟨rfl, (Below.refl _ _).alloc (Nat.le_refl _) _⟩
set_option maxHeartbeats 2000000 in
theorem value_bad (n : Nd) (w : World) (h : n.f1.size ≤ 100) (hn : ofB n = false) : Calls Try.prog 6 #[ndV n] w fun e w' => e = .returned (.bool true) ∧ Below w.heap.size w w' := by
  have h1 : ¬ (100 : Int) < n.f1.size := by omega
  have h2 : (n.f1.size : Int) ≤ 9223372036854775807 := by omega
  have hE : ofE n = 1 := by unfold ofE; rw [hn]; rfl
  have hL : ofL n = ⟨⟨#[]⟩, 0, 0⟩ := by unfold ofL; rw [hn]; rfl
  have HC := Aside0.mk (of_calls n)
  have HP := Aside0.mk (pool_put_nil n)
  rw [hE, hL] at HC
  have hq := lit_eql ⟨⟨#[]⟩, 0, 0⟩ ⟨⟨#[]⟩, 0, 0⟩
  unfold ltV at HC hq
  unfold ndV at HC HP ⊢
  clear hE hL hn
  clear h
  go_enter Try.func6, Try.ntmps6
  go_wp2_with (go_at_call 9; refine (HP.out _).mono ?_; rintro e w1 ⟨rfl, hb1⟩; have B1 := keep1 hb1; have c1 := nd_cells B1; have hz1 := hb1.size; clear hb1)
  obtain ⟨c10, c11, c12, c13, c14⟩ := c1
  go_wp2_with (first | (go_at_call 10; refine (pool_size_nil _).mono ?_; rintro e w' ⟨rfl, rfl⟩) | (go_at_call 12; refine (pool_take_nil _).mono ?_; rintro e w' ⟨rfl, rfl⟩))
  clear c10 c11 c12 c13 c14
  go_wp2_with (go_at_call 11; refine (HC.out _).mono ?_; rintro e w2 ⟨rfl, hb2⟩; have B2 := keep2 B1 hb2; clear hb2)
  go_wp2_with (go_at_call 7; refine (pooled_calls _).mono ?_; rintro e w3 ⟨rfl, hb3⟩; have B3 := keep4 (cs := #[.string ⟨#[]⟩, .int .i64 0, .int .u64 0]) (t := 34) B2.1 hb3; have c3 := lt_cells (x := ⟨⟨#[]⟩, 0, 0⟩) B3; clear hb3)
  obtain ⟨c30, c31, c32⟩ := c3
  go_wp2
  go_ret
  exact ⟨rfl, B3.1⟩
set_option maxHeartbeats 4000000 in
theorem value_sym (s : ByteArray) (a : Int) (w : World) (h : s.size ≤ 100) (hs : s.toList ≠ []) : Calls Try.prog 6 #[ndV ⟨10, s, a, false, 0⟩] w fun e w' => e = .returned (.bool true) ∧ Below w.heap.size w w' := by
  obtain ⟨n, hn⟩ : ∃ n : Nd, n = ⟨10, s, a, false, 0⟩ := ⟨_, rfl⟩
  obtain ⟨x, hx⟩ : ∃ x : Lt, x = ⟨s, a, 0⟩ := ⟨_, rfl⟩
  have hO : ofB n = true := by rw [hn]; simp [ofB, ← ByteArray.toList_eq, hs]
  have hE : ofE n = 0 := by unfold ofE; rw [hO]; rfl
  have hL : ofL n = x := by rw [hx]; unfold ofL; rw [hO, hn]; simp [← ByteArray.toList_eq, hs]
  have hV : valB x = true := by rw [hx]; simp [valB, ← ByteArray.toList_eq, hs]
  have HC := Aside0.mk (of_calls n)
  have HP := Aside0.mk (pool_put_nil n)
  have HV := Aside0.mk (fun W => pool_value_good x W hV)
  have hsize : ((strOfNums (bytes8 x.f2)).size : Int) = 8 := by rw [strOfNums_size]; rfl
  have HN := Aside0.mk (fun W => cleatref07_Number.calls 100 (strOfNums (bytes8 x.f2)) x.f2 W (number_bytes _ (by rw [hx]; exact Int.le_refl 0) (by rw [hx]; exact (by decide : (0 : Int) < 18446744073709551616))))
  have h1 : ¬ (100 : Int) < s.size := by omega
  have h2 : (s.size : Int) ≤ 9223372036854775807 := by omega
  have b0 : (s.toList == ([] : List UInt8)) = false := beq_eq_false_iff_ne.mpr hs
  have b1 : (s.toList != ([] : List UInt8)) = true := bne_iff_ne.mpr hs
  clear hs h
  rw [hE, hL] at HC
  clear hE hL hO hV
  rw [hn] at HC HP
  rw [hx] at HC HV hsize HN
  clear hn hx n x
  unfold ltV at HC HV
  unfold ndV at HC HP ⊢
  dsimp only at HC HP HV HN hsize ⊢
  go_enter Try.func6, Try.ntmps6
  go_wp2_with (go_at_call 9; refine (HP.out _).mono ?_; rintro e w1 ⟨rfl, hb1⟩; have B1 := keep1 hb1; obtain ⟨c10, c11, c12, c13, c14⟩ := nd_cells (n := ⟨10, s, a, false, 0⟩) B1; clear hb1)
  go_wp2_with (first | (go_at_call 10; refine (pool_size_nil _).mono ?_; rintro e w' ⟨rfl, rfl⟩) | (go_at_call 12; refine (pool_take_nil _).mono ?_; rintro e w' ⟨rfl, rfl⟩))
  clear c10 c11 c12 c13 c14
  go_wp2_with (go_at_call 11; refine (HC.out _).mono ?_; rintro e w2 ⟨rfl, hb2⟩; have B2 := keep2 B1 hb2; obtain ⟨c20, c21, c22, c23, c24⟩ := nd_cells (n := ⟨10, s, a, false, 0⟩) B2; clear hb2)
  clear c20 c21 c22 c23 c24
  go_wp2_with (go_at_call 13; refine (HV.out _).mono ?_; rintro e w3 ⟨rfl, hb3⟩; have B3 := keep3 B2 (.cells #[.string s, .int .i64 a, .int .u64 0] 34) hb3; obtain ⟨c30, c31, c32, c33, c34⟩ := nd_cells (n := ⟨10, s, a, false, 0⟩) B3; have L3 := keep4 (cs := #[.string s, .int .i64 a, .int .u64 0]) (t := 34) B2.1 hb3; obtain ⟨d30, d31, d32⟩ := lt_cells (x := ⟨s, a, 0⟩) L3; clear hb3)
  go_wp2_with (go_at_call 14; refine (HN.out _).mono ?_; rintro e w4 ⟨rfl, ⟨nd, rfl⟩⟩)
  clear c30 c31 c32 c33 c34 d30 d31 d32
  go_wp2_with (go_at_call 7; refine (pooled_calls _).mono ?_; rintro e w5 ⟨rfl, hb5⟩; have B5 := keep2 (keep5 B3 nd) hb5; have L5 := keep2 (keep5 L3 nd) hb5; obtain ⟨c50, c51, c52, c53, c54⟩ := nd_cells (n := ⟨10, s, a, false, 0⟩) B5; obtain ⟨d50, d51, d52⟩ := lt_cells (x := ⟨s, a, 0⟩) L5; clear hb5)
  go_wp2
  go_ret
  exact ⟨rfl, B5.1⟩
set_option maxHeartbeats 4000000 in
theorem value_minus (a v u : Int) (w : World) (h0 : 0 ≤ u) (h1 : u < 18446744073709551616) (hu : IntKind.u64.wrap (-v) = u) (hz : (u + v) % 18446744073709551616 = 0) : Calls Try.prog 6 #[ndV ⟨10, ⟨#[]⟩, a, true, v⟩] w fun e w' => e = .returned (.bool true) ∧ Below w.heap.size w w' := by
  obtain ⟨n, hn⟩ : ∃ n : Nd, n = ⟨10, ⟨#[]⟩, a, true, v⟩ := ⟨_, rfl⟩
  obtain ⟨x, hx⟩ : ∃ x : Lt, x = ⟨⟨#[]⟩, 0, u⟩ := ⟨_, rfl⟩
  have hO : ofB n = true := by rw [hn]; simp [ofB]
  have hE : ofE n = 0 := by unfold ofE; rw [hO]; rfl
  have hL : ofL n = x := by rw [hx]; unfold ofL; rw [hO, hn]; simp [hu]
  have hV : valB x = true := by rw [hx]; simp [valB]
  have HC := Aside0.mk (of_calls n)
  have HP := Aside0.mk (pool_put_nil n)
  have HV := Aside0.mk (fun W => pool_value_good x W hV)
  have hsize : ((strOfNums (bytes8 x.f2)).size : Int) = 8 := by rw [strOfNums_size]; rfl
  have HN := Aside0.mk (fun W => cleatref07_Number.calls 100 (strOfNums (bytes8 x.f2)) x.f2 W (number_bytes _ (by rw [hx]; exact h0) (by rw [hx]; exact h1)))
  have b0 : ((⟨#[]⟩ : ByteArray).toList == ([] : List UInt8)) = true := by rw [ByteArray.toList_eq]; rfl
  have b1 : ((⟨#[]⟩ : ByteArray).toList != ([] : List UInt8)) = false := by rw [ByteArray.toList_eq]; rfl
  clear h1
  have h1 : ¬ (100 : Int) < (⟨#[]⟩ : ByteArray).size := by decide
  have hz2 : IntKind.u64.wrap (u + v) = 0 := by rw [Go.Proofs.Ytoglfjeggfbngaa.K.wu64]; exact hz
  rw [hE, hL] at HC
  clear hE hL hO hV
  rw [hn] at HC HP
  rw [hx] at HC HV hsize HN
  clear hn hx n x
  unfold ltV at HC HV
  unfold ndV at HC HP ⊢
  dsimp only at HC HP HV HN hsize ⊢
  go_enter Try.func6, Try.ntmps6
  go_wp2_with (go_at_call 9; refine (HP.out _).mono ?_; rintro e w1 ⟨rfl, hb1⟩; have B1 := keep1 hb1; obtain ⟨c10, c11, c12, c13, c14⟩ := nd_cells (n := ⟨10, ⟨#[]⟩, a, true, v⟩) B1; clear hb1)
  go_wp2_with (first | (go_at_call 10; refine (pool_size_nil _).mono ?_; rintro e w' ⟨rfl, rfl⟩) | (go_at_call 12; refine (pool_take_nil _).mono ?_; rintro e w' ⟨rfl, rfl⟩))
  clear c10 c11 c12 c13 c14
  go_wp2_with (go_at_call 11; refine (HC.out _).mono ?_; rintro e w2 ⟨rfl, hb2⟩; have B2 := keep2 B1 hb2; obtain ⟨c20, c21, c22, c23, c24⟩ := nd_cells (n := ⟨10, ⟨#[]⟩, a, true, v⟩) B2; clear hb2)
  clear c20 c21 c22 c23 c24
  go_wp2_with (go_at_call 13; refine (HV.out _).mono ?_; rintro e w3 ⟨rfl, hb3⟩; have B3 := keep3 B2 (.cells #[.string ⟨#[]⟩, .int .i64 0, .int .u64 u] 34) hb3; obtain ⟨c30, c31, c32, c33, c34⟩ := nd_cells (n := ⟨10, ⟨#[]⟩, a, true, v⟩) B3; have L3 := keep4 (cs := #[.string ⟨#[]⟩, .int .i64 0, .int .u64 u]) (t := 34) B2.1 hb3; obtain ⟨d30, d31, d32⟩ := lt_cells (x := ⟨⟨#[]⟩, 0, u⟩) L3; clear hb3)
  go_wp2_with (go_at_call 14; refine (HN.out _).mono ?_; rintro e w4 ⟨rfl, ⟨nd, rfl⟩⟩)
  clear c30 c31 c32 c33 c34 d30 d31 d32
  go_wp2_with (go_at_call 7; refine (pooled_calls _).mono ?_; rintro e w5 ⟨rfl, hb5⟩; have B5 := keep2 (keep5 B3 nd) hb5; have L5 := keep2 (keep5 L3 nd) hb5; obtain ⟨c50, c51, c52, c53, c54⟩ := nd_cells (n := ⟨10, ⟨#[]⟩, a, true, v⟩) B5; obtain ⟨d50, d51, d52⟩ := lt_cells (x := ⟨⟨#[]⟩, 0, u⟩) L5; clear hb5)
  go_wp2
  go_ret
  exact ⟨rfl, B5.1⟩
set_option maxHeartbeats 4000000 in
theorem value_plus (a v : Int) (w : World) (h0 : 0 ≤ v) (h1 : v < 18446744073709551616) : Calls Try.prog 6 #[ndV ⟨10, ⟨#[]⟩, a, false, v⟩] w fun e w' => e = .returned (.bool true) ∧ Below w.heap.size w w' := by
  obtain ⟨n, hn⟩ : ∃ n : Nd, n = ⟨10, ⟨#[]⟩, a, false, v⟩ := ⟨_, rfl⟩
  obtain ⟨x, hx⟩ : ∃ x : Lt, x = ⟨⟨#[]⟩, 0, v⟩ := ⟨_, rfl⟩
  have hO : ofB n = true := by rw [hn]; simp [ofB]
  have hE : ofE n = 0 := by unfold ofE; rw [hO]; rfl
  have hL : ofL n = x := by rw [hx]; unfold ofL; rw [hO, hn]; simp
  have hV : valB x = true := by rw [hx]; simp [valB]
  have HC := Aside0.mk (of_calls n)
  have HP := Aside0.mk (pool_put_nil n)
  have HV := Aside0.mk (fun W => pool_value_good x W hV)
  have hsize : ((strOfNums (bytes8 x.f2)).size : Int) = 8 := by rw [strOfNums_size]; rfl
  have HN := Aside0.mk (fun W => cleatref07_Number.calls 100 (strOfNums (bytes8 x.f2)) x.f2 W (number_bytes _ (by rw [hx]; exact h0) (by rw [hx]; exact h1)))
  have b0 : ((⟨#[]⟩ : ByteArray).toList == ([] : List UInt8)) = true := by rw [ByteArray.toList_eq]; rfl
  have b1 : ((⟨#[]⟩ : ByteArray).toList != ([] : List UInt8)) = false := by rw [ByteArray.toList_eq]; rfl
  clear h1
  have h1 : ¬ (100 : Int) < (⟨#[]⟩ : ByteArray).size := by decide
  rw [hE, hL] at HC
  clear hE hL hO hV
  rw [hn] at HC HP
  rw [hx] at HC HV hsize HN
  clear hn hx n x
  unfold ltV at HC HV
  unfold ndV at HC HP ⊢
  dsimp only at HC HP HV HN hsize ⊢
  go_enter Try.func6, Try.ntmps6
  go_wp2_with (go_at_call 9; refine (HP.out _).mono ?_; rintro e w1 ⟨rfl, hb1⟩; have B1 := keep1 hb1; obtain ⟨c10, c11, c12, c13, c14⟩ := nd_cells (n := ⟨10, ⟨#[]⟩, a, false, v⟩) B1; clear hb1)
  go_wp2_with (first | (go_at_call 10; refine (pool_size_nil _).mono ?_; rintro e w' ⟨rfl, rfl⟩) | (go_at_call 12; refine (pool_take_nil _).mono ?_; rintro e w' ⟨rfl, rfl⟩))
  clear c10 c11 c12 c13 c14
  go_wp2_with (go_at_call 11; refine (HC.out _).mono ?_; rintro e w2 ⟨rfl, hb2⟩; have B2 := keep2 B1 hb2; obtain ⟨c20, c21, c22, c23, c24⟩ := nd_cells (n := ⟨10, ⟨#[]⟩, a, false, v⟩) B2; clear hb2)
  clear c20 c21 c22 c23 c24
  go_wp2_with (go_at_call 13; refine (HV.out _).mono ?_; rintro e w3 ⟨rfl, hb3⟩; have B3 := keep3 B2 (.cells #[.string ⟨#[]⟩, .int .i64 0, .int .u64 v] 34) hb3; obtain ⟨c30, c31, c32, c33, c34⟩ := nd_cells (n := ⟨10, ⟨#[]⟩, a, false, v⟩) B3; have L3 := keep4 (cs := #[.string ⟨#[]⟩, .int .i64 0, .int .u64 v]) (t := 34) B2.1 hb3; obtain ⟨d30, d31, d32⟩ := lt_cells (x := ⟨⟨#[]⟩, 0, v⟩) L3; clear hb3)
  go_wp2_with (go_at_call 14; refine (HN.out _).mono ?_; rintro e w4 ⟨rfl, ⟨nd, rfl⟩⟩)
  clear c30 c31 c32 c33 c34 d30 d31 d32
  go_wp2_with (go_at_call 7; refine (pooled_calls _).mono ?_; rintro e w5 ⟨rfl, hb5⟩; have B5 := keep2 (keep5 B3 nd) hb5; have L5 := keep2 (keep5 L3 nd) hb5; obtain ⟨c50, c51, c52, c53, c54⟩ := nd_cells (n := ⟨10, ⟨#[]⟩, a, false, v⟩) B5; obtain ⟨d50, d51, d52⟩ := lt_cells (x := ⟨⟨#[]⟩, 0, v⟩) L5; clear hb5)
  go_wp2
  go_ret
  exact ⟨rfl, B5.1⟩
theorem value_calls (a0 : Int) (a1 : ByteArray) (a2 : Int) (a3 : Bool) (a4 : Int) (w : World) (_h1 : (Lit.int .i64 a0).wf = true) (_h2 : a1.size ≤ 9223372036854775807) (_h3 : (Lit.int .i64 a2).wf = true) (h4 : (Lit.int .u64 a4).wf = true) :
    Calls Try.prog 6 #[.agg #[.int .i64 a0, .string a1, .int .i64 a2, .bool a3, .int .u64 a4]] w fun e w' => e = .returned (.bool true) ∧ Below w.heap.size w w' := by
  have hv := Go.Proofs.Ytoglfjeggfbngaa.K.wf_u64 h4
  by_cases hs : 100 < a1.size
  · exact value_long ⟨a0, a1, a2, a3, a4⟩ w hs
  cases hn : ofB ⟨a0, a1, a2, a3, a4⟩
  · exact value_bad ⟨a0, a1, a2, a3, a4⟩ w (by show a1.size ≤ 100; omega) hn
  simp only [ofB, decide_eq_true_eq] at hn
  obtain ⟨rfl, hn⟩ := hn
  by_cases he : a1.data.toList = []
  · obtain rfl : a1 = ⟨#[]⟩ := ByteArray.ext (Array.toList_inj.1 he)
    cases a3
    · exact value_plus a2 a4 w hv.1 hv.2
    · refine value_minus a2 a4 _ w ?_ ?_ rfl ?_ <;> rw [Go.Proofs.Ytoglfjeggfbngaa.K.wu64] <;> omega
  · rcases hn with hn | ⟨rfl, rfl⟩
    · exact absurd hn he
    · exact value_sym a1 a2 w (by omega) (by rw [ByteArray.toList_eq]; exact he)
end Go.Proofs.Ytoglfjeggfbngaa.P
