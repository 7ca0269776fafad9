-- printed by wip/tools/myprint.py out of the translation. Not trusted: Lean checks it.
import Derived.Test.YtgonbeifaioheaaDoorPx0
import Derived.Test.YtgonbeifaioheaaDoorPx2
import Derived.Test.YtgonbeifaioheaaDoorPx3
import Derived.Test.YtgonbeifaioheaaDoorPx4
import Derived.Test.YtgonbeifaioheaaDoorPx5
import Derived.Test.YtgonbeifaioheaaDoorPx10
namespace Go.Proofs.YtgonbeifaioheaaDoor.P
open Go.RowKit Go.Proofs.YtgonbeifaioheaaDoorW.PrintWords Go.Proofs.YtgonbeifaioheaaDoorW.PrintLast Go.Proofs.YtgonbeifaioheaaDoorW.PrintMore
attribute [local go_sem] max2_int min2_int max_two min_two max_three min_three max_four min_four   -- for this text's walks alone
set_option linter.unusedVariables false
set_option linter.unusedSimpArgs false

/-! ### inst_Reads: function 15 -/
/-- A register is put to a set, or is not. -/
def gatherO (s : List Bool) (r : Int) (there stack : Bool) : Option (List Bool) := if there = true ∧ (r ≠ 31 ∨ stack = true) then (if 0 ≤ r ∧ r < 32 then some (s.set r.toNat true) else none) else some s
/-- Those of a set below i. -/
def regsUp (s : List Bool) (i : Nat) : List Int := ((List.range i).filter fun j : Nat => s.getD j false).map fun j : Nat => (j : Int)
def inst_Reads.f (k : Nat) (a0_0 : Int) (a0_1 : Int) (a0_2 : Int) (a0_3 : Int) (a0_4 : Int) (a0_5 : Int) (a0_6 : Int) (a0_7 : Int) (a0_8 : Int) (a0_9 : Int) : Option (List Int) := (inst_Is.f k a0_0 a0_1 a0_2 a0_3 a0_4 a0_5 a0_6 a0_7 a0_8 a0_9).bind fun b => (if b = true then ((inst_Shape.f a0_0).bind fun sh => (inst_has.f k sh).bind fun h4 => (inst_readsD.f a0_0).bind fun rD => (gatherO (List.replicate 32 false) a0_1 rD false).bind fun s1 => (inst_stackN.f sh).bind fun sn => (gatherO s1 a0_2 h4.2.1 sn).bind fun s2 => (gatherO s2 a0_3 h4.2.2.1 false).bind fun s3 => (gatherO s3 a0_4 h4.2.2.2 false).bind fun s4 => (gatherO s4 0 (a0_0 == 37) false).bind fun s5 => some (regsUp s5 32)) else some [])
theorem inst_Reads.mono : ∀ a0_0 a0_1 a0_2 a0_3 a0_4 a0_5 a0_6 a0_7 a0_8 a0_9 k, LeO (inst_Reads.f k a0_0 a0_1 a0_2 a0_3 a0_4 a0_5 a0_6 a0_7 a0_8 a0_9) (inst_Reads.f (k + 1) a0_0 a0_1 a0_2 a0_3 a0_4 a0_5 a0_6 a0_7 a0_8 a0_9) := by
  intro a0_0 a0_1 a0_2 a0_3 a0_4 a0_5 a0_6 a0_7 a0_8 a0_9 k
  unfold inst_Reads.f
  refine LeO.bind (inst_Is.mono _ _ _ _ _ _ _ _ _ _ k) (fun _ => LeO.ite (LeO.bind (LeO.refl _) (fun _ => LeO.bind (inst_has.mono _ k) (fun _ => LeO.refl _))) (LeO.refl _))
theorem gatherO_len {s s' : List Bool} {r : Int} {there stack : Bool} (h : gatherO s r there stack = some s') : s'.length = s.length := by
  unfold gatherO at h
  split at h
  · split at h
    · cases h; simp
    · cases h
  · cases h; rfl
theorem regsUp_succ (s : List Bool) (i : Nat) : regsUp s (i + 1) = if s.getD i false = true then regsUp s i ++ [(i : Int)] else regsUp s i := by
  unfold regsUp
  rw [List.range_succ, List.filter_append, List.map_append, List.filter_cons, List.filter_nil]
  cases hq : s.getD i false
  · rw [if_neg (by decide), if_neg (by decide), List.map_nil, List.append_nil]
  · rw [if_pos rfl, if_pos rfl]
    rfl
theorem regsUp_len (s : List Bool) (i : Nat) : (regsUp s i).length ≤ i := by
  unfold regsUp
  rw [List.length_map]
  have := List.length_filter_le (fun j : Nat => s.getD j false) (List.range i)
  rw [List.length_range] at this
  exact this
/-- The argument's box, and the set's block. -/
structure RdAt (w0 : World) (b : Nat) (cs : Array Value) (g : Nat) (s : List Bool) (W : World) : Prop where
  box : W.heap[b]? = some (.cells cs 24 (0, 0))
  set : W.heap[g]? = some (.cells (s.map Value.bool).toArray 49 (0, 0))
  bel : Below w0.heap.size w0 W
  lt : b < g
  base : w0.heap.size ≤ b
  len : s.length = 32
theorem RdAt.drewN {w0 : World} {b : Nat} {cs : Array Value} {g : Nat} {s : List Bool} {W : World} (h : RdAt w0 b cs g s W) (n : Nat) : RdAt w0 b cs g s (W.drewN n) := ⟨h.box, h.set, pw_below_drewN h.bel n, h.lt, h.base, h.len⟩
theorem RdAt.drew {w0 : World} {b : Nat} {cs : Array Value} {g : Nat} {s : List Bool} {W : World} (h : RdAt w0 b cs g s W) : RdAt w0 b cs g s W.drew := ⟨h.box, h.set, below_drew h.bel, h.lt, h.base, h.len⟩
theorem RdAt.put {w0 : World} {b : Nat} {cs : Array Value} {g : Nat} {s : List Bool} {W : World} (h : RdAt w0 b cs g s W) (i : Nat) : RdAt w0 b cs g (s.set i true) (W.setCell ⟨g, i, none⟩ (.bool true)) :=
  ⟨blk_far h.box (by have := h.lt; simp; omega) _, blk_put h.set i _ (by simp [List.map_set]), h.bel.setCell (p := ⟨g, i, none⟩) (by have := h.lt; have := h.base; simp; omega) _, h.lt, h.base, by simpa using h.len⟩
theorem reads_gather (w0 : World) (b : Nat) (cs : Array Value) (g : Nat) (s s' : List Bool) (r : Int) (there stack : Bool) (W : World) (h : RdAt w0 b cs g s W) (hg : gatherO s r there stack = some s') :
    Calls Tryd.prog 38 #[.int .i64 r, .bool there, .bool stack, .pointer (some ⟨g, 0, none⟩)] W fun e w' => e = .returned (.tuple #[]) ∧ RdAt w0 b cs g s' w' := by
  have HR := Aside0.mk h
  unfold gatherO at hg
  by_cases hc : there = true ∧ (r ≠ 31 ∨ stack = true)
  · rw [if_pos hc] at hg
    by_cases hr : 0 ≤ r ∧ r < 32
    · rw [if_pos hr] at hg
      obtain rfl := Option.some.inj hg
      obtain ⟨rfl, hc⟩ := hc
      obtain ⟨hr0, hr1⟩ := hr
      have hl := h.len
      obtain ⟨v, hv⟩ : ∃ v, (s.map Value.bool).toArray[r.toNat]? = some v := ⟨_, Array.getElem?_eq_getElem (by simp; omega)⟩
      have hcell : W.cell? ⟨g, r.toNat, none⟩ = some v := (blk_cell h.set r.toNat).trans hv
      have hfz := blk_frozen h.set r.toNat
      clear h hg hv hl
      by_cases h31 : r = 31
      · have hs : stack = true := by rcases hc with hc | hc; exact absurd h31 hc; exact hc
        subst hs
        have e0 : (r == 31) = true := beq_iff_eq.mpr h31
        have e1 : (r != 31) = false := bne_eq_false_iff_eq.mpr h31
        clear hc h31
        go_enter Tryd.func38, Tryd.ntmps38
        go_wp2
        go_end0
        exact ⟨rfl, HR.out.put r.toNat⟩
      · have e0 : (r == 31) = false := beq_eq_false_iff_ne.mpr h31
        have e1 : (r != 31) = true := bne_iff_ne.mpr h31
        clear hc h31
        go_enter Tryd.func38, Tryd.ntmps38
        go_wp2
        go_end0
        exact ⟨rfl, HR.out.put r.toNat⟩
    · rw [if_neg hr] at hg
      cases hg
  · rw [if_neg hc] at hg
    obtain rfl := Option.some.inj hg
    clear h hg
    cases there
    · clear hc
      go_enter Tryd.func38, Tryd.ntmps38
      go_wp2
      go_end0
      exact ⟨rfl, HR.out⟩
    · cases stack
      · have h31 : r = 31 := Classical.not_not.1 (fun e => hc ⟨rfl, Or.inl e⟩)
        have e0 : (r == 31) = true := beq_iff_eq.mpr h31
        have e1 : (r != 31) = false := bne_eq_false_iff_eq.mpr h31
        clear hc h31
        go_enter Tryd.func38, Tryd.ntmps38
        go_wp2
        go_end0
        exact ⟨rfl, HR.out⟩
      · exact absurd ⟨rfl, Or.inr rfl⟩ hc
theorem rd_cells {w0 : World} {b : Nat} {a0_0 : Int} {a0_1 : Int} {a0_2 : Int} {a0_3 : Int} {a0_4 : Int} {a0_5 : Int} {a0_6 : Int} {a0_7 : Int} {a0_8 : Int} {a0_9 : Int} {g : Nat} {s : List Bool} {W : World} (h : RdAt w0 b #[.int .i64 a0_0, .int .i64 a0_1, .int .i64 a0_2, .int .i64 a0_3, .int .i64 a0_4, .int .i64 a0_5, .int .u64 a0_6, .int .i64 a0_7, .int .i64 a0_8, .int .i64 a0_9] g s W) :
    W.cell? ⟨b, 0, none⟩ = some (.int .i64 a0_0) ∧ W.cell? ⟨b, 1, none⟩ = some (.int .i64 a0_1) ∧ W.cell? ⟨b, 2, none⟩ = some (.int .i64 a0_2) ∧ W.cell? ⟨b, 3, none⟩ = some (.int .i64 a0_3) ∧ W.cell? ⟨b, 4, none⟩ = some (.int .i64 a0_4) :=
  ⟨(blk_cell h.box 0).trans rfl, (blk_cell h.box 1).trans rfl, (blk_cell h.box 2).trans rfl, (blk_cell h.box 3).trans rfl, (blk_cell h.box 4).trans rfl⟩
theorem reads_index (s : List Bool) (hs : s.length = 32) (x : Int) (h0 : 0 ≤ x) (h1 : x < 32) (W : World) : (Instr.index 49 (.agg (s.map Value.bool).toArray) (.int .i64 x)).run Tryd.prog W = .ok (.bool (s.getD x.toNat false)) W := by
  have hi : x.toNat < s.length := by omega
  have hg : (s.map Value.bool).toArray[x.toNat]? = some (.bool (s.getD x.toNat false)) := by
    rw [List.getElem?_toArray, List.getElem?_map, List.getElem?_eq_getElem hi, List.getD_eq_getElem?_getD, List.getElem?_eq_getElem hi]
    rfl
  have hu := Tryd.underlying49
  generalize (s.map Value.bool).toArray = cs at *
  obtain ⟨v, hv⟩ : ∃ v, v = s.getD x.toNat false := ⟨_, rfl⟩
  rw [← hv] at hg ⊢
  clear hv hi hs
  have hr : 0 ≤ x ∧ x < 32 := ⟨h0, h1⟩
  have hi4 : (Tryd.prog.info? 4).map (fun i => i.size) = some 1 := by kernel_rfl
  obtain ⟨i4, hi4, hs4⟩ := Option.map_eq_some_iff.1 hi4
  simp [Instr.index, run_underlying hu, run_underlying Tryd.underlying4, asIntOf, hr, part, isAgg, sizeOf, typeInfo, hi4, hs4, hg, go_sem]
set_option maxHeartbeats 4000000 in
theorem inst_Reads.calls (k : Nat) (a0_0 : Int) (a0_1 : Int) (a0_2 : Int) (a0_3 : Int) (a0_4 : Int) (a0_5 : Int) (a0_6 : Int) (a0_7 : Int) (a0_8 : Int) (a0_9 : Int) (r : List Int) (w : World) (h : inst_Reads.f k a0_0 a0_1 a0_2 a0_3 a0_4 a0_5 a0_6 a0_7 a0_8 a0_9 = some r) (HT : Aside0 (Tabs w)) :
    Calls Tryd.prog 15 #[.agg #[.int .i64 a0_0, .int .i64 a0_1, .int .i64 a0_2, .int .i64 a0_3, .int .i64 a0_4, .int .i64 a0_5, .int .u64 a0_6, .int .i64 a0_7, .int .i64 a0_8, .int .i64 a0_9]] w fun e w' => ∃ v0_ : Value, e = .returned (v0_) ∧ Kd.R (Kd.int .i64) 3 w' w.heap.size (fun _ => True) v0_ r ∧ Below w.heap.size w w' := by
  unfold inst_Reads.f at h
  replace h := Option.bind_eq_some_iff.1 h
  obtain ⟨b, hIs, h⟩ := h
  have HIS := Aside0.mk (inst_Is.calls k a0_0 a0_1 a0_2 a0_3 a0_4 a0_5 a0_6 a0_7 a0_8 a0_9 b (w.alloc (.cells #[.int .i64 a0_0, .int .i64 a0_1, .int .i64 a0_2, .int .i64 a0_3, .int .i64 a0_4, .int .i64 a0_5, .int .u64 a0_6, .int .i64 a0_7, .int .i64 a0_8, .int .i64 a0_9] 24)) hIs (tabs_of HT (below_alloc (Below.refl _ _) _)))
  clear hIs
  cases b
  · rw [if_neg (by decide)] at h
    obtain rfl := Option.some.inj h
    clear h
    go_enter Tryd.func15, Tryd.ntmps15
    go_wp2_with (go_at_call 12; refine HIS.out.mono ?_; rintro e w1 ⟨rfl, hb⟩)
    go_ret
    exact ⟨_, rfl, Kd.R_nil _ _ _ _ _, (below_alloc (Below.refl _ _) _).trans (hb.mono (by simp))⟩
  · rw [if_pos rfl] at h
    replace h := Option.bind_eq_some_iff.1 h
    obtain ⟨sh, hSh, h⟩ := h
    replace h := Option.bind_eq_some_iff.1 h
    obtain ⟨⟨hd, hn, hm, ha⟩, hHas, h⟩ := h
    replace h := Option.bind_eq_some_iff.1 h
    obtain ⟨rD, hRD, h⟩ := h
    replace h := Option.bind_eq_some_iff.1 h
    obtain ⟨s1, hs1, h⟩ := h
    replace h := Option.bind_eq_some_iff.1 h
    obtain ⟨sn, hSn, h⟩ := h
    replace h := Option.bind_eq_some_iff.1 h
    obtain ⟨s2, hs2, h⟩ := h
    replace h := Option.bind_eq_some_iff.1 h
    obtain ⟨s3, hs3, h⟩ := h
    replace h := Option.bind_eq_some_iff.1 h
    obtain ⟨s4, hs4, h⟩ := h
    replace h := Option.bind_eq_some_iff.1 h
    obtain ⟨s5, hs5, h⟩ := h
    obtain rfl := Option.some.inj h
    clear h
    have H1 := Aside0.mk hs1
    have H2 := Aside0.mk hs2
    have H3 := Aside0.mk hs3
    have H4 := Aside0.mk hs4
    have H5 := Aside0.mk hs5
    have HSH := Aside0.mk hSh
    have HHAS := Aside0.mk hHas
    have HRD := Aside0.mk hRD
    have HSN := Aside0.mk hSn
    have hl5 : s5.length = 32 := by
      rw [gatherO_len hs5, gatherO_len hs4, gatherO_len hs3, gatherO_len hs2, gatherO_len hs1]
      rfl
    have HL5 := Aside0.mk hl5
    clear hs1 hs2 hs3 hs4 hs5 hSh hHas hRD hSn hl5
    have hmk := info_i64
    go_enter Tryd.func15, Tryd.ntmps15
    go_wp2_with (fail)
    refine HIS.out.mono ?_
    rintro e w1 ⟨rfl, hb⟩
    have hb1 := (below_alloc (Below.refl w.heap.size w) (.cells #[.int .i64 a0_0, .int .i64 a0_1, .int .i64 a0_2, .int .i64 a0_3, .int .i64 a0_4, .int .i64 a0_5, .int .u64 a0_6, .int .i64 a0_7, .int .i64 a0_8, .int .i64 a0_9] 24)).trans (hb.mono (by simp))
    have BX1 := blk_grown (blk_new w (.cells #[.int .i64 a0_0, .int .i64 a0_1, .int .i64 a0_2, .int .i64 a0_3, .int .i64 a0_4, .int .i64 a0_5, .int .u64 a0_6, .int .i64 a0_7, .int .i64 a0_8, .int .i64 a0_9] 24)) (grown_of_below hb none) (by simp)
    have hlt1 : w.heap.size < w1.heap.size := blk_lt BX1
    have hne1 : w.heap.size ≠ w1.heap.size := by omega
    obtain ⟨c0, c1, c2, c3, c4⟩ : w1.cell? ⟨w.heap.size, 0, none⟩ = some (.int .i64 a0_0) ∧ w1.cell? ⟨w.heap.size, 1, none⟩ = some (.int .i64 a0_1) ∧ w1.cell? ⟨w.heap.size, 2, none⟩ = some (.int .i64 a0_2) ∧ w1.cell? ⟨w.heap.size, 3, none⟩ = some (.int .i64 a0_3) ∧ w1.cell? ⟨w.heap.size, 4, none⟩ = some (.int .i64 a0_4) :=
      ⟨(blk_cell BX1 0).trans rfl, (blk_cell BX1 1).trans rfl, (blk_cell BX1 2).trans rfl, (blk_cell BX1 3).trans rfl, (blk_cell BX1 4).trans rfl⟩
    have HBX := Aside0.mk BX1
    have HB1 := Aside0.mk hb1
    clear hb hb1 BX1
    go_wp2_with (fail)
    refine (inst_Shape.calls _ _ _ HSH.out (tabs_of HT (below_alloc HB1.out _))).mono ?_
    rintro e w2 ⟨rfl, hd2⟩
    have R2 : Aside0 (RdAt w w.heap.size #[.int .i64 a0_0, .int .i64 a0_1, .int .i64 a0_2, .int .i64 a0_3, .int .i64 a0_4, .int .i64 a0_5, .int .u64 a0_6, .int .i64 a0_7, .int .i64 a0_8, .int .i64 a0_9] w1.heap.size (List.replicate 32 false) w2) := ⟨by
      obtain ⟨nd, hnd⟩ := hd2.out
      rw [hnd]
      exact RdAt.drewN ⟨blk_alloc HBX.out _, blk_new w1 _, below_alloc HB1.out _, hlt1, Nat.le_refl _, rfl⟩ nd⟩
    clear hd2 c0 c1 c2 c3 c4
    obtain ⟨c0, c1, c2, c3, c4⟩ := rd_cells R2.out
    go_wp2_with (fail)
    refine (inst_has.calls k _ _ _ _ _ _ HHAS.out).mono ?_
    rintro e w3 ⟨rfl, hd3⟩
    have R3 : Aside0 (RdAt w w.heap.size #[.int .i64 a0_0, .int .i64 a0_1, .int .i64 a0_2, .int .i64 a0_3, .int .i64 a0_4, .int .i64 a0_5, .int .u64 a0_6, .int .i64 a0_7, .int .i64 a0_8, .int .i64 a0_9] w1.heap.size (List.replicate 32 false) w3) := ⟨by
      obtain ⟨nd, hnd⟩ := hd3.out
      rw [hnd]
      exact R2.out.drewN nd⟩
    clear hd3 c0 c1 c2 c3 c4 R2
    obtain ⟨c0, c1, c2, c3, c4⟩ := rd_cells R3.out
    go_wp2
    go_region_held3 (fun w' => w'.cell? ⟨w.heap.size, 0, none⟩ = some (.int .i64 a0_0) ∧ w'.cell? ⟨w.heap.size, 1, none⟩ = some (.int .i64 a0_1)) (go_keep)
      (first | ((go_at_call 27; refine (inst_readsD.calls _ _ _ HRD.out).mono ?_; rintro e w4 ⟨rfl, ⟨nd4, rfl⟩⟩)) | ((go_at_call 38; refine (reads_gather w w.heap.size #[.int .i64 a0_0, .int .i64 a0_1, .int .i64 a0_2, .int .i64 a0_3, .int .i64 a0_4, .int .i64 a0_5, .int .u64 a0_6, .int .i64 a0_7, .int .i64 a0_8, .int .i64 a0_9] w1.heap.size _ _ _ _ _ _ (RdAt.drewN R3.out _) H1.out).mono ?_; rintro e w5 ⟨rfl, h5⟩; obtain ⟨z0, z1, z2, z3, z4⟩ := rd_cells h5; have R5 := Aside0.mk h5; clear h5)))
    clear c0 c1 c2 c3 c4 z0 z1 z2 z3 z4 R3
    obtain ⟨c0, c1, c2, c3, c4⟩ := rd_cells R5.out
    go_wp2
    go_region_held3 (fun w' => w'.cell? ⟨w.heap.size, 2, none⟩ = some (.int .i64 a0_2)) (go_keep)
      (first | ((go_at_call 39; refine (inst_stackN.calls _ _ _ HSN.out).mono ?_; rintro e w6 ⟨rfl, ⟨nd6, rfl⟩⟩)) | ((go_at_call 38; refine (reads_gather w w.heap.size #[.int .i64 a0_0, .int .i64 a0_1, .int .i64 a0_2, .int .i64 a0_3, .int .i64 a0_4, .int .i64 a0_5, .int .u64 a0_6, .int .i64 a0_7, .int .i64 a0_8, .int .i64 a0_9] w1.heap.size _ _ _ _ _ _ (RdAt.drewN R5.out _) H2.out).mono ?_; rintro e w7 ⟨rfl, h7⟩; obtain ⟨z0, z1, z2, z3, z4⟩ := rd_cells h7; have R7 := Aside0.mk h7; clear h7)))
    clear c0 c1 c2 c3 c4 z0 z1 z2 z3 z4 R5
    obtain ⟨c0, c1, c2, c3, c4⟩ := rd_cells R7.out
    go_wp2_with (fail)
    refine (reads_gather w w.heap.size #[.int .i64 a0_0, .int .i64 a0_1, .int .i64 a0_2, .int .i64 a0_3, .int .i64 a0_4, .int .i64 a0_5, .int .u64 a0_6, .int .i64 a0_7, .int .i64 a0_8, .int .i64 a0_9] w1.heap.size _ _ _ _ _ _ R7.out H3.out).mono ?_
    rintro e w8 ⟨rfl, h8⟩
    have R8 := Aside0.mk h8
    clear h8 c0 c1 c2 c3 c4 R7
    obtain ⟨c0, c1, c2, c3, c4⟩ := rd_cells R8.out
    go_wp2_with (fail)
    refine (reads_gather w w.heap.size #[.int .i64 a0_0, .int .i64 a0_1, .int .i64 a0_2, .int .i64 a0_3, .int .i64 a0_4, .int .i64 a0_5, .int .u64 a0_6, .int .i64 a0_7, .int .i64 a0_8, .int .i64 a0_9] w1.heap.size _ _ _ _ _ _ R8.out H4.out).mono ?_
    rintro e w9 ⟨rfl, h9⟩
    have R9 := Aside0.mk h9
    clear h9 c0 c1 c2 c3 c4 R8
    obtain ⟨c0, c1, c2, c3, c4⟩ := rd_cells R9.out
    go_wp2_with (fail)
    refine (reads_gather w w.heap.size #[.int .i64 a0_0, .int .i64 a0_1, .int .i64 a0_2, .int .i64 a0_3, .int .i64 a0_4, .int .i64 a0_5, .int .u64 a0_6, .int .i64 a0_7, .int .i64 a0_8, .int .i64 a0_9] w1.heap.size _ _ _ _ _ _ R9.out H5.out).mono ?_
    rintro e w10 ⟨rfl, h10⟩
    have R10 := Aside0.mk h10
    clear h10 c0 c1 c2 c3 c4 R9
    have hinfo49 : (Tryd.prog.info? 49).map (·.size) = some (s5.map Value.bool).toArray.size := by
      have e : (s5.map Value.bool).toArray.size = 32 := by simp [HL5.out]
      rw [e]
      exact (by kernel_rfl : (Tryd.prog.info? 49).map (fun i => i.size) = some 32)
    have hidx := fun (x : Int) (h0 : 0 ≤ x) (h1 : x < 32) (W : World) => reads_index s5 HL5.out x h0 h1 W
    obtain ⟨arr, harr⟩ : ∃ arr, arr = (s5.map Value.bool).toArray := ⟨_, rfl⟩
    rw [← harr] at hinfo49 hidx
    have hset := R10.out.set
    rw [← harr] at hset
    have HB := Aside0.mk R10.out.bel
    have HIDX := Aside0.mk hidx
    clear R10 harr hidx
    go_wp2_with (with_reducible refine wpList_load_row rfl 49 (.tmp 3) rfl w1.heap.size rfl 49 arr (0, 0) _ hset Tryd.underlying49 rfl hinfo49 ?_)
    clear hset hinfo49
    go_loopw [57, 10] (fun v57 v10 wr => ∃ x : Int, v57 = .int .i64 x ∧ 0 ≤ x ∧ x ≤ 32 ∧ Aside0 ((Kd.int .i64).R 3 wr w.heap.size (fun _ => True) v10 (regsUp s5 x.toNat)) ∧ Aside0 (Below w.heap.size w wr)) (fun i _ _ => 32 - (intOf i).toNat)
    case atStart => exact ⟨0, rfl, by omega, by omega, ⟨by simpa [regsUp] using Kd.R_nil _ _ _ _ _⟩, HB⟩
    case round =>
      clear HB
      obtain ⟨x, rfl, hx0, hx1, HR, HB⟩ := hrel
      by_cases hlt : x < 32
      · have hix := fun W => HIDX.out x hx0 hlt W
        have HS := Aside0.mk (regsUp_succ s5 x.toNat)
        rw [show x.toNat + 1 = (x + 1).toNat by omega, show ((x.toNat : Nat) : Int) = x by omega] at HS
        have hlen := regsUp_len s5 x.toNat
        have hlen2 : (regsUp s5 x.toNat).length ≤ 32 := by omega
        have hSz := HB.out.size
        clear hlen
        generalize hq : s5.getD x.toNat false = q at *
        cases q
        · have HS2 : Aside0 (regsUp s5 (x + 1).toNat = regsUp s5 x.toNat) := ⟨by rw [HS.out, if_neg (by decide)]⟩
          clear HS hq
          go_wp2
          go_roundw
          case rel => exact ⟨x + 1, rfl, by omega, by omega, ⟨by rw [HS2.out]; exact HR.out⟩, HB⟩
          case measure => simp [intOf]; omega
        · have HS2 : Aside0 (regsUp s5 (x + 1).toNat = regsUp s5 x.toNat ++ [x]) := ⟨by rw [HS.out, if_pos rfl]⟩
          clear HS hq
          go_wp2_with ((with_reducible refine gate_builtin (b := .append) (xs := #[.tmp 62, .tmp 64]) rfl ?_); at_builtin; refine Kd.R_append (Kd.int .i64) (w0 := w) w.heap.size rfl (.tmp 62) (.tmp 64) 30 3 (.int .i64 0) 8 rfl Tryd.underlying30 info_i64 rfl (by decide) (by omega) u10 (regsUp s5 x.toNat) x [.int .i64 x] (fun _ => True) (fun _ => False) rfl rfl ?aP (fun _ hk => hk.elim) (fun _ _ => trivial) HR.out HB.out hSz (by omega) ?_; (case aP => exact rfl); intro v1 w3 hR3 hB3 hg3 hat3; have R3 := Aside0.mk hR3; have B3 := Aside0.mk hB3; clear hR3 hB3 hg3 hat3)
          go_roundw
          case rel => exact ⟨x + 1, rfl, by omega, by omega, ⟨by rw [HS2.out]; exact R3.out⟩, B3⟩
          case measure => simp [intOf]; omega
      · obtain rfl : x = 32 := by omega
        go_wp2
        go_ret
        exact ⟨_, rfl, HR.out, HB.out⟩

/-! ### inst_Name: function 21 -/
def inst_Name.f (a0 : Int) : Option (ByteArray × Int) := some (if (if 1 ≤ a0 ∧ a0 ≤ 39 then shapesL.getD a0.toNat 0 else 0) = 0 then ((⟨#[]⟩ : ByteArray), 1) else (namesL.getD a0.toNat ByteArray.empty, 0))
theorem shape_zero (a0 : Int) : (if 1 ≤ a0 ∧ a0 ≤ 39 then shapesL.getD a0.toNat 0 else 0) = 0 ↔ ¬ (1 ≤ a0 ∧ a0 ≤ 39) := by
  by_cases h : 1 ≤ a0 ∧ a0 ≤ 39
  · rw [if_pos h]
    refine ⟨fun e => ?_, fun e => absurd h e⟩
    have key : ∀ i, i < 40 → 1 ≤ i → shapesL.getD i 0 ≠ 0 := by decide
    exact absurd e (key a0.toNat (by omega) (by omega))
  · rw [if_neg h]
    exact ⟨fun _ => h, fun _ => rfl⟩
theorem inst_Name.calls (a0 : Int) (r1 : ByteArray) (r2 : Int) (w : World) (h : inst_Name.f a0 = some (r1, r2)) (HT : Aside0 (Tabs w)) :
    Calls Tryd.prog 21 #[.int .i64 a0] w fun e w' => e = .returned (.tuple #[.string r1, .int .i64 r2]) ∧ Drawn0 w w' := by
  have hs := inst_Shape.calls a0 _ w rfl HT
  unfold inst_Name.f at h
  by_cases hz : (if 1 ≤ a0 ∧ a0 ≤ 39 then shapesL.getD a0.toNat 0 else 0) = 0
  · rw [if_pos hz] at h
    rw [hz] at hs
    simp only [Option.some.injEq, Prod.mk.injEq] at h
    obtain ⟨rfl, rfl⟩ := h
    have HS := Aside0.mk hs
    clear hs hz
    go_enter Tryd.func21, Tryd.ntmps21
    go_wp2_with (go_at_call 18; refine HS.out.mono ?_; rintro e w' ⟨rfl, ⟨nd, rfl⟩⟩)
    go_ret2
    exact ⟨rfl, ⟨⟨_, rfl⟩⟩⟩
  · rw [if_neg hz] at h
    simp only [Option.some.injEq, Prod.mk.injEq] at h
    obtain ⟨rfl, rfl⟩ := h
    have hr : 1 ≤ a0 ∧ a0 ≤ 39 := Classical.not_not.1 (fun e => hz ((shape_zero a0).2 e))
    have HS := Aside0.mk hs
    have hc := HT.out.names a0.toNat (by omega)
    have p0 : 0 ≤ a0 := by omega
    have p1 : a0 < 40 := by omega
    have hz0 : ((if 1 ≤ a0 ∧ a0 ≤ 39 then shapesL.getD a0.toNat 0 else 0) == 0) = false := beq_eq_false_iff_ne.mpr hz
    generalize (if 1 ≤ a0 ∧ a0 ≤ 39 then shapesL.getD a0.toNat 0 else 0) = sh at *
    generalize namesL.getD a0.toNat ByteArray.empty = nm at *
    clear hs hz hr
    go_enter Tryd.func21, Tryd.ntmps21
    go_wp2_with (go_at_call 18; refine HS.out.mono ?_; rintro e w' ⟨rfl, ⟨nd, rfl⟩⟩)
    go_ret2
    exact ⟨rfl, ⟨⟨_, rfl⟩⟩⟩

/-! ### cleatlaw04_shaped: function 11 -/
def cleatlaw04_shaped.f : Option Bool := some true
/-- The three instructions' boxes. -/
structure Sh3 (w0 w : World) : Prop where
  b1 : w.heap[w0.heap.size]? = some (.cells #[.int .i64 4, .int .i64 31, .int .i64 2, .int .i64 0, .int .i64 0, .int .i64 0, .int .u64 0, .int .i64 0, .int .i64 0, .int .i64 0] 24 (0, 0))
  b2 : w.heap[w0.heap.size + 1]? = some (.cells #[.int .i64 12, .int .i64 31, .int .i64 2, .int .i64 2, .int .i64 0, .int .i64 0, .int .u64 0, .int .i64 0, .int .i64 0, .int .i64 0] 24 (0, 0))
  b3 : w.heap[w0.heap.size + 2]? = some (.cells #[.int .i64 25, .int .i64 1, .int .i64 31, .int .i64 0, .int .i64 0, .int .i64 0, .int .u64 0, .int .i64 0, .int .i64 0, .int .i64 0] 24 (0, 0))
  bel : Below w0.heap.size w0 w
theorem Sh3.below {w0 w w1 : World} (h : Sh3 w0 w) (hb : Below w.heap.size w w1) : Sh3 w0 w1 :=
  ⟨blk_grown h.b1 (grown_of_below hb none) (by simp), blk_grown h.b2 (grown_of_below hb none) (by simp), blk_grown h.b3 (grown_of_below hb none) (by simp), h.bel.trans (hb.mono h.bel.size)⟩
theorem Sh3.made (w : World) : Sh3 w (((w.alloc (.cells #[.int .i64 4, .int .i64 31, .int .i64 2, .int .i64 0, .int .i64 0, .int .i64 0, .int .u64 0, .int .i64 0, .int .i64 0, .int .i64 0] 24)).alloc (.cells #[.int .i64 12, .int .i64 31, .int .i64 2, .int .i64 2, .int .i64 0, .int .i64 0, .int .u64 0, .int .i64 0, .int .i64 0, .int .i64 0] 24)).alloc (.cells #[.int .i64 25, .int .i64 1, .int .i64 31, .int .i64 0, .int .i64 0, .int .i64 0, .int .u64 0, .int .i64 0, .int .i64 0, .int .i64 0] 24)) where
  b1 := blk_alloc (blk_alloc (blk_new w _) _) _
  b2 := by
    have h := blk_new (w.alloc (.cells #[.int .i64 4, .int .i64 31, .int .i64 2, .int .i64 0, .int .i64 0, .int .i64 0, .int .u64 0, .int .i64 0, .int .i64 0, .int .i64 0] 24)) (.cells #[.int .i64 12, .int .i64 31, .int .i64 2, .int .i64 2, .int .i64 0, .int .i64 0, .int .u64 0, .int .i64 0, .int .i64 0, .int .i64 0] 24)
    rw [World.size_alloc] at h
    exact blk_alloc h _
  b3 := by
    have h := blk_new ((w.alloc (.cells #[.int .i64 4, .int .i64 31, .int .i64 2, .int .i64 0, .int .i64 0, .int .i64 0, .int .u64 0, .int .i64 0, .int .i64 0, .int .i64 0] 24)).alloc (.cells #[.int .i64 12, .int .i64 31, .int .i64 2, .int .i64 2, .int .i64 0, .int .i64 0, .int .u64 0, .int .i64 0, .int .i64 0, .int .i64 0] 24)) (.cells #[.int .i64 25, .int .i64 1, .int .i64 31, .int .i64 0, .int .i64 0, .int .i64 0, .int .u64 0, .int .i64 0, .int .i64 0, .int .i64 0] 24)
    rw [World.size_alloc, World.size_alloc] at h
    exact h
  bel := below_alloc (below_alloc (below_alloc (Below.refl _ _) _) _) _
theorem lit_C (w : World) (xs : List Int) (hm : xs.length ≤ 9223372036854775807) : Kd.C (Kd.int .i64) (w.alloc (.cells (nums .i64 xs).toArray 3)) (some ⟨w.heap.size, 0, none⟩) xs.length xs :=
  (Kd.R_reads' (Kd.R_of_own (h1 := fun _ => rfl) (ok := fun _ => True) (own_lit w 0 3 .i64 xs (Nat.zero_le _) hm) (fun _ _ => trivial))).2.2
set_option maxHeartbeats 4000000 in
theorem cleatlaw04_shaped.calls (r : Bool) (w : World) (h : cleatlaw04_shaped.f = some r) (HT : Aside0 (Tabs w)) :
    Calls Tryd.prog 11 #[] w fun e w' => e = .returned (.bool r) ∧ Below w.heap.size w w' := by
  obtain rfl := Option.some.inj h
  clear h
  have S0 := Aside0.mk (Sh3.made w)
  have T0 := tabs_of HT S0.out.bel
  go_enter Tryd.func11, Tryd.ntmps11
  go_wp2_with (fail)
  refine (inst_Writes.calls 100 4 31 2 0 0 0 0 0 0 0 31 true _ (by decide +kernel) T0).mono ?_
  rintro e w1 ⟨rfl, hb_⟩
  have S1 := Aside0.mk (S0.out.below hb_)
  have T1 := tabs_of T0 hb_
  clear hb_ S0 T0
  obtain ⟨a0, a1, a2, a3, a4, a5, a6, a7, a8, a9⟩ := cells10 S1.out.b1
  obtain ⟨b0, b1, b2, b3, b4, b5, b6, b7, b8, b9⟩ := cells10 S1.out.b2
  obtain ⟨c0, c1, c2, c3, c4, c5, c6, c7, c8, c9⟩ := cells10 S1.out.b3
  go_wp2_with (fail)
  refine (inst_Writes.calls 100 12 31 2 2 0 0 0 0 0 0 0 false _ (by decide +kernel) T1).mono ?_
  rintro e w2 ⟨rfl, hb_⟩
  have S2 := Aside0.mk (S1.out.below hb_)
  have T2 := tabs_of T1 hb_
  clear hb_ S1 T1
  clear a0 a1 a2 a3 a4 a5 a6 a7 a8 a9 b0 b1 b2 b3 b4 b5 b6 b7 b8 b9 c0 c1 c2 c3 c4 c5 c6 c7 c8 c9
  obtain ⟨a0, a1, a2, a3, a4, a5, a6, a7, a8, a9⟩ := cells10 S2.out.b1
  obtain ⟨b0, b1, b2, b3, b4, b5, b6, b7, b8, b9⟩ := cells10 S2.out.b2
  obtain ⟨c0, c1, c2, c3, c4, c5, c6, c7, c8, c9⟩ := cells10 S2.out.b3
  go_wp2_with (fail)
  refine (inst_Writes.calls 100 25 1 31 0 0 0 0 0 0 0 0 false _ (by decide +kernel) T2).mono ?_
  rintro e w3 ⟨rfl, hb_⟩
  have S3 := Aside0.mk (S2.out.below hb_)
  have T3 := tabs_of T2 hb_
  clear hb_ S2 T2
  clear a0 a1 a2 a3 a4 a5 a6 a7 a8 a9 b0 b1 b2 b3 b4 b5 b6 b7 b8 b9 c0 c1 c2 c3 c4 c5 c6 c7 c8 c9
  obtain ⟨a0, a1, a2, a3, a4, a5, a6, a7, a8, a9⟩ := cells10 S3.out.b1
  obtain ⟨b0, b1, b2, b3, b4, b5, b6, b7, b8, b9⟩ := cells10 S3.out.b2
  obtain ⟨c0, c1, c2, c3, c4, c5, c6, c7, c8, c9⟩ := cells10 S3.out.b3
  go_wp2_with (fail)
  refine (inst_Name.calls 39 ⟨#[99, 115, 101, 108]⟩ 0 _ (by decide +kernel) T3).mono ?_
  rintro e w4 ⟨rfl, hb_⟩
  have S4 := Aside0.mk (S3.out.below hb_.below)
  have T4 := tabs_of T3 hb_.below
  clear hb_ S3 T3
  clear a0 a1 a2 a3 a4 a5 a6 a7 a8 a9 b0 b1 b2 b3 b4 b5 b6 b7 b8 b9 c0 c1 c2 c3 c4 c5 c6 c7 c8 c9
  obtain ⟨a0, a1, a2, a3, a4, a5, a6, a7, a8, a9⟩ := cells10 S4.out.b1
  obtain ⟨b0, b1, b2, b3, b4, b5, b6, b7, b8, b9⟩ := cells10 S4.out.b2
  obtain ⟨c0, c1, c2, c3, c4, c5, c6, c7, c8, c9⟩ := cells10 S4.out.b3
  go_wp2_with (fail)
  refine (inst_Reads.calls 100 4 31 2 0 0 0 0 0 0 0 [2] _ (by decide +kernel) T4).mono ?_
  rintro e w5 ⟨v_, rfl, hR_, hb_⟩
  obtain ⟨A_, c_, rfl⟩ := Kd.R_slice hR_
  obtain ⟨_, hc_, hC_⟩ := Kd.R_reads' hR_
  have HC5 := Aside0.mk hC_
  have HCC5 := Aside0.mk hc_
  have S5 := Aside0.mk (S4.out.below hb_)
  have T5 := tabs_of T4 hb_
  clear hb_ hR_ hC_ hc_ S4 T4
  clear a0 a1 a2 a3 a4 a5 a6 a7 a8 a9 b0 b1 b2 b3 b4 b5 b6 b7 b8 b9 c0 c1 c2 c3 c4 c5 c6 c7 c8 c9
  obtain ⟨a0, a1, a2, a3, a4, a5, a6, a7, a8, a9⟩ := cells10 S5.out.b1
  obtain ⟨b0, b1, b2, b3, b4, b5, b6, b7, b8, b9⟩ := cells10 S5.out.b2
  obtain ⟨c0, c1, c2, c3, c4, c5, c6, c7, c8, c9⟩ := cells10 S5.out.b3
  go_wp2_with (fail)
  refine (cleatref04_Same.calls 100 A_ c_ [2] (some ⟨w5.heap.size, 0, none⟩) 1 [2] true (w5.alloc (.cells (nums .i64 [2]).toArray 3)) (Kd.C_alloc HC5.out _) HCC5.out (lit_C w5 [2] (by decide)) (by decide) (by decide +kernel)).mono ?_
  rintro e w6 ⟨rfl, hb_⟩
  have hb_ := (below_alloc (Below.refl w5.heap.size w5) (.cells (nums .i64 [2]).toArray 3)).trans (hb_.below.mono (by simp))
  have S6 := Aside0.mk (S5.out.below hb_)
  have T6 := tabs_of T5 hb_
  clear hb_ S5 T5 HC5 HCC5
  clear a0 a1 a2 a3 a4 a5 a6 a7 a8 a9 b0 b1 b2 b3 b4 b5 b6 b7 b8 b9 c0 c1 c2 c3 c4 c5 c6 c7 c8 c9
  obtain ⟨a0, a1, a2, a3, a4, a5, a6, a7, a8, a9⟩ := cells10 S6.out.b1
  obtain ⟨b0, b1, b2, b3, b4, b5, b6, b7, b8, b9⟩ := cells10 S6.out.b2
  obtain ⟨c0, c1, c2, c3, c4, c5, c6, c7, c8, c9⟩ := cells10 S6.out.b3
  go_wp2_with (fail)
  refine (inst_Reads.calls 100 12 31 2 2 0 0 0 0 0 0 [2] _ (by decide +kernel) T6).mono ?_
  rintro e w7 ⟨v_, rfl, hR_, hb_⟩
  obtain ⟨A_, c_, rfl⟩ := Kd.R_slice hR_
  obtain ⟨_, hc_, hC_⟩ := Kd.R_reads' hR_
  have HC7 := Aside0.mk hC_
  have HCC7 := Aside0.mk hc_
  have S7 := Aside0.mk (S6.out.below hb_)
  have T7 := tabs_of T6 hb_
  clear hb_ hR_ hC_ hc_ S6 T6
  clear a0 a1 a2 a3 a4 a5 a6 a7 a8 a9 b0 b1 b2 b3 b4 b5 b6 b7 b8 b9 c0 c1 c2 c3 c4 c5 c6 c7 c8 c9
  obtain ⟨a0, a1, a2, a3, a4, a5, a6, a7, a8, a9⟩ := cells10 S7.out.b1
  obtain ⟨b0, b1, b2, b3, b4, b5, b6, b7, b8, b9⟩ := cells10 S7.out.b2
  obtain ⟨c0, c1, c2, c3, c4, c5, c6, c7, c8, c9⟩ := cells10 S7.out.b3
  go_wp2_with (fail)
  refine (cleatref04_Same.calls 100 A_ c_ [2] (some ⟨w7.heap.size, 0, none⟩) 1 [2] true (w7.alloc (.cells (nums .i64 [2]).toArray 3)) (Kd.C_alloc HC7.out _) HCC7.out (lit_C w7 [2] (by decide)) (by decide) (by decide +kernel)).mono ?_
  rintro e w8 ⟨rfl, hb_⟩
  have hb_ := (below_alloc (Below.refl w7.heap.size w7) (.cells (nums .i64 [2]).toArray 3)).trans (hb_.below.mono (by simp))
  have S8 := Aside0.mk (S7.out.below hb_)
  have T8 := tabs_of T7 hb_
  clear hb_ S7 T7 HC7 HCC7
  clear a0 a1 a2 a3 a4 a5 a6 a7 a8 a9 b0 b1 b2 b3 b4 b5 b6 b7 b8 b9 c0 c1 c2 c3 c4 c5 c6 c7 c8 c9
  obtain ⟨a0, a1, a2, a3, a4, a5, a6, a7, a8, a9⟩ := cells10 S8.out.b1
  obtain ⟨b0, b1, b2, b3, b4, b5, b6, b7, b8, b9⟩ := cells10 S8.out.b2
  obtain ⟨c0, c1, c2, c3, c4, c5, c6, c7, c8, c9⟩ := cells10 S8.out.b3
  go_wp2_with (fail)
  refine (inst_Reads.calls 100 25 1 31 0 0 0 0 0 0 0 [1, 31] _ (by decide +kernel) T8).mono ?_
  rintro e w9 ⟨v_, rfl, hR_, hb_⟩
  obtain ⟨A_, c_, rfl⟩ := Kd.R_slice hR_
  obtain ⟨_, hc_, hC_⟩ := Kd.R_reads' hR_
  have HC9 := Aside0.mk hC_
  have HCC9 := Aside0.mk hc_
  have S9 := Aside0.mk (S8.out.below hb_)
  have T9 := tabs_of T8 hb_
  clear hb_ hR_ hC_ hc_ S8 T8
  clear a0 a1 a2 a3 a4 a5 a6 a7 a8 a9 b0 b1 b2 b3 b4 b5 b6 b7 b8 b9 c0 c1 c2 c3 c4 c5 c6 c7 c8 c9
  obtain ⟨a0, a1, a2, a3, a4, a5, a6, a7, a8, a9⟩ := cells10 S9.out.b1
  obtain ⟨b0, b1, b2, b3, b4, b5, b6, b7, b8, b9⟩ := cells10 S9.out.b2
  obtain ⟨c0, c1, c2, c3, c4, c5, c6, c7, c8, c9⟩ := cells10 S9.out.b3
  go_wp2_with (fail)
  refine (cleatref04_Same.calls 100 A_ c_ [1, 31] (some ⟨w9.heap.size, 0, none⟩) 2 [1, 31] true (w9.alloc (.cells (nums .i64 [1, 31]).toArray 3)) (Kd.C_alloc HC9.out _) HCC9.out (lit_C w9 [1, 31] (by decide)) (by decide) (by decide +kernel)).mono ?_
  rintro e w10 ⟨rfl, hb_⟩
  have hb_ := (below_alloc (Below.refl w9.heap.size w9) (.cells (nums .i64 [1, 31]).toArray 3)).trans (hb_.below.mono (by simp))
  have S10 := Aside0.mk (S9.out.below hb_)
  have T10 := tabs_of T9 hb_
  clear hb_ S9 T9 HC9 HCC9
  clear a0 a1 a2 a3 a4 a5 a6 a7 a8 a9 b0 b1 b2 b3 b4 b5 b6 b7 b8 b9 c0 c1 c2 c3 c4 c5 c6 c7 c8 c9
  obtain ⟨a0, a1, a2, a3, a4, a5, a6, a7, a8, a9⟩ := cells10 S10.out.b1
  obtain ⟨b0, b1, b2, b3, b4, b5, b6, b7, b8, b9⟩ := cells10 S10.out.b2
  obtain ⟨c0, c1, c2, c3, c4, c5, c6, c7, c8, c9⟩ := cells10 S10.out.b3
  go_wp2_with (fail)
  refine (inst_Is.calls 100 4 31 2 0 0 0 0 0 0 0 true _ (by decide +kernel) T10).mono ?_
  rintro e w11 ⟨rfl, hb_⟩
  have S11 := Aside0.mk (S10.out.below hb_)
  have T11 := tabs_of T10 hb_
  clear hb_ S10 T10
  clear a0 a1 a2 a3 a4 a5 a6 a7 a8 a9 b0 b1 b2 b3 b4 b5 b6 b7 b8 b9 c0 c1 c2 c3 c4 c5 c6 c7 c8 c9
  obtain ⟨a0, a1, a2, a3, a4, a5, a6, a7, a8, a9⟩ := cells10 S11.out.b1
  obtain ⟨b0, b1, b2, b3, b4, b5, b6, b7, b8, b9⟩ := cells10 S11.out.b2
  obtain ⟨c0, c1, c2, c3, c4, c5, c6, c7, c8, c9⟩ := cells10 S11.out.b3
  go_wp2_with (fail)
  refine (inst_Is.calls 100 0 0 0 0 0 0 0 0 0 0 false _ (by decide +kernel) T11).mono ?_
  rintro e w12 ⟨rfl, hb_⟩
  have S12 := Aside0.mk (S11.out.below hb_)
  have T12 := tabs_of T11 hb_
  clear hb_ S11 T11
  clear a0 a1 a2 a3 a4 a5 a6 a7 a8 a9 b0 b1 b2 b3 b4 b5 b6 b7 b8 b9 c0 c1 c2 c3 c4 c5 c6 c7 c8 c9
  obtain ⟨a0, a1, a2, a3, a4, a5, a6, a7, a8, a9⟩ := cells10 S12.out.b1
  obtain ⟨b0, b1, b2, b3, b4, b5, b6, b7, b8, b9⟩ := cells10 S12.out.b2
  obtain ⟨c0, c1, c2, c3, c4, c5, c6, c7, c8, c9⟩ := cells10 S12.out.b3
  go_wp2_with (fail)
  refine (inst_Shape.calls 29 11 _ (by decide +kernel) T12).mono ?_
  rintro e w13 ⟨rfl, hb_⟩
  have S13 := Aside0.mk (S12.out.below hb_.below)
  have T13 := tabs_of T12 hb_.below
  clear hb_ S12 T12
  clear a0 a1 a2 a3 a4 a5 a6 a7 a8 a9 b0 b1 b2 b3 b4 b5 b6 b7 b8 b9 c0 c1 c2 c3 c4 c5 c6 c7 c8 c9
  obtain ⟨a0, a1, a2, a3, a4, a5, a6, a7, a8, a9⟩ := cells10 S13.out.b1
  obtain ⟨b0, b1, b2, b3, b4, b5, b6, b7, b8, b9⟩ := cells10 S13.out.b2
  obtain ⟨c0, c1, c2, c3, c4, c5, c6, c7, c8, c9⟩ := cells10 S13.out.b3
  go_wp2
  go_ret
  exact ⟨rfl, S13.out.bel⟩

/-! ### cleatref04_with: function 40 -/
def cleatref04_with.l0 : Nat → List Int → Int → List Int → Bool → Int → Option (List Int)
 | 0, _, _, _, _, _ => none
 | k + 1, x0, x1, x5, x6, x7 => if x7 < (x0.length : Int) then (if x6 = true then (if 0 ≤ x7 then (if x5.length < 17592186044416 then (cleatref04_with.l0 k x0 x1 (x5 ++ [rd x0 x7]) true (wrap64 (x7 + 1))) else (none)) else (none)) else (if 0 ≤ x7 then (if x1 < (rd x0 x7) then (if x5.length < 17592186044416 then ((some (x5 ++ [x1] : List Int)).bind fun y244 => (if y244.length < 17592186044416 then (cleatref04_with.l0 k x0 x1 (y244 ++ [rd x0 x7]) (decide (x1 ≤ (rd x0 x7))) (wrap64 (x7 + 1))) else (none))) else (none)) else (if x5.length < 17592186044416 then (cleatref04_with.l0 k x0 x1 (x5 ++ [rd x0 x7]) (decide (x1 ≤ (rd x0 x7))) (wrap64 (x7 + 1))) else (none))) else (none))) else (if x6 = true then (some x5) else (if x5.length < 17592186044416 then (some (x5 ++ [x1])) else (none)))
def cleatref04_with.f (k : Nat) (l0 : List Int) (a1 : Int) : Option (List Int) := cleatref04_with.l0 k l0 a1 ([] : List Int) false 0
theorem cleatref04_with.mono_l : ∀ k, (∀ y0 y1 y2 y3 y4, LeO (cleatref04_with.l0 k y0 y1 y2 y3 y4) (cleatref04_with.l0 (k + 1) y0 y1 y2 y3 y4))
 | 0 => fun _ _ _ _ _ r h => by simp [cleatref04_with.l0] at h
 | k + 1 => by
  have ih0 := cleatref04_with.mono_l k
  ·intro y0 y1 y2 y3 y4
   unfold cleatref04_with.l0
   repeat' first
   | (with_reducible exact ih0 _ _ _ _ _)
   | (with_reducible exact LeO.refl _)
   | (with_reducible exact LeO.none _)
   | (with_reducible refine LeO.ite ?_ ?_)
   | (with_reducible refine LeO.bind ?_ (fun _ => ?_))
   | exact ih0 _ _ _ _ _
   | exact LeO.none _
   | refine LeO.ite ?_ ?_
   | refine LeO.bind ?_ (fun _ => ?_)
theorem cleatref04_with.mono : ∀ a0 a1 k, LeO (cleatref04_with.f k a0 a1) (cleatref04_with.f (k + 1) a0 a1) := by
 intro a0 a1 k
 have ih0 := cleatref04_with.mono_l k
 unfold cleatref04_with.f
 repeat' first
   | (with_reducible exact ih0 _ _ _ _ _)
   | (with_reducible exact LeO.refl _)
   | (with_reducible exact LeO.none _)
   | (with_reducible refine LeO.ite ?_ ?_)
   | (with_reducible refine LeO.bind ?_ (fun _ => ?_))
   | exact ih0 _ _ _ _ _
   | exact LeO.none _
   | refine LeO.ite ?_ ?_
   | refine LeO.bind ?_ (fun _ => ?_)
set_option maxHeartbeats 8000000 in
set_option maxRecDepth 100000 in
theorem cleatref04_with.calls (k : Nat) (A0 : Option Addr) (c0 : Nat) (l0 : List Int) (a1 : Int) (r : List Int) (w : World) (hr0 : Kd.C (Kd.int .i64) w A0 l0.length l0) (hc0 : l0.length ≤ c0) (h : cleatref04_with.f k l0 a1 = some r) :
  Calls Tryd.prog 40 #[.slice A0 l0.length c0, .int .i64 a1] w fun e w' => ∃ v0_ : Value, e = .returned (v0_) ∧ Kd.R (Kd.int .i64) 3 w' w.heap.size (fun _ => True) v0_ r ∧ Below w.heap.size w w' := by
 have HR0 := Aside0.mk hr0
 have HC0 := Aside0.mk hc0
 clear hr0 hc0
 have HB := Aside0.mk (Below.refl w.heap.size w)
 have H : (cleatref04_with.l0 k l0 a1 ([] : List Int) false 0) = some r := h
 clear h
 have H' := Aside0.mk H
 clear H
 go_enter Tryd.func40, Tryd.ntmps40
 go_wp2
 go_loopg [5, 6, 7] k (fun kq v5 v6 v7 w' => ∃ (x5_1 : List Int) (x6_1 : Bool) (x7_1 : Int), v6 = .bool x6_1 ∧ v7 = .int .i64 x7_1 ∧ Aside0 (cleatref04_with.l0 kq l0 a1 x5_1 x6_1 x7_1 = some r) ∧ Aside0 (kq ≤ k) ∧ Aside0 (Kd.R (Kd.int .i64) 3 w' w.heap.size (fun _ => True) v5 x5_1) ∧ Aside0 (Below w.heap.size w w'))
 case atStart => exact ⟨(([] : List Int)), (false), (0), (by first | rfl | (simp; done) | (simp [*]; done)), (by first | rfl | (simp; done) | (simp [*]; done)), H', ⟨Nat.le_refl _⟩, ⟨by first | exact Kd.R_nil _ _ _ _ _ | exact Kd.N_nil _ _ _ _ _ | exact Kd.V_nil _ _ _ _ _ | exact Kd.Q_nil _ _ _ _ _ | exact Kd.S_nil _ _ _ _ _⟩, ⟨by repeat (first | (with_reducible first | exact HB.out | apply below_alloc | apply pw_below_drewN | apply below_drew1) | exact HB.out)⟩⟩
 case round =>
  clear H'
  try clear p2
  obtain ⟨x5_1, x6_1, x7_1, rfl, rfl, HA, HK1, HO_5, HB⟩ := hrel
  cases gk with
  | zero => exact absurd HA.out (by simp [cleatref04_with.l0])
  | succ k1 =>
   have H := HA.out
   clear HA
   simp only [cleatref04_with.l0] at H
   by_cases c3 : x7_1 < (l0.length : Int)
   ·rw [if_pos c3] at H
    have c3b0 : decide (x7_1 < (l0.length : Int)) = true := decide_eq_true c3
    clear c3
    by_cases c4 : x6_1 = true
    ·subst c4
     rw [if_pos rfl] at H
     by_cases c5 : 0 ≤ x7_1
     ·rw [if_pos c5] at H
      have c5b0 : decide (0 ≤ x7_1) = true := decide_eq_true c5
      clear c5
      by_cases c6 : x5_1.length < 17592186044416
      ·rw [if_pos c6] at H
       have LMc6 := Aside0.mk c6
       clear c6
       obtain ⟨y240, hy240⟩ : ∃ y_ : List Int, y_ = (x5_1 ++ [rd l0 x7_1]) := ⟨_, rfl⟩
       replace H : (cleatref04_with.l0 k1 l0 a1 y240 true (wrap64 (x7_1 + 1))) = some r := by first | (rw [hy240]; with_reducible exact H) | (have H2_ := (Option.bind_some _ _).symm.trans H; rw [hy240]; with_reducible exact H2_) | (have H2_ := (Option.bind_some _ _).symm.trans H; with_reducible exact H2_) | with_reducible exact H | (rw [hy240]; exact H) | exact H
       have Ny240 := Aside0.mk hy240
       clear hy240
       have H' := Aside0.mk H
       clear H
       have p239 : 0 ≤ (x7_1 : Int) := of_decide_eq_true (by first | (with_reducible assumption) | assumption)
       have q239 : x7_1 < (l0.length : Int) := of_decide_eq_true (by first | (with_reducible assumption) | assumption)
       obtain ⟨ad239, e239, hx239_0⟩ := Kd.at_int HR0.out x7_1 p239 q239
       cases e239
       replace hx239_0 := (HB.out.cell (World.block_lt_of_cell? w _ hx239_0)).trans hx239_0
       replace p239 := eq_true p239
       replace q239 := eq_true q239
       go_wp2_with (first | ((with_reducible refine gate_builtin (b := .append) (xs := #[.tmp 37, .tmp 42]) rfl ?_); at_builtin; refine Kd.R_append (Kd.int .i64) (w0 := w) w.heap.size rfl (.tmp 37) (.tmp 42) 30 3 (.int .i64 0) 8 rfl Tryd.underlying30 info3 rfl (by decide) (by omega) u5 x5_1 (rd l0 x7_1) [.int .i64 (rd l0 x7_1)] (fun _ => True) (fun _ => False) rfl rfl ?aP (fun _ hk => hk.elim) ?aF ?aO ?aB ?aS ?aL ?_; (case aP => exact rfl); (case aB => exact (by repeat (first | (with_reducible first | exact HB.out | apply below_alloc | apply pw_below_drewN | apply below_drew1) | exact HB.out))); (case aF => exact (fun _ _ => trivial)); (case aO => exact (by (with_reducible repeat (first | apply Kd.R_alloc | apply Kd.R_drewN | apply Kd.R_drew)); exact HO_5.out)); (case aS => exact (below_size (by repeat (first | (with_reducible first | exact HB.out | apply below_alloc | apply pw_below_drewN | apply below_drew1) | exact HB.out)))); (case aL => have := LMc6.out; omega); intro v241 w7 ho hb hg hat; rw [← Ny240.out] at ho; have n0_ := Aside0.mk (hb); have n1_ := Aside0.mk (ho); clear HB; clear HO_5; have HB := n0_; have HO242 := n1_; clear n0_ n1_; clear ho hb hg hat))
       go_roundg k1
       case measure => have := HK1.out; omega
       case rel => exact ⟨(y240), (true), (wrap64 (x7_1 + 1)), (by first | rfl | (simp; done) | (simp [*]; done)), (by first | rfl | (simp; done) | (simp [*]; done)), H', ⟨by have := HK1.out; omega⟩, ⟨by (with_reducible repeat (first | apply Kd.R_alloc | apply Kd.R_drewN | apply Kd.R_drew)); exact HO242.out⟩, ⟨by repeat (first | (with_reducible first | exact HB.out | apply below_alloc | apply pw_below_drewN | apply below_drew1) | exact HB.out)⟩⟩
      ·rw [if_neg c6] at H
       exact absurd H (by simp)
     ·rw [if_neg c5] at H
      exact absurd H (by simp)
    ·replace c4 := Bool.eq_false_iff.mpr c4
     subst c4
     rw [if_neg (show ¬ (false = true) by decide)] at H
     by_cases c8 : 0 ≤ x7_1
     ·rw [if_pos c8] at H
      have c8b0 : decide (0 ≤ x7_1) = true := decide_eq_true c8
      clear c8
      by_cases c9 : a1 < (rd l0 x7_1)
      ·rw [if_pos c9] at H
       have c9b0 : decide (a1 < (rd l0 x7_1)) = true := decide_eq_true c9
       clear c9
       by_cases c10 : x5_1.length < 17592186044416
       ·rw [if_pos c10] at H
        have LMc10 := Aside0.mk c10
        clear c10
        obtain ⟨y244, hy244⟩ : ∃ y_ : List Int, y_ = (x5_1 ++ [a1]) := ⟨_, rfl⟩
        replace H : (if y244.length < 17592186044416 then (cleatref04_with.l0 k1 l0 a1 (y244 ++ [rd l0 x7_1]) (decide (a1 ≤ (rd l0 x7_1))) (wrap64 (x7_1 + 1))) else (none)) = some r := by first | (rw [hy244]; with_reducible exact H) | (have H2_ := (Option.bind_some _ _).symm.trans H; rw [hy244]; with_reducible exact H2_) | (have H2_ := (Option.bind_some _ _).symm.trans H; with_reducible exact H2_) | with_reducible exact H | (rw [hy244]; exact H) | exact H
        have Ny244 := Aside0.mk hy244
        clear hy244
        by_cases c11 : y244.length < 17592186044416
        ·rw [if_pos c11] at H
         have LMc11 := Aside0.mk c11
         clear c11
         obtain ⟨y249, hy249⟩ : ∃ y_ : List Int, y_ = (y244 ++ [rd l0 x7_1]) := ⟨_, rfl⟩
         replace H : (cleatref04_with.l0 k1 l0 a1 y249 (decide (a1 ≤ (rd l0 x7_1))) (wrap64 (x7_1 + 1))) = some r := by first | (rw [hy249]; with_reducible exact H) | (have H2_ := (Option.bind_some _ _).symm.trans H; rw [hy249]; with_reducible exact H2_) | (have H2_ := (Option.bind_some _ _).symm.trans H; with_reducible exact H2_) | with_reducible exact H | (rw [hy249]; exact H) | exact H
         have Ny249 := Aside0.mk hy249
         clear hy249
         have H' := Aside0.mk H
         clear H
         have p243 : 0 ≤ (x7_1 : Int) := of_decide_eq_true (by first | (with_reducible assumption) | assumption)
         have q243 : x7_1 < (l0.length : Int) := of_decide_eq_true (by first | (with_reducible assumption) | assumption)
         obtain ⟨ad243, e243, hx243_0⟩ := Kd.at_int HR0.out x7_1 p243 q243
         cases e243
         replace hx243_0 := (HB.out.cell (World.block_lt_of_cell? w _ hx243_0)).trans hx243_0
         replace p243 := eq_true p243
         replace q243 := eq_true q243
         go_wp2_with (first | ((with_reducible refine gate_builtin (b := .append) (xs := #[.tmp 24, .tmp 26]) rfl ?_); at_builtin; refine Kd.R_append (Kd.int .i64) (w0 := w) w.heap.size rfl (.tmp 24) (.tmp 26) 30 3 (.int .i64 0) 8 rfl Tryd.underlying30 info3 rfl (by decide) (by omega) u5 x5_1 a1 [.int .i64 a1] (fun _ => True) (fun _ => False) rfl rfl ?aP (fun _ hk => hk.elim) ?aF ?aO ?aB ?aS ?aL ?_; (case aP => exact rfl); (case aB => exact (by repeat (first | (with_reducible first | exact HB.out | apply below_alloc | apply pw_below_drewN | apply below_drew1) | exact HB.out))); (case aF => exact (fun _ _ => trivial)); (case aO => exact (by (with_reducible repeat (first | apply Kd.R_alloc | apply Kd.R_drewN | apply Kd.R_drew)); exact HO_5.out)); (case aS => exact (below_size (by repeat (first | (with_reducible first | exact HB.out | apply below_alloc | apply pw_below_drewN | apply below_drew1) | exact HB.out)))); (case aL => have := LMc10.out; omega); intro v245 w12 ho hb hg hat; rw [← Ny244.out] at ho; have n0_ := Aside0.mk (hb); have n1_ := Aside0.mk (ho); clear HB; clear HO_5; have HB := n0_; have HO246 := n1_; clear n0_ n1_; clear ho hb hg hat; have p247 : 0 ≤ (x7_1 : Int) := of_decide_eq_true (by first | (with_reducible assumption) | assumption); have q247 : x7_1 < (l0.length : Int) := of_decide_eq_true (by first | (with_reducible assumption) | assumption); obtain ⟨ad247, e247, hx247_0⟩ := Kd.at_int HR0.out x7_1 p247 q247; obtain rfl : ad243 = ad247 := (by injection e247); replace hx247_0 := (HB.out.cell (World.block_lt_of_cell? w _ hx247_0)).trans hx247_0; replace p247 := eq_true p247; replace q247 := eq_true q247; have p248 : 0 ≤ (x7_1 : Int) := of_decide_eq_true (by first | (with_reducible assumption) | assumption); have q248 : x7_1 < (l0.length : Int) := of_decide_eq_true (by first | (with_reducible assumption) | assumption); obtain ⟨ad248, e248, hx248_0⟩ := Kd.at_int HR0.out x7_1 p248 q248; obtain rfl : ad243 = ad248 := (by injection e248); replace hx248_0 := (HB.out.cell (World.block_lt_of_cell? w _ hx248_0)).trans hx248_0; replace p248 := eq_true p248; replace q248 := eq_true q248) | ((with_reducible refine gate_builtin (b := .append) (xs := #[.tmp 37, .tmp 42]) rfl ?_); at_builtin; refine Kd.R_append (Kd.int .i64) (w0 := w) w.heap.size rfl (.tmp 37) (.tmp 42) 30 3 (.int .i64 0) 8 rfl Tryd.underlying30 info3 rfl (by decide) (by omega) v245 y244 (rd l0 x7_1) [.int .i64 (rd l0 x7_1)] (fun _ => True) (fun _ => False) rfl rfl ?aP (fun _ hk => hk.elim) ?aF ?aO ?aB ?aS ?aL ?_; (case aP => exact rfl); (case aB => exact (by repeat (first | (with_reducible first | exact HB.out | apply below_alloc | apply pw_below_drewN | apply below_drew1) | exact HB.out))); (case aF => exact (fun _ _ => trivial)); (case aO => exact (by (with_reducible repeat (first | apply Kd.R_alloc | apply Kd.R_drewN | apply Kd.R_drew)); exact HO246.out)); (case aS => exact (below_size (by repeat (first | (with_reducible first | exact HB.out | apply below_alloc | apply pw_below_drewN | apply below_drew1) | exact HB.out)))); (case aL => have := LMc11.out; omega); intro v250 w13 ho hb hg hat; rw [← Ny249.out] at ho; have n0_ := Aside0.mk (hb); have n1_ := Aside0.mk (ho); clear HB; clear HO246; have HB := n0_; have HO251 := n1_; clear n0_ n1_; clear ho hb hg hat))
         go_roundg k1
         case measure => have := HK1.out; omega
         case rel => exact ⟨(y249), (decide (a1 ≤ (rd l0 x7_1))), (wrap64 (x7_1 + 1)), (by first | rfl | (simp; done) | (simp [*]; done)), (by first | rfl | (simp; done) | (simp [*]; done)), H', ⟨by have := HK1.out; omega⟩, ⟨by (with_reducible repeat (first | apply Kd.R_alloc | apply Kd.R_drewN | apply Kd.R_drew)); exact HO251.out⟩, ⟨by repeat (first | (with_reducible first | exact HB.out | apply below_alloc | apply pw_below_drewN | apply below_drew1) | exact HB.out)⟩⟩
        ·rw [if_neg c11] at H
         exact absurd H (by simp)
       ·rw [if_neg c10] at H
        exact absurd H (by simp)
      ·rw [if_neg c9] at H
       have c9b0 : decide (a1 < (rd l0 x7_1)) = false := decide_eq_false c9
       clear c9
       by_cases c14 : x5_1.length < 17592186044416
       ·rw [if_pos c14] at H
        have LMc14 := Aside0.mk c14
        clear c14
        obtain ⟨y254, hy254⟩ : ∃ y_ : List Int, y_ = (x5_1 ++ [rd l0 x7_1]) := ⟨_, rfl⟩
        replace H : (cleatref04_with.l0 k1 l0 a1 y254 (decide (a1 ≤ (rd l0 x7_1))) (wrap64 (x7_1 + 1))) = some r := by first | (rw [hy254]; with_reducible exact H) | (have H2_ := (Option.bind_some _ _).symm.trans H; rw [hy254]; with_reducible exact H2_) | (have H2_ := (Option.bind_some _ _).symm.trans H; with_reducible exact H2_) | with_reducible exact H | (rw [hy254]; exact H) | exact H
        have Ny254 := Aside0.mk hy254
        clear hy254
        have H' := Aside0.mk H
        clear H
        have p243 : 0 ≤ (x7_1 : Int) := of_decide_eq_true (by first | (with_reducible assumption) | assumption)
        have q243 : x7_1 < (l0.length : Int) := of_decide_eq_true (by first | (with_reducible assumption) | assumption)
        obtain ⟨ad243, e243, hx243_0⟩ := Kd.at_int HR0.out x7_1 p243 q243
        cases e243
        replace hx243_0 := (HB.out.cell (World.block_lt_of_cell? w _ hx243_0)).trans hx243_0
        replace p243 := eq_true p243
        replace q243 := eq_true q243
        have p252 : 0 ≤ (x7_1 : Int) := of_decide_eq_true (by first | (with_reducible assumption) | assumption)
        have q252 : x7_1 < (l0.length : Int) := of_decide_eq_true (by first | (with_reducible assumption) | assumption)
        obtain ⟨ad252, e252, hx252_0⟩ := Kd.at_int HR0.out x7_1 p252 q252
        obtain rfl : ad243 = ad252 := (by injection e252)
        replace hx252_0 := (HB.out.cell (World.block_lt_of_cell? w _ hx252_0)).trans hx252_0
        replace p252 := eq_true p252
        replace q252 := eq_true q252
        have p253 : 0 ≤ (x7_1 : Int) := of_decide_eq_true (by first | (with_reducible assumption) | assumption)
        have q253 : x7_1 < (l0.length : Int) := of_decide_eq_true (by first | (with_reducible assumption) | assumption)
        obtain ⟨ad253, e253, hx253_0⟩ := Kd.at_int HR0.out x7_1 p253 q253
        obtain rfl : ad243 = ad253 := (by injection e253)
        replace hx253_0 := (HB.out.cell (World.block_lt_of_cell? w _ hx253_0)).trans hx253_0
        replace p253 := eq_true p253
        replace q253 := eq_true q253
        go_wp2_with (first | ((with_reducible refine gate_builtin (b := .append) (xs := #[.tmp 37, .tmp 42]) rfl ?_); at_builtin; refine Kd.R_append (Kd.int .i64) (w0 := w) w.heap.size rfl (.tmp 37) (.tmp 42) 30 3 (.int .i64 0) 8 rfl Tryd.underlying30 info3 rfl (by decide) (by omega) u5 x5_1 (rd l0 x7_1) [.int .i64 (rd l0 x7_1)] (fun _ => True) (fun _ => False) rfl rfl ?aP (fun _ hk => hk.elim) ?aF ?aO ?aB ?aS ?aL ?_; (case aP => exact rfl); (case aB => exact (by repeat (first | (with_reducible first | exact HB.out | apply below_alloc | apply pw_below_drewN | apply below_drew1) | exact HB.out))); (case aF => exact (fun _ _ => trivial)); (case aO => exact (by (with_reducible repeat (first | apply Kd.R_alloc | apply Kd.R_drewN | apply Kd.R_drew)); exact HO_5.out)); (case aS => exact (below_size (by repeat (first | (with_reducible first | exact HB.out | apply below_alloc | apply pw_below_drewN | apply below_drew1) | exact HB.out)))); (case aL => have := LMc14.out; omega); intro v255 w15 ho hb hg hat; rw [← Ny254.out] at ho; have n0_ := Aside0.mk (hb); have n1_ := Aside0.mk (ho); clear HB; clear HO_5; have HB := n0_; have HO256 := n1_; clear n0_ n1_; clear ho hb hg hat))
        go_roundg k1
        case measure => have := HK1.out; omega
        case rel => exact ⟨(y254), (decide (a1 ≤ (rd l0 x7_1))), (wrap64 (x7_1 + 1)), (by first | rfl | (simp; done) | (simp [*]; done)), (by first | rfl | (simp; done) | (simp [*]; done)), H', ⟨by have := HK1.out; omega⟩, ⟨by (with_reducible repeat (first | apply Kd.R_alloc | apply Kd.R_drewN | apply Kd.R_drew)); exact HO256.out⟩, ⟨by repeat (first | (with_reducible first | exact HB.out | apply below_alloc | apply pw_below_drewN | apply below_drew1) | exact HB.out)⟩⟩
       ·rw [if_neg c14] at H
        exact absurd H (by simp)
     ·rw [if_neg c8] at H
      exact absurd H (by simp)
   ·rw [if_neg c3] at H
    have c3b0 : decide (x7_1 < (l0.length : Int)) = false := decide_eq_false c3
    clear c3
    by_cases c16 : x6_1 = true
    ·subst c16
     rw [if_pos rfl] at H
     obtain rfl := Option.some.inj H
     go_wp2
     go_ret
     exact ⟨_, by first | rfl | (simp [errW_none, errW_some] <;> rfl) | (simp [*, errW_none, errW_some] <;> rfl), by (with_reducible repeat (first | apply Kd.R_alloc | apply Kd.R_drewN | apply Kd.R_drew)); exact HO_5.out, by repeat (first | (with_reducible first | exact HB.out | apply below_alloc | apply pw_below_drewN | apply below_drew1) | exact HB.out)⟩
    ·replace c16 := Bool.eq_false_iff.mpr c16
     subst c16
     rw [if_neg (show ¬ (false = true) by decide)] at H
     by_cases c17 : x5_1.length < 17592186044416
     ·rw [if_pos c17] at H
      have LMc17 := Aside0.mk c17
      clear c17
      obtain ⟨y257, hy257⟩ : ∃ y_ : List Int, y_ = (x5_1 ++ [a1]) := ⟨_, rfl⟩
      replace H : (some y257) = some r := by first | (rw [hy257]; with_reducible exact H) | (have H2_ := (Option.bind_some _ _).symm.trans H; rw [hy257]; with_reducible exact H2_) | (have H2_ := (Option.bind_some _ _).symm.trans H; with_reducible exact H2_) | with_reducible exact H | (rw [hy257]; exact H) | exact H
      have Ny257 := Aside0.mk hy257
      clear hy257
      obtain rfl := Option.some.inj H
      go_wp2_with (first | ((with_reducible refine gate_builtin (b := .append) (xs := #[.tmp 46, .tmp 48]) rfl ?_); at_builtin; refine Kd.R_append (Kd.int .i64) (w0 := w) w.heap.size rfl (.tmp 46) (.tmp 48) 30 3 (.int .i64 0) 8 rfl Tryd.underlying30 info3 rfl (by decide) (by omega) u5 x5_1 a1 [.int .i64 a1] (fun _ => True) (fun _ => False) rfl rfl ?aP (fun _ hk => hk.elim) ?aF ?aO ?aB ?aS ?aL ?_; (case aP => exact rfl); (case aB => exact (by repeat (first | (with_reducible first | exact HB.out | apply below_alloc | apply pw_below_drewN | apply below_drew1) | exact HB.out))); (case aF => exact (fun _ _ => trivial)); (case aO => exact (by (with_reducible repeat (first | apply Kd.R_alloc | apply Kd.R_drewN | apply Kd.R_drew)); exact HO_5.out)); (case aS => exact (below_size (by repeat (first | (with_reducible first | exact HB.out | apply below_alloc | apply pw_below_drewN | apply below_drew1) | exact HB.out)))); (case aL => have := LMc17.out; omega); intro v258 w18 ho hb hg hat; rw [← Ny257.out] at ho; have n0_ := Aside0.mk (hb); have n1_ := Aside0.mk (ho); clear HB; clear HO_5; have HB := n0_; have HO259 := n1_; clear n0_ n1_; clear ho hb hg hat))
      go_ret
      exact ⟨_, by first | rfl | (simp [errW_none, errW_some] <;> rfl) | (simp [*, errW_none, errW_some] <;> rfl), by (with_reducible repeat (first | apply Kd.R_alloc | apply Kd.R_drewN | apply Kd.R_drew)); exact HO259.out, by repeat (first | (with_reducible first | exact HB.out | apply below_alloc | apply pw_below_drewN | apply below_drew1) | exact HB.out)⟩
     ·rw [if_neg c17] at H
      exact absurd H (by simp)

end Go.Proofs.YtgonbeifaioheaaDoor.P
