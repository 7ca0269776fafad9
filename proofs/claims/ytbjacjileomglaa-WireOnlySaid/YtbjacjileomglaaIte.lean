/- wire's iterator, and its writer (a strings.Builder), walked by hand. -/
import Derived.Shelf.Strings.BuilderK
import Derived.RangeFuncNested
import Derived.RangeFuncBound
import Derived.RangeFuncCalls
import Derived.RangeFuncLeaves
import Derived.Shelf.Abstract
import Derived.Shelf.RegionOpen
import Derived.WalkKit
import Derived.OwnWalkIn
import Derived.TacticsInMore
import Derived.LoopNIn
import Derived.LoopIn
import Derived.Test.YtbjacjileomglaaProg
import Derived.Test.YtbjacjileomglaaWWords
import Derived.Test.YtbjacjileomglaaWLast
import Derived.Test.YtbjacjileomglaaWMore
namespace Go.Proofs.Ytbjacjileomglaa.P
open Go.RowKit Go.Proofs.YtbjacjileomglaaW.PrintWords Go.Proofs.YtbjacjileomglaaW.PrintLast Go.Proofs.YtbjacjileomglaaW.PrintMore
set_option linter.unusedVariables false
set_option linter.unusedSimpArgs false
/-! ### strings.Builder, as wire's writer holds it: its block is a writer's. -/
theorem wb_check_fresh (b : Nat) (w : World) (h0 : w.cell? ⟨b, 0, none⟩ = some (.pointer none)) (hsh : w.shape? b = some (46, 2)) (hfz : w.frozen? ⟨b, 0, none⟩ = false) :
    Calls Try.prog 28 #[.pointer (some ⟨b, 0, none⟩)] w fun e w' => e = .returned (.tuple #[]) ∧ w' = w.setCell ⟨b, 0, none⟩ (.pointer (some ⟨b, 0, none⟩)) := by
  obtain ⟨j, hj, hjs⟩ : ∃ j, Try.prog.info? 42 = some j ∧ j.size = 2 := Option.map_eq_some_iff.1 (by kernel_rfl)
  have hl : liesAt Try.prog Try.prog.depth 46 (2 / Try.prog.cellsOf 46) 0 42 1 = true := by kernel_rfl
  go_enter Try.func28, Try.ntmps28
  go_wp2
  rw [Lib.run_to_unsafe w ⟨b, 0, none⟩ Try.underlying39 Try.underlying64 hj (by rw [hjs]; decide) hsh (Nat.zero_lt_succ 1)]
  simp only [Result.andThen]
  rw [Oper.upon_value]
  go_wp2
  rw [run_callFunc_extern Try.func30 (by kernel_rfl) (by kernel_rfl) (by kernel_rfl) (e := Extern.AbiNoEscape.same) (by kernel_rfl)]
  rw [Lib.run_noEscape]
  simp only [Result.andThen]
  rw [Oper.upon_value]
  go_wp2
  rw [Lib.run_from_unsafe w ⟨b, 0, none⟩ Try.underlying64 Try.underlying39 hj hsh hl]
  simp only [Result.andThen]
  rw [Oper.upon_value]
  go_wp2
  go_end0
  exact ⟨rfl, rfl⟩
theorem wb_check_used (b : Nat) (w : World) (h0 : w.cell? ⟨b, 0, none⟩ = some (.pointer (some ⟨b, 0, none⟩))) :
    Calls Try.prog 28 #[.pointer (some ⟨b, 0, none⟩)] w fun e w' => e = .returned (.tuple #[]) ∧ w' = w := by
  obtain ⟨j, hj, hjs⟩ : ∃ j, Try.prog.info? 42 = some j ∧ j.size = 2 := Option.map_eq_some_iff.1 (by kernel_rfl)
  go_enter Try.func28, Try.ntmps28
  go_wp2
  rw [Lib.run_neq_ptr_same w _ Try.underlying39 hj]
  go_wp2
  go_end0
  exact ⟨rfl, rfl⟩
/-- The writer holds these bytes. -/
abbrev Wb (B b : Nat) (bs : List Value) (w : World) : Prop := Lib.IsBuilderF 46 5 B b bs w
theorem wb_check (B b : Nat) (bs : List Value) (w : World) (h : Wb B b bs w) :
    Calls Try.prog 28 #[.pointer (some ⟨b, 0, none⟩)] w fun e w' => e = .returned (.tuple #[]) ∧ (Lib.BuilderAtF 46 5 B b (.pointer (some ⟨b, 0, none⟩)) bs w' ∧ Below B w w' ∧ Lib.OthersKept 5 (some b) w w') := by
  rcases h with h | h
  · refine (wb_check_fresh b w h.cell0 h.shape h.frozen0).mono ?_
    rintro e w' ⟨rfl, rfl⟩
    exact ⟨rfl, h.used _, (Below.refl B w).setCell (p := ⟨b, 0, none⟩) h.1 _, (Lib.OthersKept.refl _ _ w).setCell ⟨b, 0, none⟩ rfl _⟩
  · refine (wb_check_used b w h.cell0).mono ?_
    rintro e w' ⟨rfl, rfl⟩
    exact ⟨rfl, h, Below.refl B _, Lib.OthersKept.refl _ _ _⟩
set_option maxHeartbeats 2000000 in
theorem wb_byte (B b : Nat) (bs : List Value) (c : Int) (w : World) (h : Wb B b bs w) (hlen : bs.length + 1 ≤ 140737488355328) (hBw : B ≤ w.heap.size) :
    Calls Try.prog 27 #[.pointer (some ⟨b, 0, none⟩), .int .u8 c] w fun e w' => e = .returned .nilIface ∧ (Wb B b (bs ++ [.int .u8 c]) w' ∧ Below B w w' ∧ Lib.OthersKept 5 (some b) w w') := by
  obtain ⟨i0, hi, hz0, hz1, hz2⟩ := info_parts (P := Try.prog) (e := 5) (z := .int .u8 0) (size := 1) (bytes := 1) (by kernel_rfl)
  go_enter Try.func27, Try.ntmps27
  go_wp2_with (go_at_call 28; refine (wb_check B b bs _ h).mono ?_)
  rintro e w1 ⟨rfl, h1, hb1, hk1⟩
  obtain ⟨hB, v, hbk, hown, hne⟩ := h1
  have c0 : w1.cell? ⟨b, 0, none⟩ = some (.pointer (some ⟨b, 0, none⟩)) := by rw [Lib.cell_of_heap hbk]; rfl
  have c1 : w1.cell? ⟨b, 1, none⟩ = some v := by rw [Lib.cell_of_heap hbk]; rfl
  go_wp2_with (at_builtin; refine wpList_append_ownF _ rfl _ _ 40 rfl B 5 i0 (.int .u8 0) 1 1 Try.underlying40 hi hz0 hz1 hz2 rfl (by decide) _ _ _ rfl (hown.alloc _) ⟨w1.heap.size, 0, none⟩ 1 1 [.int .u8 c] rfl rfl ?c1 ?c2 ?c3 ?c4 ?c5 ?_)
  case c1 =>
    intro j u hj
    match j, hj with
    | 0, hj => simp at hj; subst hj; simp [Addr.add]
  case c2 => intro u hu; simp at hu; subst hu; rfl
  case c3 => unfold maxLen; omega
  case c4 => omega
  case c5 => have := hb1.size; simp; omega
  intro v' w2 hown' hgrow _
  have hlt : b < w1.heap.size := (Array.getElem?_eq_some_iff.1 hbk).1
  have hb2 : w2.heap[b]? = some (.cells #[.pointer (some ⟨b, 0, none⟩), v] 46 (0, 0)) := by
    rw [hgrow.block b (by simp; omega) (fun e => hne e.symm), Lib.alloc_old w1 _ b hlt]
    exact hbk
  have d0 : w2.cell? ⟨b, 0, none⟩ = some (.pointer (some ⟨b, 0, none⟩)) := by rw [Lib.cell_of_heap hb2]; rfl
  have d1 : w2.cell? ⟨b, 1, none⟩ = some v := by rw [Lib.cell_of_heap hb2]; rfl
  have f1 : w2.frozen? ⟨b, 1, none⟩ = false := Lib.frozen_of_heap hb2 1
  obtain ⟨g, cap, rfl⟩ : ∃ g cap, v' = .slice (some ⟨g, 0, none⟩) (bs.length + 1) cap := by
    rcases hown'.2 with ⟨_, h0⟩ | ⟨g, cap, cur, fz, hv, _⟩
    · omega
    · exact ⟨g, cap, hv⟩
  go_wp2
  go_ret
  refine ⟨rfl, Or.inr ?_, ?_, ((hk1.alloc _).grown hgrow (Lib.ownsRowF_kind (hown.alloc _))).setCell ⟨b, 1, none⟩ rfl _⟩
  · exact Lib.BuilderAtF.put (T := 46) (e := 5) hB hb2 (bs' := bs ++ [.int .u8 c]) (by simpa using hown') (by decide)
  · exact ((hb1.alloc (by have := hb1.size; omega) _).grown hgrow (by have := hb1.size; simp; omega) (fun k hk => (hown.lt k hk).1)).setCell (p := ⟨b, 1, none⟩) hB _
set_option maxHeartbeats 2000000 in
theorem wb_text (B b : Nat) (bs : List Value) (s : ByteArray) (w : World) (h : Wb B b bs w) (hlen : bs.length + s.size ≤ 140737488355328) (hBw : B ≤ w.heap.size) :
    Calls Try.prog 23 #[.pointer (some ⟨b, 0, none⟩), .string s] w fun e w' => e = .returned (.tuple #[.int .i64 s.size, .nilIface]) ∧ (Wb B b (bs ++ Lib.strCells s) w' ∧ Below B w w' ∧ Lib.OthersKept 5 (some b) w w') := by
  obtain ⟨i0, hi, hz0, hz1, hz2⟩ := info_parts (P := Try.prog) (e := 5) (z := .int .u8 0) (size := 1) (bytes := 1) (by kernel_rfl)
  go_enter Try.func23, Try.ntmps23
  go_wp2_with (go_at_call 28; refine (wb_check B b bs _ h).mono ?_)
  rintro e w1 ⟨rfl, h1, hb1, hk1⟩
  obtain ⟨hB, v, hbk, hown, hne⟩ := h1
  have c0 : w1.cell? ⟨b, 0, none⟩ = some (.pointer (some ⟨b, 0, none⟩)) := by rw [Lib.cell_of_heap hbk]; rfl
  have c1 : w1.cell? ⟨b, 1, none⟩ = some v := by rw [Lib.cell_of_heap hbk]; rfl
  go_wp2_with (at_builtin; refine Lib.wpList_append_own_stringF _ rfl _ _ 40 9 rfl B 5 i0 Try.underlying40 Try.underlying9 hi hz0 hz1 hz2 _ _ _ rfl hown s rfl ?c3 ?c4 ?c5 ?_)
  case c3 => unfold maxLen; omega
  case c4 => omega
  case c5 => have := hb1.size; omega
  intro v' w2 hown' hgrow _
  have hlt : b < w1.heap.size := (Array.getElem?_eq_some_iff.1 hbk).1
  have hb2 : w2.heap[b]? = some (.cells #[.pointer (some ⟨b, 0, none⟩), v] 46 (0, 0)) := by
    rw [hgrow.block b hlt (fun e => hne e.symm)]
    exact hbk
  have d0 : w2.cell? ⟨b, 0, none⟩ = some (.pointer (some ⟨b, 0, none⟩)) := by rw [Lib.cell_of_heap hb2]; rfl
  have d1 : w2.cell? ⟨b, 1, none⟩ = some v := by rw [Lib.cell_of_heap hb2]; rfl
  have f1 : w2.frozen? ⟨b, 1, none⟩ = false := Lib.frozen_of_heap hb2 1
  obtain ⟨ao, n', cap, rfl⟩ : ∃ ao n' cap, v' = .slice ao n' cap := by
    rcases hown'.2 with ⟨hv, _⟩ | ⟨g, cap, cur, fz, hv, _⟩
    · exact ⟨_, _, _, hv⟩
    · exact ⟨_, _, _, hv⟩
  go_wp2
  go_ret2
  refine ⟨rfl, Or.inr ?_, ?_, (hk1.grown hgrow (Lib.ownsRowF_kind hown)).setCell ⟨b, 1, none⟩ rfl _⟩
  · exact Lib.BuilderAtF.put (T := 46) (e := 5) hB hb2 (bs' := bs ++ Lib.strCells s) (by simpa [Lib.strCells_length] using hown') (by decide)
  · exact (hb1.grown hgrow (by have := hb1.size; omega) (fun k hk => (hown.lt k hk).1)).setCell (p := ⟨b, 1, none⟩) hB _
set_option maxHeartbeats 2000000 in
theorem wb_string (B b : Nat) (l : List UInt8) (w : World) (h : Wb B b (Lib.byteCells l) w) (h0 : l ≠ []) :
    Calls Try.prog 22 #[.pointer (some ⟨b, 0, none⟩)] w fun e w' => e = .returned (.string ⟨l.toArray⟩) ∧ Below B w w' := by
  obtain ⟨p, hAt⟩ : ∃ p, Lib.BuilderAtF 46 5 B b p (Lib.byteCells l) w := by
    rcases h with h | h
    · exact ⟨_, h⟩
    · exact ⟨_, h⟩
  obtain ⟨hB, v, hbk, hown, hne⟩ := hAt
  have hl0 : l.length ≠ 0 := by simpa using h0
  rw [Lib.byteCells_length] at hown
  obtain ⟨g, cap, cur, fz, rfl, hbg, hg, hfz, hnc, hcm, hcs, htake⟩ : ∃ g cap cur fz, v = .slice (some ⟨g, 0, none⟩) l.length cap ∧ B ≤ g ∧ w.heap[g]? = some (.cells cur 5 fz) ∧ fz.2 ≤ l.length * 1 ∧ l.length ≤ cap ∧ cap ≤ maxLen ∧ cur.size = cap * 1 ∧ cur.toList.take (l.length * 1) = Lib.byteCells l := by
    rcases hown.2 with ⟨_, hz⟩ | ⟨g, cap, cur, fz, hv, r⟩
    · exact absurd hz hl0
    · exact ⟨g, cap, cur, fz, hv, r⟩
  have c1 : w.drew.cell? ⟨b, 1, none⟩ = some (.slice (some ⟨g, 0, none⟩) l.length cap) := by
    have : w.drew.heap[b]? = some (.cells #[p, .slice (some ⟨g, 0, none⟩) l.length cap] 46 (0, 0)) := hbk
    rw [Lib.cell_of_heap this]; rfl
  have hSD : (Builtin.unsafeSliceData_ #[40] 61 #[.slice (some ⟨g, 0, none⟩) l.length cap]).run Try.prog w.drew = .ok (.pointer (some ⟨g, 0, none⟩)) w.drew :=
    Lib.run_unsafeSliceData_row _ _ _ _ _ _ (by omega)
  have hUS : (Builtin.unsafeString_ #[61, 3] 9 #[.pointer (some ⟨g, 0, none⟩), .int .i64 l.length]).run Try.prog w.drew = .ok (.string ⟨l.toArray⟩) (w.drew.freeze ⟨g, 0, none⟩ l.length) := by
    refine Lib.run_unsafeString_row w.drew 61 3 9 5 Try.underlying61 (by kernel_rfl) g cur.size (by have hg' : w.drew.heap[g]? = some (.cells cur 5 fz) := hg; simp [World.shape?, hg']) l h0 (by omega) (by unfold maxLen at hcm; omega) ?_
    intro j x hx
    exact hown.cells (g := g) rfl j (.int .u8 x.toNat) (by simp [Lib.byteCells, hx])
  have mixed : Try.prog.follows Departure.mixedOrders = true := by kernel_rfl
  go_enter Try.func22, Try.ntmps22
  go_wp2
  go_region_o
  all_goals (go_wp2; go_ret; exact ⟨rfl, Lib.below_freeze (Below.drew (Below.refl B w)) (p := ⟨g, 0, none⟩) hbg _⟩)
/-! ### wire.bytes: the iterator -/
def wire_Put.l0 : Nat → Int → List Int → Option (List Int)
  | 0, _, _ => none
  | k + 1, v, out => if out.length < 1000 then (if v ≥ 128 then wire_Put.l0 k (shr .u64 v 7) (out ++ [(Int.tmod v 128 + 128) % 256]) else some (out ++ [v % 256])) else none
theorem shr7 (v : Int) : shr .u64 v 7 = v / 128 := by
  unfold shr
  rfl
theorem shr7_lt {v : Int} (h : 128 ≤ v) : (shr .u64 v 7).toNat < v.toNat := by rw [shr7]; omega
/-- What the box of v holds. -/
def boxv (bv : Nat) (W : World) : Nat := match W.cell? ⟨bv, 0, none⟩ with | some (.int _ v) => v.toNat | _ => 0
theorem boxv_of {bv : Nat} {W : World} {v : Int} (h : W.heap[bv]? = some (.cells #[.int .u64 v] 22 (0, 0))) : boxv bv W = v.toNat := by
  simp [boxv, World.cell?, h]
section
attribute [local go_sem] Oper.semAt_some
set_option maxHeartbeats 4000000 in
theorem wire_it (n : Nat) (hn : 1 ≤ n) (l bv : Nat) (J : List Int → World → Prop)
    (hJc : ∀ s v W u, J s W → W.heap[bv]? = some (.cells #[.int .u64 v] 22 (0, 0)) → J s (W.setCell ⟨bv, 0, none⟩ u))
    (hY : ∀ s x v W, J s W → s.length < 1000 → W.heap[bv]? = some (.cells #[.int .u64 v] 22 (0, 0)) → YieldAt Fence.wide (n - 1) Try.prog l #[.int .u8 x] W fun e W' => e = .returned (.bool true) ∧ J (s ++ [x]) W' ∧ W'.heap[bv]? = some (.cells #[.int .u64 v] 22 (0, 0)))
    (k : Nat) (v : Int) (out r : List Int) (h : wire_Put.l0 k v out = some r) (W : World) (hb : W.heap[bv]? = some (.cells #[.int .u64 v] 22 (0, 0))) (h0 : J out W) :
    CallsIn Fence.wide n Try.prog 29 #[.func (.yield l) #[] #[], .pointer (some ⟨bv, 0, none⟩)] W fun e W' => (∃ v, e = .returned v) ∧ J r W' := by
  have HK := Aside0.mk h
  have HB := Aside0.mk hb
  have HJ := Aside0.mk h0
  clear h hb h0
  refine callsIn_of_wp Try.func29 rfl trivial ?_ rfl
  simp only [Try.ntmps29, List.size_toArray, List.length_cons, List.length_nil, Nat.reduceAdd, Nat.reduceSub, Array.replicate_succ, Array.replicate_zero, List.push_toArray, List.append_toArray, List.nil_append, List.cons_append]
  gi_wp2
  gi_loopw [] (fun wr => ∃ (kq : Nat) (x : Int) (o : List Int), Aside0 (wire_Put.l0 kq x o = some r) ∧ Aside0 (wr.heap[bv]? = some (.cells #[.int .u64 x] 22 (0, 0))) ∧ Aside0 (J o wr)) (fun wr => boxv bv wr)
  case atStart => exact ⟨k, v, out, HK, HB, HJ⟩
  case round =>
    clear HK HB HJ
    obtain ⟨kq, x, o, HK, HB, HJ⟩ := hrel
    have hc := blk_cell HB.out 0
    have hf := blk_frozen HB.out 0
    simp at hc hf
    cases kq with
    | zero => exact absurd HK.out (by simp [wire_Put.l0])
    | succ kq =>
      have H := HK.out
      clear HK
      simp only [wire_Put.l0] at H
      by_cases c1 : o.length < 1000
      · rw [if_pos c1] at H
        by_cases c2 : x ≥ 128
        · rw [if_pos c2] at H
          have c2b : decide (128 ≤ x) = true := decide_eq_true c2
          have HN := Aside0.mk H
          have HL := Aside0.mk c2
          clear H c2
          obtain ⟨fn, tmps, assign, body, hy, hR⟩ := hY o ((Int.tmod x 128 + 128) % 256) x wr HJ.out c1 HB.out
          gi_wp2
          refine hR.mono ?_
          rintro e W3 ⟨rfl, hJ3, hb3⟩
          have hc3 := blk_cell hb3 0
          have hf3 := blk_frozen hb3 0
          simp at hc3 hf3
          gi_wp2
          go_roundw
          case rel => exact ⟨kq, _, _, HN, ⟨blk_put hb3 0 _ rfl⟩, ⟨hJc _ _ _ _ hJ3 hb3⟩⟩
          case measure => rw [boxv_of (blk_put hb3 0 _ rfl), boxv_of HB.out]; exact shr7_lt HL.out
        · rw [if_neg c2] at H
          have c2b : decide (128 ≤ x) = false := decide_eq_false c2
          clear c2
          obtain rfl := Option.some.inj H
          obtain ⟨fn, tmps, assign, body, hy, hR⟩ := hY o (x % 256) x wr HJ.out c1 HB.out
          gi_wp2
          refine hR.mono ?_
          rintro e W3 ⟨rfl, hJ3, hb3⟩
          gi_wp2
          go_end0
          exact ⟨⟨_, rfl⟩, hJ3⟩
      · rw [if_neg c1] at H
        exact absurd H (by simp)
end
/-! ### (*number).put -/
theorem wb_kept {B b : Nat} {bs : List Value} {W W' : World} {row : Option Nat} (h : Wb B b bs W) (hg : W.grownBy W' row) (hr : ∀ r, row = some r → r ≠ b ∧ ∀ c fz, W.heap[r]? ≠ some (.cells c 5 fz)) : Wb B b bs W' := by
  have key : ∀ p, Lib.BuilderAtF 46 5 B b p bs W → Lib.BuilderAtF 46 5 B b p bs W' := by
    rintro p ⟨hB, v, hb, hown, hne⟩
    refine ⟨hB, v, ?_, hown.kept hg ?_, hne⟩
    · rw [hg.block b (Array.getElem?_eq_some_iff.1 hb).1 (fun e => (hr b e.symm).1 rfl)]; exact hb
    · cases hv : v.ownBlock with
      | none => exact Or.inl rfl
      | some g =>
        refine Or.inr (fun e => ?_)
        obtain ⟨c, fz, hc⟩ := Lib.ownsRowF_kind hown g hv
        exact (hr g e.symm).2 c fz hc
  exact h.elim (fun x => .inl (key _ x)) (fun x => .inr (key _ x))
theorem wb_cells {B b : Nat} {bs : List Value} {W : World} (h : Wb B b bs W) : ∃ cs, W.heap[b]? = some (.cells cs 46 (0, 0)) := by
  rcases h with ⟨_, v, hb, _⟩ | ⟨_, v, hb, _⟩ <;> exact ⟨_, hb⟩
theorem wb_lt {B b : Nat} {bs : List Value} {W : World} (h : Wb B b bs W) : b < W.heap.size := h.elim (fun x => x.lt) (fun x => x.lt)
theorem wire_bytes (v : Int) (w : World) : Calls Try.prog 26 #[.int .u64 v] w fun e w' => e = .returned (.func (.func 29) #[] #[.pointer (some ⟨w.heap.size, 0, none⟩)]) ∧ w' = w.alloc (.cells #[.int .u64 v] 22) := by
  go_enter Try.func26, Try.ntmps26
  go_wp2
  go_ret
  exact ⟨rfl, rfl⟩
/-- How the body of a round of this loop is left: it goes on; the loop's books are as they were. -/
def bodyGoes (bv : Nat) (I : List Int → World → Prop) (s : List Int) (v : Int) (W : World) : Exit → Act → World → Prop
  | .normal, _, W' => I s W' ∧ W'.heap[bv]? = some (.cells #[.int .u64 v] 22 (0, 0)) ∧ ∀ (j : Nat) (o : Obj), W.heap[j]? = some o → o.isCells = false → W'.heap[j]? = some o
  | _, _, _ => False
theorem wire_range {n : Nat} (hn : 2 ≤ n) {g : Operand} {ps : Array Tmp} {assign body : Code} {Q : Exit → Act → World → Prop} {a : Act} {w : World} {bv : Nat}
    (hg : a.eval g = .func (.func 29) #[] #[.pointer (some ⟨bv, 0, none⟩)]) (hps : ps.size = 1)
    (I : List Int → World → Prop) (a₁ : Int → Act) (k : Nat) (v : Int) (r : List Int) (h : wire_Put.l0 k v [] = some r)
    (hb : w.heap[bv]? = some (.cells #[.int .u64 v] 22 (0, 0))) (h0 : I [] w)
    (hIa : ∀ s W o, w.heap.size ≤ W.heap.size → I s W → I s (W.alloc o))
    (hIp : ∀ s W j o o', w.heap.size ≤ j → W.heap[j]? = some o → o.isCells = false → I s W → I s (W.putObj j o'))
    (hIc : ∀ s v W u, I s W → W.heap[bv]? = some (.cells #[.int .u64 v] 22 (0, 0)) → I s (W.setCell ⟨bv, 0, none⟩ u))
    (hassign : ∀ (l : Nat) (x : Int) (W : World) (K : Act → World → Prop), K (a₁ x) W →
      assign.wpIn (Fence.wide.inRound l) (n - 1 - 1) Try.prog (Exit.then K (fun _ _ _ => False)) { tmps := (ps.zip #[.int .u8 x]).foldl (fun t (p, v) => t.setIfInBounds p v) a.tmps, defers := [] } W)
    (hbody : ∀ (l : Nat) (s : List Int) (x v : Int) (W : World), I s W → s.length < 1000 → w.heap.size ≤ l → W.heap[bv]? = some (.cells #[.int .u64 v] 22 (0, 0)) → body.wpIn (Fence.wide.inRound l) (n - 1 - 1) Try.prog (bodyGoes bv I (s ++ [x]) v W) (a₁ x) W)
    (hdone : ∀ W, I r W → W.heap[w.heap.size]? = some (.deferred (some [])) → Q .normal { a with defers := { target := .collected w.heap.size, args := #[] } :: a.defers } W) :
    (Code.rangeFunc g ps assign body).wpIn Fence.wide n Try.prog Q a w := by
  have hbl := blk_lt hb
  refine wpIn_rangeFunc ?_
  intro fn hfn
  obtain ⟨rc, hrc⟩ : ∃ rc : LoopState → Option Code → Loop, rc = fun st pe => { state := st, pending := pe, fn, tmps := a.tmps, params := ps, assign, body, defers := w.heap.size } := ⟨_, rfl⟩
  obtain ⟨W1, hW1⟩ : ∃ W1, (w.alloc (.deferred (some []))).alloc (.loop (rc .ready none)) = W1 := ⟨_, rfl⟩
  have hL1 : W1.heap[w.heap.size + 1]? = some (.loop (rc .ready none)) := by
    rw [← hW1]; have := World.alloc_heap_new (w.alloc (.deferred (some []))) (.loop (rc .ready none)); rwa [World.size_alloc] at this
  have hK1 : W1.heap[w.heap.size]? = some (.deferred (some [])) := by
    rw [← hW1]; exact (Below.heap_alloc _ _ _ (by simp)).trans (World.alloc_heap_new w _)
  have hI1 : I [] W1 := by rw [← hW1]; exact hIa _ _ _ (by simp) (hIa _ _ _ (Nat.le_refl _) h0)
  have hb1 : W1.heap[bv]? = some (.cells #[.int .u64 v] 22 (0, 0)) := by rw [← hW1]; exact blk_alloc (blk_alloc hb _) _
  refine ⟨w.heap.size + 1, [{ target := .collected w.heap.size, args := #[] }], W1, { target := .fn (.func 29) #[.pointer (some ⟨bv, 0, none⟩)], args := #[.func (.yield (w.heap.size + 1)) #[] #[]] }, W1, 29,
    #[.func (.yield (w.heap.size + 1)) #[] #[], .pointer (some ⟨bv, 0, none⟩)], W1, ?_, ?_, fun _ _ => trivial, ?_, fun _ => by omega, ?_⟩
  · rw [← hW1, hrc]; exact run_enterLoop_outer _ _ _ _ _
  · simp only [resolve, hg]
    simp [go_sem]
  · have eg : ∀ args w, (callFunc 29 args).run Try.prog w = .ok (.enter 29 args) w := enters_of Try.func29 (by kernel_rfl) rfl
    simp [invoke, go_sem, eg]
  · refine (wire_it (n - 1) (by omega) (w.heap.size + 1) bv
      (fun s W => I s W ∧ W.heap[w.heap.size + 1]? = some (.loop (rc .ready none)) ∧ W.heap[w.heap.size]? = some (.deferred (some [])))
      (fun s v W u hs hb => ⟨hIc s v W u hs.1 hb, ?_, ?_⟩) ?_ k v [] r h W1 hb1 ⟨hI1, hL1, hK1⟩).mono ?_
    · rw [Below.heap_setCell _ _ _ _ (by simp; omega)]; exact hs.2.1
    · rw [Below.heap_setCell _ _ _ _ (by simp; omega)]; exact hs.2.2
    · rintro s x v W ⟨hi, hl, hk⟩ hlen hb
      have hlt := (Array.getElem?_eq_some_iff.1 hl).1
      have hy := run_yield (P := Try.prog) (args := #[.int .u8 x]) hl (by rw [hrc]; exact hps.symm)
      rw [hrc] at hy
      refine ⟨fn, _, assign, body, hy, roundIn_of_wpIn hfn (hassign _ x W _ ⟨_, run_beginRound hl (by rw [hrc]), ?_⟩)⟩
      have hl2 : (W.putObj (w.heap.size + 1) (.loop { rc .ready none with state := .busy })).heap[w.heap.size + 1]? = some (.loop { rc .ready none with state := .busy }) := World.putObj_heap_same hlt
      have hk2 : (W.putObj (w.heap.size + 1) (.loop { rc .ready none with state := .busy })).heap[w.heap.size]? = some (.deferred (some [])) := (World.putObj_heap_other (by omega)).trans hk
      have hb2 : (W.putObj (w.heap.size + 1) (.loop { rc .ready none with state := .busy })).heap[bv]? = some (.cells #[.int .u64 v] 22 (0, 0)) := (World.putObj_heap_other (by omega)).trans hb
      refine wpIn_mono (hbody _ s x v _ (hIp _ _ _ _ _ (by omega) hl rfl hi) hlen (by omega) hb2) ?_
      rintro e a3 W3 hp
      cases e with
      | normal =>
        obtain ⟨hi3, hb3, hk3⟩ := hp
        have hl3 := hk3 _ _ hl2 rfl
        have hd3 := hk3 _ _ hk2 rfl
        have he := run_endRound (P := Try.prog) none hl3
        have hlt3 := (Array.getElem?_eq_some_iff.1 hl3).1
        refine ⟨_, _, he, rfl, ⟨hIp _ _ _ _ _ (by omega) hl3 rfl hi3, ?_, (World.putObj_heap_other (by omega)).trans hd3⟩, (World.putObj_heap_other (by omega)).trans hb3⟩
        rw [World.putObj_heap_same hlt3, hrc]
        rfl
      | ret => exact hp.elim
      | exit id => exact hp.elim
      | goto t => exact hp.elim
      | panic ch => exact hp.elim
      | outgrown => exact hp.elim
    · rintro e W2 ⟨⟨v, rfl⟩, hi, hl, hk⟩
      refine ⟨none, _, by have := run_endLoop (P := Try.prog) hl (by rw [hrc]; simp); rw [hrc] at this; exact this, hdone _ (hIp _ _ _ _ _ (by omega) hl rfl hi) ((World.putObj_heap_other (by omega)).trans hk)⟩
section
attribute [local go_sem] Oper.semAt_some
set_option maxHeartbeats 4000000 in
theorem wire_put (k : Nat) (v : Int) (r : List Int) (h : wire_Put.l0 k v [] = some r) (B b : Nat) (bs : List Value) (w : World) (hw : Wb B b bs w) (hlen : bs.length ≤ 100000) (hB : B ≤ w.heap.size) :
    CallsIn Fence.wide 3 Try.prog 21 #[.pointer (some ⟨b, 0, none⟩), .int .u64 v] w fun e w' => e = .returned (.tuple #[]) ∧ Wb B b (bs ++ r.map (fun x => .int .u8 x)) w' ∧ Below B w w' := by
  have H := Aside0.mk h
  clear h
  refine callsIn_of_wp_marks Try.func21 rfl trivial ?_ rfl
  simp only [Try.ntmps21, List.size_toArray, List.length_cons, List.length_nil, Nat.reduceAdd, Nat.reduceSub, Array.replicate_succ, Array.replicate_zero, List.push_toArray, List.append_toArray, List.nil_append, List.cons_append]
  gi_wp2_with (refine ⟨trivial, ?_⟩; refine (callsIn_wide.2 (wire_bytes v _)).mono ?_; rintro e w' ⟨rfl, rfl⟩)
  have hbl := wb_lt hw
  have hn0 : ((w.alloc (.cells #[.pointer (some ⟨b, 0, none⟩)] 56)).alloc (.cells #[.int .u64 v] 22)).heap[w.heap.size]? = some (.cells #[.pointer (some ⟨b, 0, none⟩)] 56 (0, 0)) := blk_alloc (blk_new w _) _
  have hv0 : ((w.alloc (.cells #[.pointer (some ⟨b, 0, none⟩)] 56)).alloc (.cells #[.int .u64 v] 22)).heap[w.heap.size + 1]? = some (.cells #[.int .u64 v] 22 (0, 0)) := by
    have := blk_new (w.alloc (.cells #[.pointer (some ⟨b, 0, none⟩)] 56)) (.cells #[.int .u64 v] 22)
    rwa [World.size_alloc] at this
  have hw0 : Wb B b (bs ++ ([] : List Int).map (fun x => Value.int .u8 x)) ((w.alloc (.cells #[.pointer (some ⟨b, 0, none⟩)] 56)).alloc (.cells #[.int .u64 v] 22)) := by
    rw [List.map_nil, List.append_nil]
    exact (hw.alloc _).alloc _
  have hB0 : Below B w ((w.alloc (.cells #[.pointer (some ⟨b, 0, none⟩)] 56)).alloc (.cells #[.int .u64 v] 22)) := ((Below.refl _ w).alloc hB _).alloc (by simp; omega) _
  have hsz : ((w.alloc (.cells #[.pointer (some ⟨b, 0, none⟩)] 56)).alloc (.cells #[.int .u64 v] 22)).heap.size = w.heap.size + 2 := by simp
  refine wire_range (bv := w.heap.size + 1) (by decide) rfl rfl
    (fun s W => Wb B b (bs ++ s.map (fun x => Value.int .u8 x)) W ∧ W.heap[w.heap.size]? = some (.cells #[.pointer (some ⟨b, 0, none⟩)] 56 (0, 0)) ∧ Below B w W)
    (fun x => { tmps := #[.pointer (some ⟨b, 0, none⟩), .int .u64 v, .pointer (some ⟨w.heap.size, 0, none⟩), undef, .int .u8 x, .int .u64 v, .func (.func 29) #[] #[.pointer (some ⟨w.heap.size + 1, 0, none⟩)], .int .u8 x, undef, undef, undef, undef, undef], defers := [] })
    k v r H.out hv0 ⟨hw0, hn0, hB0⟩ ?hIa ?hIp ?hIc ?hassign ?hbody ?hdone
  case hIa =>
    rintro s W o hle ⟨h1, h2, h3⟩
    exact ⟨h1.alloc _, (Below.heap_alloc _ _ _ (Array.getElem?_eq_some_iff.1 h2).1).trans h2, h3.alloc (by omega) _⟩
  case hIp =>
    rintro s W j o o' hle hj hc ⟨h1, h2, h3⟩
    rw [hsz] at hle
    refine ⟨wb_kept h1 (grownBy_putObj' W j o') (fun r e => ?_), (World.putObj_heap_other (by omega)).trans h2, h3.grown (grownBy_putObj' W j o') (by have := (Array.getElem?_eq_some_iff.1 hj).1; omega) (fun k e => by cases e; omega)⟩
    · cases e
      refine ⟨by omega, fun c fz e => ?_⟩
      rw [hj] at e
      cases e
      simp [Obj.isCells] at hc
  case hIc =>
    rintro s v W u ⟨h1, h2, h3⟩ hb
    refine ⟨wb_kept h1 (grownBy_setCell' W (w.heap.size + 1) u) (fun r e => ?_), ?_, h3.setCell (p := ⟨w.heap.size + 1, 0, none⟩) (by simp; omega) _⟩
    · cases e
      refine ⟨by omega, fun c fz e => ?_⟩
      rw [hb] at e
      cases e
    · rw [Below.heap_setCell _ _ _ _ (by simp)]; exact h2
  case hassign =>
    intro l x W K hK
    gi_wp2
    exact hK
  case hbody =>
    rintro l s x v' W ⟨h1, h2, h3⟩ hs hl hb
    have hc := blk_cell h2 0
    simp at hc
    have hW1 := Aside0.mk h1
    have hW2 := Aside0.mk h2
    have hW3 := Aside0.mk h3
    clear h1 h2 h3
    gi_wp2_with (refine ⟨trivial, ?_⟩; refine (CallsIn.inRound l (callsIn_wide.2 (wb_byte B b _ x W hW1.out (by simp; omega) (Nat.le_trans hB hW3.out.size)))).mono ?_; rintro e w' ⟨rfl, hq1, hq2, hq3⟩)
    obtain ⟨cs, hcb⟩ := wb_cells hW1.out
    refine ⟨⟨?_, hq3 _ _ hW2.out (by simp; omega) (fun c fz e => by cases e), hW3.out.trans hq2⟩, hq3 _ _ hb (by simp; omega) (fun c fz e => by cases e), fun j o hj hc => hq3 j o hj (fun e => ?_) (fun c fz e => ?_)⟩
    · rw [List.map_append, ← List.append_assoc]; exact hq1
    · cases e
      rw [hcb] at hj
      cases hj
      simp [Obj.isCells] at hc
    · subst e
      simp [Obj.isCells] at hc
  case hdone =>
    rintro W ⟨h1, h2, h3⟩ hk
    gi_wp2
    refine ⟨by simp, .inl ⟨_, _, rfl, run_takeDeferred hk, ?_⟩⟩
    rw [hsz] at hk ⊢
    have hD := (Array.getElem?_eq_some_iff.1 hk).1
    refine ⟨_, results_none rfl _ _ _, rfl, wb_kept h1 (grownBy_putObj' W _ _) (fun r e => ?_), h3.grown (grownBy_putObj' W _ _) (by omega) (fun k e => by cases e; omega)⟩
    cases e
    refine ⟨by omega, fun c fz e => ?_⟩
    rw [hk] at e
    cases e
end
/-! ### wire.Put, wire.PutText -/
theorem wire_Put.mono_l : ∀ k, (∀ y0 y1, LeO (wire_Put.l0 k y0 y1) (wire_Put.l0 (k + 1) y0 y1))
  | 0 => fun _ _ r h => by simp [wire_Put.l0] at h
  | k + 1 => by
    have ih0 := wire_Put.mono_l k
    intro y0 y1
    unfold wire_Put.l0
    exact LeO.ite (LeO.ite (ih0 _ _) (LeO.refl _)) (LeO.refl _)
theorem wire_Put.l0_ne : ∀ k v out r, wire_Put.l0 k v out = some r → r ≠ [] ∧ ((∀ x ∈ out, 0 ≤ x ∧ x < 256) → ∀ x ∈ r, 0 ≤ x ∧ x < 256)
  | 0, _, _, _, h => by simp [wire_Put.l0] at h
  | k + 1, v, out, r, h => by
    simp only [wire_Put.l0] at h
    split at h
    · split at h
      · obtain ⟨h1, h2⟩ := wire_Put.l0_ne k _ _ _ h
        refine ⟨h1, fun ho => h2 fun x hx => ?_⟩
        rcases List.mem_append.1 hx with hx | hx
        · exact ho x hx
        · simp at hx; omega
      · obtain rfl := Option.some.inj h
        refine ⟨by simp, fun ho x hx => ?_⟩
        rcases List.mem_append.1 hx with hx | hx
        · exact ho x hx
        · simp at hx; omega
    · simp at h
theorem nums_cells (r : List Int) (h : ∀ x ∈ r, 0 ≤ x ∧ x < 256) : r.map (fun x => Value.int .u8 x) = Lib.byteCells (r.map fun n => UInt8.ofNat n.toNat) := by
  unfold Lib.byteCells
  rw [List.map_map]
  refine List.map_congr_left fun x hx => ?_
  have := h x hx
  simp only [Function.comp]
  congr 1
  simp only [UInt8.toNat_ofNat']
  omega
theorem wire_Put.l0_len : ∀ k v out r, wire_Put.l0 k v out = some r → r.length ≤ 1000
  | 0, _, _, _, h => by simp [wire_Put.l0] at h
  | k + 1, v, out, r, h => by
    simp only [wire_Put.l0] at h
    split at h
    · split at h
      · exact wire_Put.l0_len k _ _ _ h
      · obtain rfl := Option.some.inj h
        simp; omega
    · simp at h
theorem mk_append (l : List UInt8) (s : ByteArray) : (⟨(l ++ s.data.toList).toArray⟩ : ByteArray) = ⟨l.toArray⟩ ++ s := by
  apply ByteArray.ext
  simp [ByteArray.data_append]
end Go.Proofs.Ytbjacjileomglaa.P
