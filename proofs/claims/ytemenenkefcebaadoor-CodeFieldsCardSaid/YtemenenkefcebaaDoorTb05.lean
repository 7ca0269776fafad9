/- The packages' tables, as the world holds them. -/
import Derived.Test.YtemenenkefcebaaDoorProg
import Derived.Test.YtemenenkefcebaaDoorWMore
namespace Go.Proofs.YtemenenkefcebaaDoor.P
open Go.RowKit Go.Proofs.YtemenenkefcebaaDoorW.PrintWords Go.Proofs.YtemenenkefcebaaDoorW.PrintLast Go.Proofs.YtemenenkefcebaaDoorW.PrintMore
def shapesL : List Int := [0, 1, 1, 1, 2, 2, 2, 2, 3, 3, 3, 3, 4, 4, 4, 4, 5, 5, 5, 5, 6, 6, 7, 7, 8, 8, 9, 10, 10, 11, 11, 12, 9, 9, 13, 13, 13, 14, 15, 16]
def basesL : List Int := [0, 3531603968, 2457862144, 4068474880, 2432696320, 3506438144, 2969567232, 4043309056, 2449473536, 2986344448, 3523215360, 4060086272, 2332033024, 3405774848, 2868903936, 3942645760, 2315255808, 2852126720, 3388997632, 3925868544, 2600468480, 2600501248, 4181721088, 4177526784, 960495616, 956301312, 1476395008, 268435456, 2415919104, 335544320, 2483027968, 1409286144, 3019898880, 3036676096, 3592355840, 3594452992, 3596550144, 3556769793, 3573751839, 2592079872]
def fieldsL : List Int := [0, 8388607, 8388607, 8388607, 14680063, 14680063, 2064383, 4194303, 4194303, 16777215, 1627389951, 67108863, 16777199, 992, 2097120, 0, 2094079]
/-- The tables' cells. -/
structure Tabs (w : World) : Prop where
 shapes : ∀ i, i < 40 → w.cell? ⟨2, i, none⟩ = some (.int .i64 (shapesL.getD i 0))
 bases : ∀ i, i < 40 → w.cell? ⟨0, i, none⟩ = some (.int .u32 (basesL.getD i 0))
 fields : ∀ i, i < 17 → w.cell? ⟨1, i, none⟩ = some (.int .u32 (fieldsL.getD i 0))
theorem tabs_of {w w1 : World} (h : Aside0 (Tabs w)) (hb : Below w.heap.size w w1) : Aside0 (Tabs w1) :=
 ⟨⟨fun i hi => (hb.cell (World.block_lt_of_cell? w _ (h.out.shapes i hi))).trans (h.out.shapes i hi), fun i hi => (hb.cell (World.block_lt_of_cell? w _ (h.out.bases i hi))).trans (h.out.bases i hi), fun i hi => (hb.cell (World.block_lt_of_cell? w _ (h.out.fields i hi))).trans (h.out.fields i hi)⟩⟩
theorem info_i64 : (Tryd.prog.info? 3).map (fun i => (i.zero, i.size, i.bytes)) = some (some (.int .i64 0), 1, 8) := by kernel_rfl
theorem cells10 {w : World} {g t : Nat} {v0 v1 v2 v3 v4 v5 v6 v7 v8 v9 : Value} (h : w.heap[g]? = some (.cells #[v0, v1, v2, v3, v4, v5, v6, v7, v8, v9] t (0, 0))) : w.cell? ⟨g, 0, none⟩ = some v0 ∧ w.cell? ⟨g, 1, none⟩ = some v1 ∧ w.cell? ⟨g, 2, none⟩ = some v2 ∧ w.cell? ⟨g, 3, none⟩ = some v3 ∧ w.cell? ⟨g, 4, none⟩ = some v4 ∧ w.cell? ⟨g, 5, none⟩ = some v5 ∧ w.cell? ⟨g, 6, none⟩ = some v6 ∧ w.cell? ⟨g, 7, none⟩ = some v7 ∧ w.cell? ⟨g, 8, none⟩ = some v8 ∧ w.cell? ⟨g, 9, none⟩ = some v9 :=
 ⟨(blk_cell h 0).trans rfl, (blk_cell h 1).trans rfl, (blk_cell h 2).trans rfl, (blk_cell h 3).trans rfl, (blk_cell h 4).trans rfl, (blk_cell h 5).trans rfl, (blk_cell h 6).trans rfl, (blk_cell h 7).trans rfl, (blk_cell h 8).trans rfl, (blk_cell h 9).trans rfl⟩
end Go.Proofs.YtemenenkefcebaaDoor.P
