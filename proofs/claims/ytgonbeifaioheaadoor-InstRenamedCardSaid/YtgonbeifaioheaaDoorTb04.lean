/- The package's tables, as the world holds them. -/
import Derived.Test.YtgonbeifaioheaaDoorProg
import Derived.Test.YtgonbeifaioheaaDoorWMore
namespace Go.Proofs.YtgonbeifaioheaaDoor.P
open Go.RowKit Go.Proofs.YtgonbeifaioheaaDoorW.PrintWords Go.Proofs.YtgonbeifaioheaaDoorW.PrintLast Go.Proofs.YtgonbeifaioheaaDoorW.PrintMore
def shapesL : List Int := [0, 1, 1, 1, 2, 2, 2, 2, 3, 3, 3, 3, 4, 4, 4, 4, 5, 5, 5, 5, 6, 6, 7, 7, 8, 8, 9, 10, 10, 11, 11, 12, 9, 9, 13, 13, 13, 14, 15, 16]
def namesL : List ByteArray := [⟨#[]⟩, ⟨#[109, 111, 118, 122]⟩, ⟨#[109, 111, 118, 110]⟩, ⟨#[109, 111, 118, 107]⟩, ⟨#[97, 100, 100]⟩, ⟨#[115, 117, 98]⟩, ⟨#[97, 100, 100, 115]⟩, ⟨#[115, 117, 98, 115]⟩, ⟨#[97, 110, 100]⟩, ⟨#[111, 114, 114]⟩, ⟨#[101, 111, 114]⟩, ⟨#[97, 110, 100, 115]⟩, ⟨#[97, 100, 100]⟩, ⟨#[115, 117, 98]⟩, ⟨#[97, 100, 100, 115]⟩, ⟨#[115, 117, 98, 115]⟩, ⟨#[97, 110, 100]⟩, ⟨#[111, 114, 114]⟩, ⟨#[101, 111, 114]⟩, ⟨#[97, 110, 100, 115]⟩, ⟨#[109, 97, 100, 100]⟩, ⟨#[109, 115, 117, 98]⟩, ⟨#[108, 100, 114]⟩, ⟨#[115, 116, 114]⟩, ⟨#[108, 100, 114, 98]⟩, ⟨#[115, 116, 114, 98]⟩, ⟨#[108, 100, 114]⟩, ⟨#[97, 100, 114]⟩, ⟨#[97, 100, 114, 112]⟩, ⟨#[98]⟩, ⟨#[98, 108]⟩, ⟨#[98]⟩, ⟨#[99, 98, 122]⟩, ⟨#[99, 98, 110, 122]⟩, ⟨#[98, 114]⟩, ⟨#[98, 108, 114]⟩, ⟨#[114, 101, 116]⟩, ⟨#[115, 118, 99]⟩, ⟨#[110, 111, 112]⟩, ⟨#[99, 115, 101, 108]⟩]
/-- The tables' cells. -/
structure Tabs (w : World) : Prop where
  shapes : ∀ i, i < 40 → w.cell? ⟨0, i, none⟩ = some (.int .i64 (shapesL.getD i 0))
  names : ∀ i, i < 40 → w.cell? ⟨1, i, none⟩ = some (.string (namesL.getD i ByteArray.empty))
theorem tabs_of {w w1 : World} (h : Aside0 (Tabs w)) (hb : Below w.heap.size w w1) : Aside0 (Tabs w1) :=
  ⟨⟨fun i hi => (hb.cell (World.block_lt_of_cell? w _ (h.out.shapes i hi))).trans (h.out.shapes i hi), fun i hi => (hb.cell (World.block_lt_of_cell? w _ (h.out.names i hi))).trans (h.out.names i hi)⟩⟩
theorem info_i64 : (Tryd.prog.info? 3).map (fun i => (i.zero, i.size, i.bytes)) = some (some (.int .i64 0), 1, 8) := by kernel_rfl
theorem cells10 {w : World} {g t : Nat} {v0 v1 v2 v3 v4 v5 v6 v7 v8 v9 : Value} (h : w.heap[g]? = some (.cells #[v0, v1, v2, v3, v4, v5, v6, v7, v8, v9] t (0, 0))) : w.cell? ⟨g, 0, none⟩ = some v0 ∧ w.cell? ⟨g, 1, none⟩ = some v1 ∧ w.cell? ⟨g, 2, none⟩ = some v2 ∧ w.cell? ⟨g, 3, none⟩ = some v3 ∧ w.cell? ⟨g, 4, none⟩ = some v4 ∧ w.cell? ⟨g, 5, none⟩ = some v5 ∧ w.cell? ⟨g, 6, none⟩ = some v6 ∧ w.cell? ⟨g, 7, none⟩ = some v7 ∧ w.cell? ⟨g, 8, none⟩ = some v8 ∧ w.cell? ⟨g, 9, none⟩ = some v9 :=
  ⟨(blk_cell h 0).trans rfl, (blk_cell h 1).trans rfl, (blk_cell h 2).trans rfl, (blk_cell h 3).trans rfl, (blk_cell h 4).trans rfl, (blk_cell h 5).trans rfl, (blk_cell h 6).trans rfl, (blk_cell h 7).trans rfl, (blk_cell h 8).trans rfl, (blk_cell h 9).trans rfl⟩
end Go.Proofs.YtgonbeifaioheaaDoor.P
