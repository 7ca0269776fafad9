/- What the rows of this seat list: the tables' cells. -/
import Derived.Test.YtgonbeifaioheaaDoorTl
import Derived.Test.YtgonbeifaioheaaDoorTb04
namespace Go.Proofs.YtgonbeifaioheaaDoor.Tl
open Go.Lib Go.Proofs.YtgonbeifaioheaaDoor.P
theorem tabs_laid {W : World} {l : List (String × DataW Unit)} (h : laidMet Tryd.prog l W) (h1 : ("cleat/inst.shapes", Rows.laid_cleat_inst_shapes) ∈ l) (h2 : ("cleat/inst.names", Rows.laid_cleat_inst_names) ∈ l) : Tabs W where
 shapes i hi := ints_at (zs := shapesL) (t := 52) (e := 3) (n := 40) (by kernel_rfl) (by kernel_rfl) Tryd.underlying52 Tryd.underlying3 (by kernel_rfl) (by kernel_rfl) h h1 i hi
 names i hi := by
  have h3 := strs_at (g := 1) (zs := namesL.map (fun s => s.data.toList)) (t := 56) (e := 9) (n := 40) (by kernel_rfl) (by kernel_rfl) Tryd.underlying56 Tryd.underlying9 (by kernel_rfl) (by kernel_rfl) h h2 i hi
  rw [h3]
  have key : ∀ i, i < 40 → (⟨((namesL.map (fun s => s.data.toList)).getD i []).toArray⟩ : ByteArray) = namesL.getD i ByteArray.empty := by decide +kernel
  rw [key i hi]
end Go.Proofs.YtgonbeifaioheaaDoor.Tl
