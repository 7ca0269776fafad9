/- What the rows of this seat list: the tables' cells. -/
import Derived.Test.YtemenenkefcebaaDoorTl
import Derived.Test.YtemenenkefcebaaDoorTb05
namespace Go.Proofs.YtemenenkefcebaaDoor.Tl
open Go.Lib Go.Proofs.YtemenenkefcebaaDoor.P
theorem tabs_laid {W : World} {l : List (String × DataW Unit)} (h : laidMet Tryd.prog l W) (h1 : ("cleat/inst.shapes", Rows.laid_cleat_inst_shapes) ∈ l) (h2 : ("cleat/code.bases", Rows.laid_cleat_code_bases) ∈ l) (h3 : ("cleat/code.fields", Rows.laid_cleat_code_fields) ∈ l) : Tabs W where
 shapes i hi := ints_at (zs := shapesL) (t := 57) (e := 3) (n := 40) (by kernel_rfl) (by kernel_rfl) Tryd.underlying57 Tryd.underlying3 (by kernel_rfl) (by kernel_rfl) h h1 i hi
 bases i hi := ints_at (zs := basesL) (t := 44) (e := 25) (n := 40) (by kernel_rfl) (by kernel_rfl) Tryd.underlying44 Tryd.underlying25 (by kernel_rfl) (by kernel_rfl) h h2 i hi
 fields i hi := ints_at (zs := fieldsL) (t := 55) (e := 25) (n := 17) (by kernel_rfl) (by kernel_rfl) Tryd.underlying55 Tryd.underlying25 (by kernel_rfl) (by kernel_rfl) h h3 i hi
end Go.Proofs.YtemenenkefcebaaDoor.Tl
