/- What the rows of this seat list: the tables' cells. -/
import Derived.Test.YtefofaamhaiejaaDoorTl
import Derived.Test.YtefofaamhaiejaaDoorTb10
namespace Go.Proofs.YtefofaamhaiejaaDoor.Tl
open Go.Lib Go.Proofs.YtefofaamhaiejaaDoor.P
theorem tabs_laid {W : World} {l : List (String × DataW Unit)} (h : laidMet Tryd.prog l W) (_ : ("math/bits.deBruijn32tab", Rows.laid_math_bits_deBruijn32tab) ∈ l) (h1 : ("math/bits.deBruijn64tab", Rows.laid_math_bits_deBruijn64tab) ∈ l) (h2 : ("internal/strconv.uint64pow10", Rows.laid_internal_strconv_uint64pow10) ∈ l) : Tabs W where
  db64 i hi := ints_at (zs := db64L) (t := 64) (e := 5) (n := 64) (by kernel_rfl) (by kernel_rfl) Tryd.underlying64 Tryd.underlying5 (by kernel_rfl) (by kernel_rfl) h h1 i hi
  pow10is := tab_at (g := 0) (zs := pow10Tab) (t := 57) (e := 22) (n := 20) (by kernel_rfl) (by kernel_rfl) Tryd.underlying57 Tryd.underlying22 (by kernel_rfl) (by kernel_rfl) h h2
  pow10 i hi := ints_at (zs := pow10L) (t := 57) (e := 22) (n := 20) (by kernel_rfl) (by kernel_rfl) Tryd.underlying57 Tryd.underlying22 (by kernel_rfl) (by kernel_rfl) h h2 i hi
end Go.Proofs.YtefofaamhaiejaaDoor.Tl
