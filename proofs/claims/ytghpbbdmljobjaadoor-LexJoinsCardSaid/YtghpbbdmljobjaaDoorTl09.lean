/- What the rows of this seat list: the tables' cells. -/
import Derived.Test.YtghpbbdmljobjaaDoorTl
import Derived.Test.YtghpbbdmljobjaaDoorTb09
import Derived.Lib.LaidU8T
import Derived.PinnedBridge
namespace Go.Proofs.YtghpbbdmljobjaaDoor.Tl
open Go.Lib Go.Proofs.YtghpbbdmljobjaaDoor.P
theorem u8x : U8Extra Tryd.prog Tryd.my196_ren where
  n3 := by kernel_rfl
  n4 := by kernel_rfl
  y3 := by kernel_rfl
  y4 := by kernel_rfl
  c5 := by kernel_rfl
  c119 := by kernel_rfl
  c138 := by kernel_rfl
theorem tabs_laid {W : World} {l : List (String × DataW Unit)} (h : laidMet Tryd.prog l W) (h1 : ("unicode/utf8.acceptRanges", Rows.laid_unicode_utf8_acceptRanges) ∈ l) (h2 : ("unicode/utf8.first", Rows.laid_unicode_utf8_first) ∈ l) : Tabs W where
  u8 := by
    have e1 : (Rows.laid_unicode_utf8_acceptRanges : DataW Unit) = acceptData := by kernel_rfl
    have r1 := Go.Lib.laidMet.reads h h1
    have r2 := Go.Lib.laidMet.reads h h2
    rw [e1] at r1
    rw [show (Rows.laid_unicode_utf8_first : DataW Unit) = firstData from Go.Pinned.utf8First_eq] at r2
    exact utf8Tabs_of_readsT (U8Types.of196 Tryd.my196) u8x r2 r1
end Go.Proofs.YtghpbbdmljobjaaDoor.Tl
