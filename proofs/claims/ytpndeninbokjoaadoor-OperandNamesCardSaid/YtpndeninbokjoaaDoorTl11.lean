/- What the rows of this seat list: the tables' cells. -/
import Derived.Test.YtpndeninbokjoaaDoorTl
import Derived.Test.YtpndeninbokjoaaDoorTb11
import Derived.Lib.LaidU8T
import Derived.PinnedBridge
namespace Go.Proofs.YtpndeninbokjoaaDoor.Tl
open Go.Lib Go.Proofs.YtpndeninbokjoaaDoor.P
theorem u8x : U8Extra Tryd.prog Tryd.my196_ren where
 n3 := by kernel_rfl
 n4 := by kernel_rfl
 y3 := by kernel_rfl
 y4 := by kernel_rfl
 c5 := by kernel_rfl
 c119 := by kernel_rfl
 c138 := by kernel_rfl
theorem tabs_laid {W : World} {l : List (String × DataW Unit)} (h : laidMet Tryd.prog l W) (_ : ("math/bits.deBruijn32tab", Rows.laid_math_bits_deBruijn32tab) ∈ l) (h1 : ("math/bits.deBruijn64tab", Rows.laid_math_bits_deBruijn64tab) ∈ l) (h2 : ("internal/strconv.uint64pow10", Rows.laid_internal_strconv_uint64pow10) ∈ l) (h3 : ("unicode/utf8.acceptRanges", Rows.laid_unicode_utf8_acceptRanges) ∈ l) (h4 : ("unicode/utf8.first", Rows.laid_unicode_utf8_first) ∈ l) : Tabs W where
 u8 := by
  have e1 : (Rows.laid_unicode_utf8_acceptRanges : DataW Unit) = acceptData := by kernel_rfl
  have r1 := Go.Lib.laidMet.reads h h3
  have r2 := Go.Lib.laidMet.reads h h4
  rw [e1] at r1
  rw [show (Rows.laid_unicode_utf8_first : DataW Unit) = firstData from Go.Pinned.utf8First_eq] at r2
  exact utf8Tabs_of_readsT (U8Types.of196 Tryd.my196) u8x r2 r1
 db64 i hi := ints_at (zs := db64L) (t := 134) (e := 5) (n := 64) (by kernel_rfl) (by kernel_rfl) Tryd.underlying134 Tryd.underlying5 (by kernel_rfl) (by kernel_rfl) h h1 i hi
 pow10is := tab_at (g := 2) (zs := pow10Tab) (t := 119) (e := 27) (n := 20) (by kernel_rfl) (by kernel_rfl) Tryd.underlying119 Tryd.underlying27 (by kernel_rfl) (by kernel_rfl) h h2
 pow10 i hi := ints_at (zs := pow10L) (t := 119) (e := 27) (n := 20) (by kernel_rfl) (by kernel_rfl) Tryd.underlying119 Tryd.underlying27 (by kernel_rfl) (by kernel_rfl) h h2 i hi
end Go.Proofs.YtpndeninbokjoaaDoor.Tl
