/- The library's tables, as the world holds them. -/
import Derived.Test.YtpndeninbokjoaaDoorProg
import Derived.Test.YtpndeninbokjoaaDoorWMore
import Derived.Test.YtpndeninbokjoaaDoorShelf
import Derived.Test.YtpndeninbokjoaaDoorMy
import Derived.Shelf.Unicode.ValidAny
import Derived.Lib.LaidTab
import Derived.Lib.OthersKept
import Derived.Lib.AppendIntMem
import Derived.Laws.RangeAny
import Derived.Laws.Externs
import Derived.Laws.ResultCell
import Derived.Laws.Runes
import Derived.ScopeJumps
import Derived.WalkMore
import Derived.Maps.OwnSet
import Derived.Lib.ItoaWalk
import Derived.WalkLawsBesides
import Derived.Deep.RegionHeld3
import Derived.Recover
import Derived.Defers
import Derived.Test.YtpndeninbokjoaaDoorBd
import Derived.Test.YtpndeninbokjoaaDoorKb
import Derived.Test.YtpndeninbokjoaaDoorLx0
namespace Go.Proofs.YtpndeninbokjoaaDoor.P
open Go.RowKit Go.Proofs.YtpndeninbokjoaaDoorW.PrintWords Go.Proofs.YtpndeninbokjoaaDoorW.PrintLast Go.Proofs.YtpndeninbokjoaaDoorW.PrintMore
theorem bool_flip1 {b d : Bool} (h : (b == !d) = true) (hd : d = true) : b = false := by subst hd; cases b <;> simp_all
theorem bool_flip0 {b d : Bool} (h : (b == !d) = true) (hd : d = false) : b = true := by subst hd; cases b <;> simp_all
def db64L : List Int := [0, 1, 56, 2, 57, 49, 28, 3, 61, 58, 42, 50, 38, 29, 17, 4, 62, 47, 59, 36, 45, 43, 51, 22, 53, 39, 33, 30, 24, 18, 12, 5, 63, 55, 48, 27, 60, 41, 37, 16, 46, 35, 44, 21, 52, 32, 23, 11, 54, 26, 40, 15, 34, 20, 31, 10, 25, 14, 19, 9, 13, 8, 7, 6]
def pow10L : List Int := [1, 10, 100, 1000, 10000, 100000, 1000000, 10000000, 100000000, 1000000000, 10000000000, 100000000000, 1000000000000, 10000000000000, 100000000000000, 1000000000000000, 10000000000000000, 100000000000000000, 1000000000000000000, 10000000000000000000]
/-- The tables' cells. -/
structure Tabs (w : World) : Prop where
 u8 : Go.Lib.Utf8Tabs (Tryd.my196_ren.g 3) (Tryd.my196_ren.g 4) w
 db64 : ∀ i, i < 64 → w.cell? ⟨5, i, none⟩ = some (.int .u8 (db64L.getD i 0))
 pow10is : Go.Lib.TabIs Tryd.prog w "internal/strconv.uint64pow10" .u64 Go.Lib.pow10Tab
 pow10 : ∀ i, i < 20 → w.cell? ⟨2, i, none⟩ = some (.int .u64 (pow10L.getD i 0))
theorem tabs_of {w w1 : World} (h : Aside0 (Tabs w)) (hb : Below w.heap.size w w1) : Aside0 (Tabs w1) :=
 ⟨⟨Go.Proofs.Utf8Tabs_below h.out.u8 hb, fun i hi => (hb.cell (World.block_lt_of_cell? w _ (h.out.db64 i hi))).trans (h.out.db64 i hi), Go.Lib.tabBelow_of_tabIs h.out.pow10is w1 hb, fun i hi => (hb.cell (World.block_lt_of_cell? w _ (h.out.pow10 i hi))).trans (h.out.pow10 i hi)⟩⟩
/-- Is a text right UTF-8? -/
theorem valid_string (s : ByteArray) (w : World) (hs : s.size ≤ 9223372036854775807) (HT : Aside0 (Tabs w)) :
  Calls Tryd.prog 49 #[.string s] w fun e w' => e = .returned (.bool (Go.Lib.validD s.data.toList)) ∧ Below w.heap.size w w' :=
 Any.utf8_ValidString Tryd.my196 s w hs HT.out.u8
theorem info_i64 : (Tryd.prog.info? 3).map (fun i => (i.zero, i.size, i.bytes)) = some (some (.int .i64 0), 1, 8) := by kernel_rfl
theorem info_tok : (Tryd.prog.info? 29).map (fun i => (i.zero, i.size, i.bytes)) = some (some (.agg #[.int .i64 0, .string ⟨#[]⟩, .int .u64 0]), 3, 32) := by kernel_rfl
theorem info_str : (Tryd.prog.info? 9).map (fun i => (i.zero, i.size, i.bytes)) = some (some (.string ⟨#[]⟩), 1, 16) := by kernel_rfl
end Go.Proofs.YtpndeninbokjoaaDoor.P
