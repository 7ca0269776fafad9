/- The library's tables, as the world holds them. -/
import Derived.Test.YtghpbbdmljobjaaDoorProg
import Derived.Test.YtghpbbdmljobjaaDoorWMore
import Derived.Test.YtghpbbdmljobjaaDoorShelf
import Derived.Test.YtghpbbdmljobjaaDoorMy
import Derived.Shelf.Unicode.ValidAny
import Derived.Lib.OthersKept
import Derived.Lib.AppendIntMem
import Derived.Laws.RangeAny
import Derived.Laws.ResultCell
import Derived.Laws.Runes
import Derived.ScopeJumps
import Derived.WalkMore
import Derived.Maps.OwnSet
import Derived.Lib.ItoaWalk
import Derived.Test.YtghpbbdmljobjaaDoorBd
import Derived.Test.YtghpbbdmljobjaaDoorKb
import Derived.Test.YtghpbbdmljobjaaDoorLx0
namespace Go.Proofs.YtghpbbdmljobjaaDoor.P
open Go.RowKit Go.Proofs.YtghpbbdmljobjaaDoorW.PrintWords Go.Proofs.YtghpbbdmljobjaaDoorW.PrintLast Go.Proofs.YtghpbbdmljobjaaDoorW.PrintMore
/-- The tables' cells. -/
structure Tabs (w : World) : Prop where
  u8 : Go.Lib.Utf8Tabs (Tryd.my196_ren.g 3) (Tryd.my196_ren.g 4) w
theorem tabs_of {w w1 : World} (h : Aside0 (Tabs w)) (hb : Below w.heap.size w w1) : Aside0 (Tabs w1) :=
  ⟨⟨Go.Proofs.Utf8Tabs_below h.out.u8 hb⟩⟩
/-- Is a text right UTF-8? -/
theorem valid_string (s : ByteArray) (w : World) (hs : s.size ≤ 9223372036854775807) (HT : Aside0 (Tabs w)) :
    Calls Tryd.prog 20 #[.string s] w fun e w' => e = .returned (.bool (Go.Lib.validD s.data.toList)) ∧ Below w.heap.size w w' :=
  Any.utf8_ValidString Tryd.my196 s w hs HT.out.u8
theorem info_i64 : (Tryd.prog.info? 3).map (fun i => (i.zero, i.size, i.bytes)) = some (some (.int .i64 0), 1, 8) := by kernel_rfl
theorem info_tok : (Tryd.prog.info? 31).map (fun i => (i.zero, i.size, i.bytes)) = some (some (.agg #[.int .i64 0, .string ⟨#[]⟩, .int .u64 0]), 3, 32) := by kernel_rfl
end Go.Proofs.YtghpbbdmljobjaaDoor.P
