/- Layings of the kit's shelf of library contracts at this seat, by wip/tools/lays.py. -/
import Derived.Shelf.Lays
import Derived.Shelf.LaysM
import Derived.Shelf.Strings.BuilderX
import Derived.Test.YtpndeninbokjoaaDoorProg
namespace Go.Proofs
open Go.Shelf
def Tryd.my196_ren : Go.Shelf.Ren := ⟨fun | 196 => 49 | 259 => 62 | n => n, fun | 0 => 0 | 3 => 3 | 4 => 4 | 5 => 5 | 9 => 9 | 12 => 12 | 46 => 88 | 53 => 27 | 119 => 103 | 138 => 105 | 139 => 106 | n => n, fun | 3 => 0 | 4 => 1 | n => n⟩
theorem Tryd.my196 : Go.Proofs.Lays.n196 Tryd.prog Tryd.my196_ren := {
  mixed := by kernel_rfl
  f196 := Tryd.func49.trans (congrArg some (by kernel_rfl))
  f259 := Tryd.func62.trans (congrArg some (by kernel_rfl))
  t0 := Tryd.underlying0
  a0 := Tryd.isAgg0
  z0 := Tryd.sizeOf0
  v0 := Tryd.zeroValue0
  t3 := Tryd.underlying3
  a3 := Tryd.isAgg3
  z3 := Tryd.sizeOf3
  v3 := Tryd.zeroValue3
  t4 := Tryd.underlying4
  a4 := Tryd.isAgg4
  z4 := Tryd.sizeOf4
  v4 := Tryd.zeroValue4
  t5 := Tryd.underlying5
  a5 := Tryd.isAgg5
  z5 := Tryd.sizeOf5
  v5 := Tryd.zeroValue5
  t9 := Tryd.underlying9
  a9 := Tryd.isAgg9
  z9 := Tryd.sizeOf9
  v9 := Tryd.zeroValue9
  t12 := Tryd.underlying12
  a12 := Tryd.isAgg12
  z12 := Tryd.sizeOf12
  v12 := Tryd.zeroValue12
  t46 := Tryd.underlying88
  a46 := Tryd.isAgg88
  z46 := Tryd.sizeOf88
  v46 := Tryd.zeroValue88
  t53 := Tryd.underlying27
  a53 := Tryd.isAgg27
  z53 := Tryd.sizeOf27
  v53 := Tryd.zeroValue27
  t119 := Tryd.underlying103
  a119 := Tryd.isAgg103
  z119 := Tryd.sizeOf103
  t138 := Tryd.underlying105
  a138 := Tryd.isAgg105
  z138 := Tryd.sizeOf105
  v138 := Tryd.zeroValue105
  t139 := Tryd.underlying106
  a139 := Tryd.isAgg106
  z139 := Tryd.sizeOf106
  v139 := Tryd.zeroValue106
  g3 := by kernel_rfl
  g4 := by kernel_rfl }
def Tryd.my242_ren : Go.Shelf.Ren := ⟨fun | 242 => 73 | 278 => 82 | n => n, fun | 4 => 4 | 5 => 5 | 21 => 21 | 37 => 99 | 46 => 88 | 51 => 120 | 70 => 107 | 72 => 109 | n => n, fun  | n => n⟩
theorem Tryd.my242 : Go.Proofs.Lays.n242 Tryd.prog Tryd.my242_ren := {
  mixed := by kernel_rfl
  f242 := Tryd.func73.trans (congrArg some (by kernel_rfl))
  f278 := Tryd.func82.trans (congrArg some (by kernel_rfl))
  t4 := Tryd.underlying4
  a4 := Tryd.isAgg4
  z4 := Tryd.sizeOf4
  v4 := Tryd.zeroValue4
  t5 := Tryd.underlying5
  a5 := Tryd.isAgg5
  z5 := Tryd.sizeOf5
  v5 := Tryd.zeroValue5
  t21 := Tryd.underlying21
  a21 := Tryd.isAgg21
  z21 := Tryd.sizeOf21
  v21 := Tryd.zeroValue21
  t37 := Tryd.underlying99
  a37 := Tryd.isAgg99
  z37 := Tryd.sizeOf99
  v37 := Tryd.zeroValue99
  t46 := Tryd.underlying88
  a46 := Tryd.isAgg88
  z46 := Tryd.sizeOf88
  v46 := Tryd.zeroValue88
  t51 := Tryd.underlying120
  a51 := Tryd.isAgg120
  z51 := Tryd.sizeOf120
  v51 := Tryd.zeroValue120 }
theorem Tryd.myX242 : Builder.Extra Tryd.prog Tryd.my242_ren := {
  sizeBuilder := by kernel_rfl
  liesBuilder := by kernel_rfl
  t5 := Tryd.underlying5
  a5 := Tryd.isAgg5
  z5 := Tryd.sizeOf5
  v5 := Tryd.zeroValue5
  infoByte := by kernel_rfl
  cellsByte := by kernel_rfl
  sizeByte := by kernel_rfl
  neB5 := by decide }
end Go.Proofs
