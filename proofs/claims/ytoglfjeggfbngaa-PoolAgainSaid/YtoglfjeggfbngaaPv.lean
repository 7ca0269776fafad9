/- PoolValue: eight bytes are their number's; the walk by hand. -/
import Derived.Test.YtoglfjeggfbngaaPt
import Derived.Test.YtoglfjeggfbngaaKb
namespace Go.Proofs.Ytoglfjeggfbngaa.P
open Go.RowKit Go.Maps Go.MapKept Go.ChangeMaps Go.ChangeShapes Go.WideShapes Go.Proofs.YtoglfjeggfbngaaW.PrintWords Go.Proofs.YtoglfjeggfbngaaW.PrintLast Go.Proofs.YtoglfjeggfbngaaW.PrintMore
set_option linter.unusedVariables false
set_option linter.unusedSimpArgs false
theorem bt_nums (xs : List Int) (h : ∀ x ∈ xs, 0 ≤ x ∧ x < 256) (i : Nat) (hi : i < xs.length) : bt (strOfNums xs) (i : Int) = xs[i] := by
  have hs : i < (strOfNums xs).size := by rw [strOfNums_size]; exact hi
  have hx := h xs[i] (List.getElem_mem _)
  unfold bt
  rw [Int.toNat_natCast, dif_pos hs]
  show (((strOfNums xs).data[i]).toNat : Int) = _
  simp only [strOfNums, List.getElem_toArray, List.getElem_map, UInt8.toNat_ofNat']
  omega
theorem bytes8_lt (v : Int) : ∀ x ∈ bytes8 v, 0 ≤ x ∧ x < 256 := by
  intro x hx
  simp only [bytes8, List.mem_cons, List.not_mem_nil, or_false] at hx
  rcases hx with rfl | rfl | rfl | rfl | rfl | rfl | rfl | rfl <;> omega
theorem num_0 (v : Int) (h0 : 0 ≤ v) (h1 : v < 18446744073709551616) (k : Nat) (hk : 80 ≤ k) : cleatref07_Number.l0 (k + 1) (strOfNums (bytes8 v)) (v % 1) 0 = cleatref07_Number.l0 k (strOfNums (bytes8 v)) (v % 256) 1 := by
  have hs : ((strOfNums (bytes8 v)).size : Int) = 8 := by rw [strOfNums_size]; rfl
  have hp : cleatref01_Power.f k (wrap64 (8 * 0)) = some 1 := at_rounds (fun k => cleatref01_Power.mono _ k) (k := 80) hk (by decide +kernel)
  have hb : bt (strOfNums (bytes8 v)) 0 = v % 256 := bt_nums (bytes8 v) (bytes8_lt v) 0 (by simp [bytes8])
  have hw : wrap64 (0 + 1) = 1 := by decide +kernel
  rw [cleatref07_Number.l0, hs, if_pos (by decide), if_pos (by decide), if_pos (by decide), hp, Option.bind_some, hb, hw]
  congr 1
  rw [Go.Proofs.Ytoglfjeggfbngaa.K.wu64, Go.Proofs.Ytoglfjeggfbngaa.K.wu64, Go.Proofs.Ytoglfjeggfbngaa.K.wu64]
  omega
theorem num_1 (v : Int) (h0 : 0 ≤ v) (h1 : v < 18446744073709551616) (k : Nat) (hk : 80 ≤ k) : cleatref07_Number.l0 (k + 1) (strOfNums (bytes8 v)) (v % 256) 1 = cleatref07_Number.l0 k (strOfNums (bytes8 v)) (v % 65536) 2 := by
  have hs : ((strOfNums (bytes8 v)).size : Int) = 8 := by rw [strOfNums_size]; rfl
  have hp : cleatref01_Power.f k (wrap64 (8 * 1)) = some 256 := at_rounds (fun k => cleatref01_Power.mono _ k) (k := 80) hk (by decide +kernel)
  have hb : bt (strOfNums (bytes8 v)) 1 = v / 256 % 256 := bt_nums (bytes8 v) (bytes8_lt v) 1 (by simp [bytes8])
  have hw : wrap64 (1 + 1) = 2 := by decide +kernel
  rw [cleatref07_Number.l0, hs, if_pos (by decide), if_pos (by decide), if_pos (by decide), hp, Option.bind_some, hb, hw]
  congr 1
  rw [Go.Proofs.Ytoglfjeggfbngaa.K.wu64, Go.Proofs.Ytoglfjeggfbngaa.K.wu64, Go.Proofs.Ytoglfjeggfbngaa.K.wu64]
  omega
theorem num_2 (v : Int) (h0 : 0 ≤ v) (h1 : v < 18446744073709551616) (k : Nat) (hk : 80 ≤ k) : cleatref07_Number.l0 (k + 1) (strOfNums (bytes8 v)) (v % 65536) 2 = cleatref07_Number.l0 k (strOfNums (bytes8 v)) (v % 16777216) 3 := by
  have hs : ((strOfNums (bytes8 v)).size : Int) = 8 := by rw [strOfNums_size]; rfl
  have hp : cleatref01_Power.f k (wrap64 (8 * 2)) = some 65536 := at_rounds (fun k => cleatref01_Power.mono _ k) (k := 80) hk (by decide +kernel)
  have hb : bt (strOfNums (bytes8 v)) 2 = v / 65536 % 256 := bt_nums (bytes8 v) (bytes8_lt v) 2 (by simp [bytes8])
  have hw : wrap64 (2 + 1) = 3 := by decide +kernel
  rw [cleatref07_Number.l0, hs, if_pos (by decide), if_pos (by decide), if_pos (by decide), hp, Option.bind_some, hb, hw]
  congr 1
  rw [Go.Proofs.Ytoglfjeggfbngaa.K.wu64, Go.Proofs.Ytoglfjeggfbngaa.K.wu64, Go.Proofs.Ytoglfjeggfbngaa.K.wu64]
  omega
theorem num_3 (v : Int) (h0 : 0 ≤ v) (h1 : v < 18446744073709551616) (k : Nat) (hk : 80 ≤ k) : cleatref07_Number.l0 (k + 1) (strOfNums (bytes8 v)) (v % 16777216) 3 = cleatref07_Number.l0 k (strOfNums (bytes8 v)) (v % 4294967296) 4 := by
  have hs : ((strOfNums (bytes8 v)).size : Int) = 8 := by rw [strOfNums_size]; rfl
  have hp : cleatref01_Power.f k (wrap64 (8 * 3)) = some 16777216 := at_rounds (fun k => cleatref01_Power.mono _ k) (k := 80) hk (by decide +kernel)
  have hb : bt (strOfNums (bytes8 v)) 3 = v / 16777216 % 256 := bt_nums (bytes8 v) (bytes8_lt v) 3 (by simp [bytes8])
  have hw : wrap64 (3 + 1) = 4 := by decide +kernel
  rw [cleatref07_Number.l0, hs, if_pos (by decide), if_pos (by decide), if_pos (by decide), hp, Option.bind_some, hb, hw]
  congr 1
  rw [Go.Proofs.Ytoglfjeggfbngaa.K.wu64, Go.Proofs.Ytoglfjeggfbngaa.K.wu64, Go.Proofs.Ytoglfjeggfbngaa.K.wu64]
  omega
theorem num_4 (v : Int) (h0 : 0 ≤ v) (h1 : v < 18446744073709551616) (k : Nat) (hk : 80 ≤ k) : cleatref07_Number.l0 (k + 1) (strOfNums (bytes8 v)) (v % 4294967296) 4 = cleatref07_Number.l0 k (strOfNums (bytes8 v)) (v % 1099511627776) 5 := by
  have hs : ((strOfNums (bytes8 v)).size : Int) = 8 := by rw [strOfNums_size]; rfl
  have hp : cleatref01_Power.f k (wrap64 (8 * 4)) = some 4294967296 := at_rounds (fun k => cleatref01_Power.mono _ k) (k := 80) hk (by decide +kernel)
  have hb : bt (strOfNums (bytes8 v)) 4 = v / 4294967296 % 256 := bt_nums (bytes8 v) (bytes8_lt v) 4 (by simp [bytes8])
  have hw : wrap64 (4 + 1) = 5 := by decide +kernel
  rw [cleatref07_Number.l0, hs, if_pos (by decide), if_pos (by decide), if_pos (by decide), hp, Option.bind_some, hb, hw]
  congr 1
  rw [Go.Proofs.Ytoglfjeggfbngaa.K.wu64, Go.Proofs.Ytoglfjeggfbngaa.K.wu64, Go.Proofs.Ytoglfjeggfbngaa.K.wu64]
  omega
theorem num_5 (v : Int) (h0 : 0 ≤ v) (h1 : v < 18446744073709551616) (k : Nat) (hk : 80 ≤ k) : cleatref07_Number.l0 (k + 1) (strOfNums (bytes8 v)) (v % 1099511627776) 5 = cleatref07_Number.l0 k (strOfNums (bytes8 v)) (v % 281474976710656) 6 := by
  have hs : ((strOfNums (bytes8 v)).size : Int) = 8 := by rw [strOfNums_size]; rfl
  have hp : cleatref01_Power.f k (wrap64 (8 * 5)) = some 1099511627776 := at_rounds (fun k => cleatref01_Power.mono _ k) (k := 80) hk (by decide +kernel)
  have hb : bt (strOfNums (bytes8 v)) 5 = v / 1099511627776 % 256 := bt_nums (bytes8 v) (bytes8_lt v) 5 (by simp [bytes8])
  have hw : wrap64 (5 + 1) = 6 := by decide +kernel
  rw [cleatref07_Number.l0, hs, if_pos (by decide), if_pos (by decide), if_pos (by decide), hp, Option.bind_some, hb, hw]
  congr 1
  rw [Go.Proofs.Ytoglfjeggfbngaa.K.wu64, Go.Proofs.Ytoglfjeggfbngaa.K.wu64, Go.Proofs.Ytoglfjeggfbngaa.K.wu64]
  omega
theorem num_6 (v : Int) (h0 : 0 ≤ v) (h1 : v < 18446744073709551616) (k : Nat) (hk : 80 ≤ k) : cleatref07_Number.l0 (k + 1) (strOfNums (bytes8 v)) (v % 281474976710656) 6 = cleatref07_Number.l0 k (strOfNums (bytes8 v)) (v % 72057594037927936) 7 := by
  have hs : ((strOfNums (bytes8 v)).size : Int) = 8 := by rw [strOfNums_size]; rfl
  have hp : cleatref01_Power.f k (wrap64 (8 * 6)) = some 281474976710656 := at_rounds (fun k => cleatref01_Power.mono _ k) (k := 80) hk (by decide +kernel)
  have hb : bt (strOfNums (bytes8 v)) 6 = v / 281474976710656 % 256 := bt_nums (bytes8 v) (bytes8_lt v) 6 (by simp [bytes8])
  have hw : wrap64 (6 + 1) = 7 := by decide +kernel
  rw [cleatref07_Number.l0, hs, if_pos (by decide), if_pos (by decide), if_pos (by decide), hp, Option.bind_some, hb, hw]
  congr 1
  rw [Go.Proofs.Ytoglfjeggfbngaa.K.wu64, Go.Proofs.Ytoglfjeggfbngaa.K.wu64, Go.Proofs.Ytoglfjeggfbngaa.K.wu64]
  omega
theorem num_7 (v : Int) (h0 : 0 ≤ v) (h1 : v < 18446744073709551616) (k : Nat) (hk : 80 ≤ k) : cleatref07_Number.l0 (k + 1) (strOfNums (bytes8 v)) (v % 72057594037927936) 7 = cleatref07_Number.l0 k (strOfNums (bytes8 v)) (v % 18446744073709551616) 8 := by
  have hs : ((strOfNums (bytes8 v)).size : Int) = 8 := by rw [strOfNums_size]; rfl
  have hp : cleatref01_Power.f k (wrap64 (8 * 7)) = some 72057594037927936 := at_rounds (fun k => cleatref01_Power.mono _ k) (k := 80) hk (by decide +kernel)
  have hb : bt (strOfNums (bytes8 v)) 7 = v / 72057594037927936 % 256 := bt_nums (bytes8 v) (bytes8_lt v) 7 (by simp [bytes8])
  have hw : wrap64 (7 + 1) = 8 := by decide +kernel
  rw [cleatref07_Number.l0, hs, if_pos (by decide), if_pos (by decide), if_pos (by decide), hp, Option.bind_some, hb, hw]
  congr 1
  rw [Go.Proofs.Ytoglfjeggfbngaa.K.wu64, Go.Proofs.Ytoglfjeggfbngaa.K.wu64, Go.Proofs.Ytoglfjeggfbngaa.K.wu64]
  omega
theorem number_bytes (v : Int) (h0 : 0 ≤ v) (h1 : v < 18446744073709551616) : cleatref07_Number.f 100 (strOfNums (bytes8 v)) = some v := by
  have hs : ((strOfNums (bytes8 v)).size : Int) = 8 := by rw [strOfNums_size]; rfl
  unfold cleatref07_Number.f
  have e : (0 : Int) = v % 1 := by omega
  conv => lhs; arg 3; rw [e]
  rw [num_0 v h0 h1 99 (by decide), num_1 v h0 h1 98 (by decide), num_2 v h0 h1 97 (by decide), num_3 v h0 h1 96 (by decide), num_4 v h0 h1 95 (by decide), num_5 v h0 h1 94 (by decide), num_6 v h0 h1 93 (by decide), num_7 v h0 h1 92 (by decide)]
  rw [cleatref07_Number.l0, hs, if_neg (by decide)]
  congr 1
  omega
end Go.Proofs.Ytoglfjeggfbngaa.P
