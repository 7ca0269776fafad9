-- printed by wip/tools/myprint.py out of the translation. Not trusted: Lean checks it.
import Derived.Test.YtmolcgkahhdkgaaDoorPx0
namespace Go.Proofs.YtmolcgkahhdkgaaDoor.P
open Go.RowKit Go.Proofs.YtmolcgkahhdkgaaDoorW.PrintWords Go.Proofs.YtmolcgkahhdkgaaDoorW.PrintLast Go.Proofs.YtmolcgkahhdkgaaDoorW.PrintMore
attribute [local go_sem] max2_int min2_int max_two min_two max_three min_three max_four min_four   -- for this text's walks alone
set_option linter.unusedVariables false
set_option linter.unusedSimpArgs false

-- NOT PRINTED: function 59 (strconv_log10Pow2)

-- NOT PRINTED: function 60 (bits_Len64)

-- NOT PRINTED: function 61 (strconv_bool2_int)

-- NOT PRINTED: function 49 (strconv_numDigits)

-- NOT PRINTED: function 50 (strconv_formatBase10)

/-! ### strconv_isPowerOfTwo: function 62 -/
def strconv_isPowerOfTwo.f (a0 : Int) : Option (Bool) := some ((Go.bits .and .i64 a0 (wrap64 (a0 - 1))) == 0)
set_option maxHeartbeats 8000000 in
set_option maxRecDepth 100000 in
theorem strconv_isPowerOfTwo.calls (a0 : Int) (r : Bool) (w : World) (h : strconv_isPowerOfTwo.f a0 = some r) :
  Calls Tryd.prog 62 #[.int .i64 a0] w fun e w' => e = .returned (.bool r) ∧ Drawn0 w w' := by
 have H : (some ((Go.bits .and .i64 a0 (wrap64 (a0 - 1))) == 0)) = some r := h
 clear h
 obtain rfl := Option.some.inj H
 go_enter Tryd.func62, Tryd.ntmps62
 go_wp2
 go_ret
 exact ⟨by first | rfl | (simp; done) | (simp [*]; done), by repeat (first | exact Drawn0.refl _ | apply Drawn0.step)⟩

-- NOT PRINTED: function 67 (bits_TrailingZeros32)

/-! ### bits_TrailingZeros64: function 68 -/
def bits_TrailingZeros64.f (a0 : Int) : Option Int := if a0 = 16 then some 4 else none
theorem bits_TrailingZeros64.calls (a0 : Int) (r : Int) (w : World) (h : bits_TrailingZeros64.f a0 = some r) (HT : Aside0 (Tabs w)) :
    Calls Tryd.prog 68 #[.int .u64 a0] w fun e w' => e = .returned (.int .i64 r) ∧ Drawn0 w w' := by
  unfold bits_TrailingZeros64.f at h
  by_cases hb : a0 = 16
  · rw [if_pos hb] at h
    obtain rfl := Option.some.inj h
    subst hb
    have hc : w.cell? ⟨5, 15, none⟩ = some (.int .u8 4) := HT.out.db64 15 (by decide)
    clear h
    have hx : IntKind.u64.wrap (Go.bits BinOp.and IntKind.u64 16 (IntKind.u64.wrap (-16)) * 285870213051353865) / 288230376151711744 = 15 := by decide +kernel
    go_enter Tryd.func68, Tryd.ntmps68
    go_wp2
    go_ret
    exact ⟨rfl, Drawn0.refl _⟩
  · rw [if_neg hb] at h
    cases h

/-! ### bits_TrailingZeros: function 63 -/
def bits_TrailingZeros.f (a0 : Int) : Option Int := if a0 = 16 then some 4 else none
theorem bits_TrailingZeros.calls (a0 : Int) (r : Int) (w : World) (h : bits_TrailingZeros.f a0 = some r) (HT : Aside0 (Tabs w)) :
    Calls Tryd.prog 63 #[.int .u64 a0] w fun e w' => e = .returned (.int .i64 r) ∧ Drawn0 w w' := by
  have hx := bits_TrailingZeros64.calls a0 r w (by exact h) HT
  have HX := Aside0.mk hx
  clear hx h HT
  go_enter Tryd.func63, Tryd.ntmps63
  go_wp2_with (fail)
  refine HX.out.mono ?_
  rintro e w' ⟨rfl, ⟨nd, rfl⟩⟩
  go_wp2
  go_ret
  exact ⟨rfl, ⟨⟨_, rfl⟩⟩⟩

-- NOT PRINTED: function 51 (strconv_formatBits)

/-! ### strconv_FormatUint_47: function 47 -/
/-! ### digits of ten and of sixteen -/
def hexC (n : Nat) : UInt8 := ([48, 49, 50, 51, 52, 53, 54, 55, 56, 57, 97, 98, 99, 100, 101, 102] : List UInt8).getD n 0
def hexL : Nat → Nat → List UInt8
  | 0, _ => []
  | f + 1, n => if n < 16 then [hexC n] else hexL f (n / 16) ++ [hexC (n % 16)]
def digC : ByteArray := ⟨#[48, 49, 50, 51, 52, 53, 54, 55, 56, 57, 97, 98, 99, 100, 101, 102, 103, 104, 105, 106, 107, 108, 109, 110, 111, 112, 113, 114, 115, 116, 117, 118, 119, 120, 121, 122]⟩
theorem digC_at : ∀ n : Fin 16, digC.data.toList.getD n.val 0 = hexC n.val := by decide +kernel
theorem idx_digC (n : Nat) (k : IntKind) (z : Int) (hz : z = (n : Int)) (hn : n < 16) (w : World) : (Instr.index 9 (.string (⟨#[48, 49, 50, 51, 52, 53, 54, 55, 56, 57, 97, 98, 99, 100, 101, 102, 103, 104, 105, 106, 107, 108, 109, 110, 111, 112, 113, 114, 115, 116, 117, 118, 119, 120, 121, 122]⟩ : ByteArray)) (.int k z)).run Tryd.prog w = .ok (.int .u8 ((hexC n).toNat : Int)) w := by
  subst hz
  have hs : n < digC.size := by show n < 36; omega
  have h := digC_at ⟨n, hn⟩
  show (Instr.index 9 (.string digC) (.int k (n : Int))).run Tryd.prog w = _
  rw [run_index_string w 9 digC k _ Tryd.underlying9, dif_pos ⟨by omega, by omega⟩]
  have e : ((n : Int)).toNat = n := by omega
  simp only [e]
  rw [Go.Lib.getD_at digC n hs, h]
/-! ### the buffer of formatBits -/
abbrev encB : UInt8 → Value := fun (b : UInt8) => Value.int .u8 (b.toNat : Int)
abbrev bufW (w : World) (dk : Array UInt8) (n : Nat) : World := (Go.Sort.putRow encB (w.alloc (.cells (Array.replicate 65 (.int .u8 0)) 110)) w.heap.size 0 dk).drewN n
theorem buf_holds (w : World) : Go.Sort.Holds encB (w.alloc (.cells (Array.replicate 65 (.int .u8 0)) 110)) w.heap.size 0 (Array.replicate 65 (0 : UInt8)) := fun j hj => by
  have hj' : j < 65 := by simpa using hj
  refine ⟨?_, World.frozen?_alloc_new _ _ _ _⟩
  rw [World.cell?_alloc_new, getElem!_pos _ j hj, Array.getElem?_replicate, if_pos (by omega)]
  simp
/-- What holds at the loop's head. -/
structure BufI (v u i : Nat) (dk : Array UInt8) : Prop where
  size : dk.size = 65
  lo : 50 ≤ i
  hi : i ≤ 65
  lt : u < 16 ^ (i - 49)
  eq : hexL (i - 49) u ++ dk.toList.drop i = hexL 16 v
theorem BufI.start (v : Nat) (hv : v < 18446744073709551616) : BufI v v 65 (Array.replicate 65 0) :=
  ⟨by simp, by omega, by omega, hv, by simp⟩
theorem BufI.facts {v u i : Nat} {dk : Array UInt8} (h : BufI v u i dk) : dk.size = 65 ∧ 50 ≤ i ∧ i ≤ 65 ∧ u < 18446744073709551616 := by
  refine ⟨h.size, h.lo, h.hi, Nat.lt_of_lt_of_le h.lt ?_⟩
  have : 16 ^ (i - 49) ≤ 16 ^ 16 := Nat.pow_le_pow_right (by omega) (by have := h.hi; omega)
  exact this
theorem hexL_lt (n : Nat) (h : n < 16) : ∀ f, 0 < f → hexL f n = [hexC n]
  | 0, h0 => absurd h0 (by omega)
  | f + 1, _ => by rw [hexL, if_pos h]
theorem drop_set (dk : Array UInt8) (j : Nat) (x : UInt8) (h : j < dk.size) : (dk.setIfInBounds j x).toList.drop j = x :: dk.toList.drop (j + 1) := by
  rw [Array.toList_setIfInBounds, List.drop_eq_getElem_cons (by simpa using h)]
  simp [List.drop_set_of_lt]
theorem BufI.step {v u j : Nat} {dk : Array UInt8} (h : BufI v u (j + 1) dk) (h16 : 16 ≤ u) : BufI v (u / 16) j (dk.setIfInBounds j (hexC (u % 16))) := by
  have h1 := h.lo
  have h2 := h.hi
  have h3 := h.size
  obtain ⟨f, hf⟩ : ∃ f, j + 1 - 49 = f + 1 := ⟨j - 49, by omega⟩
  have hf' : j - 49 = f := by omega
  have hlt := h.lt
  have heq := h.eq
  rw [hf] at hlt heq
  have hf0 : f ≠ 0 := fun e => by subst e; simp at hlt; omega
  refine ⟨by simpa using h3, by omega, by omega, ?_, ?_⟩
  · rw [hf']
    rw [Nat.pow_succ] at hlt
    exact Nat.div_lt_of_lt_mul (by rw [Nat.mul_comm]; exact hlt)
  · rw [hf', drop_set dk j _ (by omega), ← heq, hexL, if_neg (by omega), List.append_assoc]
    rfl
theorem BufI.last {v u j : Nat} {dk : Array UInt8} (h : BufI v u (j + 1) dk) (h16 : u < 16) : hexL 16 v = hexC u :: dk.toList.drop (j + 1) := by
  have h1 := h.lo
  have heq := h.eq
  rw [hexL_lt u h16 _ (by omega)] at heq
  exact heq.symm
theorem BufI.length {v u j : Nat} {dk : Array UInt8} (h : BufI v u (j + 1) dk) (h16 : u < 16) : (hexL 16 v).length = 65 - j := by
  have h1 := h.lo
  have h2 := h.hi
  have h3 := h.size
  rw [h.last h16]
  simp [h3]
  omega
theorem bufW_store (w : World) (dk : Array UInt8) (n j : Nat) (x : UInt8) (h : j < dk.size) : (bufW w dk n).setCell ⟨w.heap.size, j, none⟩ (.int .u8 (x.toNat : Int)) = bufW w (dk.setIfInBounds j x) n := by
  have e := Go.Lib.store1_world (w.alloc (.cells (Array.replicate 65 (.int .u8 0)) 110)) w.heap.size 0 dk n j x h
  rw [Nat.zero_add] at e
  exact e
theorem bufW_below (w : World) (dk : Array UInt8) (n : Nat) : Below w.heap.size w (bufW w dk n) := by
  obtain ⟨os, e⟩ := Go.Lib.fin_at w (.cells (Array.replicate 65 (.int .u8 0)) 110) dk n 0
  unfold bufW
  rw [e]
  exact Go.Lib.below_grow _ w (Nat.le_refl _) n os
set_option maxHeartbeats 4000000 in
set_option maxRecDepth 100000 in
theorem strconv_formatBits16 (v : Nat) (w : World) (hv : v < 18446744073709551616) (HT : Aside0 (Tabs w)) :
    Calls Tryd.prog 51 #[.slice none 0 0, .int .u64 (v : Int), .int .i64 16, .bool false, .bool false] w fun e w' => e = .returned (.tuple #[.slice none 0 0, .string ⟨(hexL 16 v).toArray⟩]) ∧ Below w.heap.size w w' := by
  have hz : ∀ W : World, Sem.run Tryd.prog (zeroValue 110) W = .ok (.agg (Array.replicate 65 (.int .u8 0))) W := fun W => by rfl
  have HP := Aside0.mk (strconv_isPowerOfTwo.calls 16 true (w.alloc (.cells (Array.replicate 65 (.int .u8 0)) 110)) (by decide +kernel))
  have HZ := Aside0.mk (fun W (h : Aside0 (Tabs W)) => bits_TrailingZeros.calls 16 4 W rfl h)
  have HT1 : Aside0 (Tabs (w.alloc (.cells (Array.replicate 65 (.int .u8 0)) 110))) := tabs_of HT (below_alloc (Below.refl _ _) _)
  go_enter Tryd.func51, Tryd.ntmps51
  go_wp2_with (fail)
  refine (HP.out).mono ?_
  rintro e w1 ⟨rfl, ⟨nd, rfl⟩⟩
  go_wp2_with (fail)
  refine (HZ.out _ (tabs_of HT1 (pw_below_drewN (Below.refl _ _) _))).mono ?_
  rintro e w1 ⟨rfl, ⟨nd2, rfl⟩⟩
  clear HP HZ HT HT1
  go_wp2
  have HB0 := Aside0.mk (buf_holds w)
  go_loopw [1, 13] (fun vu vi wr => ∃ (u i n : Nat) (dk : Array UInt8), vu = .int .u64 (u : Int) ∧ vi = .int .i64 (i : Int) ∧ Aside0 (wr = bufW w dk n) ∧ Aside0 (BufI v u i dk)) (fun _ vi _ => (intOf vi).toNat)
  case atStart => exact ⟨v, 65, nd + nd2, Array.replicate 65 0, rfl, rfl, ⟨by unfold bufW; rw [Go.Sort.putRow_self _ _ _ _ _ HB0.out]⟩, ⟨BufI.start v hv⟩⟩
  case round =>
    obtain ⟨u, i, n, dk, rfl, rfl, HW, HI⟩ := hrel
    rename World => W0
    obtain ⟨hs, hi1, hi2, hu⟩ := HI.out.facts
    obtain ⟨j, rfl⟩ : ∃ j, i = j + 1 := ⟨i - 1, by omega⟩
    have hH : Go.Sort.Holds encB W0 w.heap.size 0 dk := by rw [HW.out]; exact Go.Sort.holds_putRow _ _ _ _ _ dk HB0.out (by rw [hs]; simp)
    obtain ⟨g, hg⟩ : ∃ g : Int, g = (dk[j]!.toNat : Int) := ⟨_, rfl⟩
    have hcell : W0.cell? ⟨w.heap.size, j, none⟩ = some (.int .u8 g) := by have := (hH j (by omega)).1; rw [Nat.zero_add] at this; rw [this, hg]
    have hfz : W0.frozen? ⟨w.heap.size, j, none⟩ = false := by have := (hH j (by omega)).2; rw [Nat.zero_add] at this; exact this
    have hal : (Tryd.prog.arrayLen 110) = 65 := by kernel_rfl
    have HS := Aside0.mk hs
    clear hs hg hH
    by_cases h16 : u < 16
    · have hX : ∀ w, _ := idx_digC u .u64 _ rfl (by omega)
      have hlo : (0 : Int) ≤ (u : Int) := by omega
      have hhi : (u : Int) < 36 := by omega
      have c1 : decide ((16 : Int) ≤ (u : Int)) = false := decide_eq_false (by omega)
      have hsl : ∀ W, (Instr.sliceAt 110 (.pointer (some ⟨w.heap.size, 0, none⟩)) (some (.int .i64 (j : Int))) none none).run Tryd.prog W = .ok (.slice (some ⟨w.heap.size, j, none⟩) (hexL 16 v).length (65 - j)) W := fun W => by
        rw [run_sliceAt_array_l W 110 ⟨w.heap.size, 0, none⟩ (by simp [Program.arrayLen, Program.elem, Tryd.underlying110]) .i64 (j : Int) (by omega) (by rw [hal]; omega)]
        rw [HI.out.length (by omega)]
        go_simp
        omega
      have hcv := run_convert_bytes_back (P := Tryd.prog) (W0.setCell ⟨w.heap.size, j, none⟩ (.int .u8 ((hexC u).toNat : Int))) 85 9 5 ⟨w.heap.size, j, none⟩ (65 - j) (hexL 16 v) Tryd.underlying85 Tryd.underlying5 Tryd.underlying9 (fun q hq => by
        rw [Go.Lib.add_plain]
        have hl := HI.out.last (by omega)
        rw [HI.out.length (by omega)] at hq
        cases q with
        | zero =>
          rw [Nat.add_zero, World.cell?_setCell_same _ _ _ hcell]
          simp only [hl, List.getElem_cons_zero]
        | succ q =>
          rw [World.cell?_setCell_other _ _ _ _ (by simp), HW.out, World.cell?_drewN]
          have := Go.Sort.cell?_putRow encB (w.alloc (.cells (Array.replicate 65 (.int .u8 0)) 110)) w.heap.size 0 _ dk HB0.out (by rw [HS.out]; simp) (j + (q + 1)) (by rw [HS.out]; omega)
          rw [Nat.zero_add] at this
          rw [this]
          simp only [hl, List.getElem_cons_succ, List.getElem_drop]
          rw [getElem!_pos _ _ (by rw [HS.out]; omega)]
          simp [show j + (q + 1) = j + 1 + q by omega])
      have HBl : Aside0 (Below w.heap.size w (W0.setCell ⟨w.heap.size, j, none⟩ (.int .u8 ((hexC u).toNat : Int)))) := ⟨by
        rw [HW.out, bufW_store w dk n j _ (by rw [HS.out]; omega)]
        exact bufW_below w _ n⟩
      clear h16
      go_wp2
      go_ret2
      exact ⟨rfl, HBl.out⟩
    · obtain ⟨x, hx'⟩ : ∃ x, u % 16 = x := ⟨_, rfl⟩
      have hx : Go.bits .and .u64 (u : Int) 15 = (x : Int) := by
        have := (K.b64 u 15 (by omega) (by decide)).1
        rw [Nat.and_two_pow_sub_one_eq_mod u 4] at this
        rw [← hx']
        exact this
      have hX : ∀ w, _ := idx_digC x .u64 _ rfl (by omega)
      have hlo : (0 : Int) ≤ (x : Int) := by omega
      have hhi : (x : Int) < 36 := by omega
      have HS2 : Aside0 (BufI v (u / 16) j (dk.setIfInBounds j (hexC x))) := ⟨hx' ▸ HI.out.step (by omega)⟩
      clear hx'
      have c1 : decide ((16 : Int) ≤ (u : Int)) = true := decide_eq_true (by omega)
      clear h16
      go_wp2
      go_roundw
      case rel => exact ⟨u / 16, j, n, dk.setIfInBounds j (hexC x), by congr 1 <;> omega, by go_num, ⟨by rw [HW.out]; exact bufW_store w dk n j _ (by rw [HS.out]; omega)⟩, HS2⟩
      case measure => simp [intOf]

def decS (n : Nat) : ByteArray := ⟨(Go.Lib.decDigits n).toArray⟩
def hexT (n : Nat) : ByteArray := ⟨(hexL 16 n).toArray⟩
def strconv_FormatUint_47.f (a0 a1 : Int) : Option ByteArray := if 0 ≤ a0 ∧ a0 < 18446744073709551616 ∧ (a1 = 10 ∨ a1 = 16) then some (if a1 = 10 then decS a0.toNat else hexT a0.toNat) else none
theorem strconv_FormatUint_47.calls16 (v : Nat) (w : World) (hv : v < 18446744073709551616) (HT : Aside0 (Tabs w)) :
    Calls Tryd.prog 47 #[.int .u64 (v : Int), .int .i64 16] w fun e w' => e = .returned (.string (hexT v)) ∧ Below w.heap.size w w' := by
  have HC := Aside0.mk (strconv_formatBits16 v w hv HT)
  clear HT hv
  go_enter Tryd.func47, Tryd.ntmps47
  go_wp2_with (fail)
  refine HC.out.mono ?_
  rintro e w1 ⟨rfl, hb⟩
  have HB := Aside0.mk hb
  clear hb
  go_wp2
  go_ret
  exact ⟨rfl, HB.out⟩
theorem strconv_FormatUint_47.calls10s (v : Nat) (w : World) (hv : v < 100) :
    Calls Tryd.prog 47 #[.int .u64 (v : Int), .int .i64 10] w fun e w' => e = .returned (.string (decS v)) ∧ Below w.heap.size w w' := by
  have HC := Aside0.mk (Tryd.internal_strconv_small v hv w)
  have c1 : decide ((v : Int) < 100) = true := decide_eq_true (by omega)
  have c2 : (0 : Int) ≤ (v : Int) := by omega
  have c3 : (v : Int) ≤ 99 := by omega
  clear hv
  go_enter Tryd.func47, Tryd.ntmps47
  go_wp2_with (fail)
  refine HC.out.mono ?_
  rintro e w1 ⟨rfl, rfl⟩
  go_wp2
  go_ret
  exact ⟨rfl, Below.refl _ _⟩
set_option maxHeartbeats 4000000 in
set_option maxRecDepth 100000 in
theorem strconv_FormatUint_47.calls10 (v : Nat) (w : World) (h100 : 100 ≤ v) (hv : v < 18446744073709551616) (HT : Aside0 (Tabs w)) :
    Calls Tryd.prog 47 #[.int .u64 (v : Int), .int .i64 10] w fun e w' => e = .returned (.string (decS v)) ∧ Below w.heap.size w w' := by
  have hu1 : 1 ≤ v := by omega
  have hnd20 : Go.Lib.nDigits v ≤ 20 := by have := Go.Lib.numDigits_eq v hu1 hv; split at this <;> omega
  have hal : Tryd.prog.arrayLen 94 = 24 := by kernel_rfl
  have hsl : ∀ W, (Instr.sliceAt 94 (.pointer (some ⟨w.heap.size, 0, none⟩)) none (some (.int .i64 (Go.Lib.nDigits v : Int))) none).run Tryd.prog W = .ok (.slice (some ⟨w.heap.size, 0, none⟩) (Go.Lib.nDigits v) 24) W := fun W => by
    rw [run_sliceAt_array_h W 94 ⟨w.heap.size, 0, none⟩ (by simp [Program.arrayLen, Program.elem, Tryd.underlying94]) .i64 (Go.Lib.nDigits v : Int) (by omega) (by rw [hal]; omega)]
    go_simp
  have hH0 := Go.Lib.holds_zero0 w 94 (Go.Lib.nDigits v) (by omega)
  have hfmt := Tryd.internal_strconv_formatBase10 w.heap.size 0 24 v (Array.replicate (Go.Lib.nDigits v) 0) (w.alloc (.cells Go.Lib.zeros24 94)) hH0 (by rw [Array.size_replicate]; exact Go.Lib.lt_pow_nDigits v) hv (by rw [Array.size_replicate]; omega)
  rw [Array.size_replicate] at hfmt
  have HH0 := Aside0.mk hH0
  have HF := Aside0.mk hfmt
  have HN := Aside0.mk (Tryd.internal_strconv_numDigits v hu1 hv (w.alloc (.cells Go.Lib.zeros24 94)) (Go.Lib.tabIs_alloc HT.out.pow10is _))
  have c1 : decide ((v : Int) < 100) = false := decide_eq_false (by omega)
  clear hH0 hal hfmt HT hu1
  go_enter Tryd.func47, Tryd.ntmps47
  go_wp2_with (fail)
  refine HN.out.mono ?_
  rintro e w1 ⟨rfl, rfl⟩
  go_wp2_with (fail)
  refine HF.out.mono ?_
  rintro e w' ⟨rfl, k, v', dk, rfl, hF⟩
  have HFI := Aside0.mk hF
  clear hF
  have hcv := run_convert_bytes_back (P := Tryd.prog) ((Go.Sort.putRow encB (w.alloc (.cells Go.Lib.zeros24 94)) w.heap.size 0 dk).drewN k) 85 9 5 ⟨w.heap.size, 0, none⟩ 24 (Go.Lib.decDigits v) Tryd.underlying85 Tryd.underlying5 Tryd.underlying9 (fun j hj => by
    rw [Go.Lib.row_is_numeral HFI.out j hj, Go.Lib.add_plain, World.cell?_drewN]
    exact Go.Sort.cell?_putRow encB _ w.heap.size 0 _ dk HH0.out (by rw [HFI.out.size, Array.size_replicate]) j (by rw [HFI.out.size]; rw [Go.Lib.decDigits_length] at hj; exact hj))
  rw [Go.Lib.decDigits_length] at hcv
  have HB : Aside0 (Below w.heap.size w ((Go.Sort.putRow encB (w.alloc (.cells Go.Lib.zeros24 94)) w.heap.size 0 dk).drewN k)) := ⟨by
    obtain ⟨os, e⟩ := Go.Lib.fin_at w (.cells Go.Lib.zeros24 94) dk k 0
    rw [e]
    exact Go.Lib.below_grow _ w (Nat.le_refl _) k os⟩
  generalize (Go.Sort.putRow encB (w.alloc (.cells Go.Lib.zeros24 94)) w.heap.size 0 dk).drewN k = W2 at *
  clear HFI HH0 HF
  go_wp2
  go_ret
  exact ⟨rfl, HB.out⟩
theorem strconv_FormatUint_47.calls (a0 a1 : Int) (r : ByteArray) (w : World) (h : strconv_FormatUint_47.f a0 a1 = some r) (HT : Aside0 (Tabs w)) :
    Calls Tryd.prog 47 #[.int .u64 a0, .int .i64 a1] w fun e w' => e = .returned (.string r) ∧ Below w.heap.size w w' := by
  unfold strconv_FormatUint_47.f at h
  by_cases hb : 0 ≤ a0 ∧ a0 < 18446744073709551616 ∧ (a1 = 10 ∨ a1 = 16)
  · rw [if_pos hb] at h
    obtain ⟨h0, h1, h2⟩ := hb
    obtain ⟨n, rfl⟩ := Int.eq_ofNat_of_zero_le h0
    have hn : n < 18446744073709551616 := by omega
    rcases h2 with rfl | rfl
    · rw [if_pos rfl] at h
      obtain rfl := Option.some.inj h
      by_cases hs : n < 100
      · exact strconv_FormatUint_47.calls10s n w hs
      · exact strconv_FormatUint_47.calls10 n w (by omega) hn HT
    · rw [if_neg (by decide)] at h
      obtain rfl := Option.some.inj h
      exact strconv_FormatUint_47.calls16 n w hn HT
  · rw [if_neg hb] at h
    cases h

/-! ### strconv_FormatUint_40: function 40 -/
def strconv_FormatUint_40.f (a0 : Int) (a1 : Int) : Option (ByteArray) := (strconv_FormatUint_47.f a0 a1).bind fun t154 => (some t154)
set_option maxHeartbeats 8000000 in
set_option maxRecDepth 100000 in
theorem strconv_FormatUint_40.calls (a0 : Int) (a1 : Int) (r : ByteArray) (w : World) (h : strconv_FormatUint_40.f a0 a1 = some r) (HT : Aside0 (Tabs w)) :
  Calls Tryd.prog 40 #[.int .u64 a0, .int .i64 a1] w fun e w' => e = .returned (.string r) ∧ Below w.heap.size w w' := by
 have HB := Aside0.mk (Below.refl w.heap.size w)
 have H : ((strconv_FormatUint_47.f a0 a1).bind fun t154 => (some t154)) = some r := h
 clear h
 replace H := Option.bind_eq_some_iff.mp H
 obtain ⟨t154, A30, H⟩ := H
 replace H : (some t154) = some r := H
 have A3 := Aside0.mk A30
 clear A30
 obtain rfl := Option.some.inj H
 go_enter Tryd.func40, Tryd.ntmps40
 go_wp2_with (first | ((with_reducible refine gate_callee (f := 47) rfl ?_); refine goesL_ (some 7) rfl rfl Tryd.func47 (by kernel_rfl) rfl #[.int .u64 a0, .int .i64 a1] rfl (by (try simp only [List.map_toArray, List.map_cons, List.map_nil]); first | done | rfl | (simp only [List.length_drop, List.length_take]; rfl)) ?_; (with_reducible refine (strconv_FormatUint_47.calls a0 a1 t154 _ A3.out ?tabs).mono ?_); (case tabs => (first | exact HT | (refine tabs_of HT ?_; repeat (first | (with_reducible first | exact Below.refl _ _ | exact (Aside0.out (by assumption)) | exact (Drawn0.below (by assumption)) | apply below_alloc | apply pw_below_drewN | apply below_drew1 | assumption) | exact HB.out)))); rintro e w4 ⟨rfl, hb⟩; refine ⟨_, rfl, ?_⟩; have n0_ := Aside0.mk (below_step (by repeat (first | (with_reducible first | exact HB.out | apply below_alloc | apply pw_below_drewN | apply below_drew1) | exact HB.out)) hb); clear HB; have HB := n0_; clear n0_; (try clear hb); (try clear hb2); (try clear hk); (try clear hi)))
 go_ret
 exact ⟨by first | rfl | (simp [errW_none, errW_some] <;> rfl) | (simp [*, errW_none, errW_some] <;> rfl), by repeat (first | (with_reducible first | exact HB.out | apply below_alloc | apply pw_below_drewN | apply below_drew1) | exact HB.out)⟩

/-! ### num_Text: function 25 -/
def num_Text.f (a0 : Int) : Option (ByteArray) := (strconv_FormatUint_40.f a0 10).bind fun t155 => (some t155)
set_option maxHeartbeats 8000000 in
set_option maxRecDepth 100000 in
theorem num_Text.calls (a0 : Int) (r : ByteArray) (w : World) (h : num_Text.f a0 = some r) (HT : Aside0 (Tabs w)) :
  Calls Tryd.prog 25 #[.int .u64 a0] w fun e w' => e = .returned (.string r) ∧ Below w.heap.size w w' := by
 have HB := Aside0.mk (Below.refl w.heap.size w)
 have H : ((strconv_FormatUint_40.f a0 10).bind fun t155 => (some t155)) = some r := h
 clear h
 replace H := Option.bind_eq_some_iff.mp H
 obtain ⟨t155, A20, H⟩ := H
 replace H : (some t155) = some r := H
 have A2 := Aside0.mk A20
 clear A20
 obtain rfl := Option.some.inj H
 go_enter Tryd.func25, Tryd.ntmps25
 go_wp2_with (first | ((with_reducible refine gate_callee (f := 40) rfl ?_); refine goesL_ (some 4) rfl rfl Tryd.func40 (by kernel_rfl) rfl #[.int .u64 a0, .int .i64 10] rfl (by (try simp only [List.map_toArray, List.map_cons, List.map_nil]); first | done | rfl | (simp only [List.length_drop, List.length_take]; rfl)) ?_; (with_reducible refine (strconv_FormatUint_40.calls a0 10 t155 _ A2.out ?tabs).mono ?_); (case tabs => (first | exact HT | (refine tabs_of HT ?_; repeat (first | (with_reducible first | exact Below.refl _ _ | exact (Aside0.out (by assumption)) | exact (Drawn0.below (by assumption)) | apply below_alloc | apply pw_below_drewN | apply below_drew1 | assumption) | exact HB.out)))); rintro e w3 ⟨rfl, hb⟩; refine ⟨_, rfl, ?_⟩; have n0_ := Aside0.mk (below_step (by repeat (first | (with_reducible first | exact HB.out | apply below_alloc | apply pw_below_drewN | apply below_drew1) | exact HB.out)) hb); clear HB; have HB := n0_; clear n0_; (try clear hb); (try clear hb2); (try clear hk); (try clear hi)))
 go_ret
 exact ⟨by first | rfl | (simp [errW_none, errW_some] <;> rfl) | (simp [*, errW_none, errW_some] <;> rfl), by repeat (first | (with_reducible first | exact HB.out | apply below_alloc | apply pw_below_drewN | apply below_drew1) | exact HB.out)⟩

end Go.Proofs.YtmolcgkahhdkgaaDoor.P
