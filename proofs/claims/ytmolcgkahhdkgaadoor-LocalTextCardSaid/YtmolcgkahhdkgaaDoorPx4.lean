-- printed by wip/tools/myprint.py out of the translation. Not trusted: Lean checks it.
import Derived.Test.YtmolcgkahhdkgaaDoorPx0
namespace Go.Proofs.YtmolcgkahhdkgaaDoor.P
open Go.RowKit Go.Proofs.YtmolcgkahhdkgaaDoorW.PrintWords Go.Proofs.YtmolcgkahhdkgaaDoorW.PrintLast Go.Proofs.YtmolcgkahhdkgaaDoorW.PrintMore
attribute [local go_sem] max2_int min2_int max_two min_two max_three min_three max_four min_four   -- for this text's walks alone
set_option linter.unusedVariables false
set_option linter.unusedSimpArgs false

/-! ### num_digit: function 37 -/
mutual
def num_digit.j0 : Nat → Int → Int → Bool → Option (Int × Bool)
 | 0, _, _, _ => none
 | k + 1, x0, x1, x7 => if x7 = true then (some (IntKind.u64.wrap (wrap32 (x0 - 48)), decide ((IntKind.u64.wrap (wrap32 (x0 - 48))) < x1))) else (if x0 ≥ 97 then (num_digit.j1 k x0 x1 (decide (x0 ≤ 102))) else (num_digit.j1 k x0 x1 false))
def num_digit.j1 : Nat → Int → Int → Bool → Option (Int × Bool)
 | 0, _, _, _ => none
 | k + 1, x0, x1, x17 => if x17 = true then (some (IntKind.u64.wrap ((IntKind.u64.wrap (wrap32 (x0 - 97))) + 10), decide ((IntKind.u64.wrap ((IntKind.u64.wrap (wrap32 (x0 - 97))) + 10)) < x1))) else (if x0 ≥ 65 then (if x0 ≤ 70 then (some (IntKind.u64.wrap ((IntKind.u64.wrap (wrap32 (x0 - 65))) + 10), decide ((IntKind.u64.wrap ((IntKind.u64.wrap (wrap32 (x0 - 65))) + 10)) < x1))) else (some (0, false))) else (some (0, false)))
end
def num_digit.f (k : Nat) (a0 : Int) (a1 : Int) : Option (Int × Bool) := if a0 ≥ 48 then (num_digit.j0 k a0 a1 (decide (a0 ≤ 57))) else (num_digit.j0 k a0 a1 false)
theorem num_digit.mono_l : ∀ k, (∀ y0 y1 y2, LeO (num_digit.j0 k y0 y1 y2) (num_digit.j0 (k + 1) y0 y1 y2)) ∧ (∀ y0 y1 y2, LeO (num_digit.j1 k y0 y1 y2) (num_digit.j1 (k + 1) y0 y1 y2))
 | 0 => ⟨fun _ _ _ r h => by simp [num_digit.j0] at h, fun _ _ _ r h => by simp [num_digit.j1] at h⟩
 | k + 1 => by
  obtain ⟨ih0, ih1⟩ := num_digit.mono_l k
  refine ⟨?_, ?_⟩
  ·intro y0 y1 y2
   unfold num_digit.j0
   repeat' first
   | (with_reducible exact ih0 _ _ _)
   | (with_reducible exact ih1 _ _ _)
   | (with_reducible exact LeO.refl _)
   | (with_reducible exact LeO.none _)
   | (with_reducible refine LeO.ite ?_ ?_)
   | (with_reducible refine LeO.bind ?_ (fun _ => ?_))
   | exact ih0 _ _ _
   | exact ih1 _ _ _
   | exact LeO.none _
   | refine LeO.ite ?_ ?_
   | refine LeO.bind ?_ (fun _ => ?_)
  ·intro y0 y1 y2
   unfold num_digit.j1
   repeat' first
   | (with_reducible exact ih0 _ _ _)
   | (with_reducible exact ih1 _ _ _)
   | (with_reducible exact LeO.refl _)
   | (with_reducible exact LeO.none _)
   | (with_reducible refine LeO.ite ?_ ?_)
   | (with_reducible refine LeO.bind ?_ (fun _ => ?_))
   | exact ih0 _ _ _
   | exact ih1 _ _ _
   | exact LeO.none _
   | refine LeO.ite ?_ ?_
   | refine LeO.bind ?_ (fun _ => ?_)
theorem num_digit.mono : ∀ a0 a1 k, LeO (num_digit.f k a0 a1) (num_digit.f (k + 1) a0 a1) := by
 intro a0 a1 k
 obtain ⟨ih0, ih1⟩ := num_digit.mono_l k
 unfold num_digit.f
 repeat' first
   | (with_reducible exact ih0 _ _ _)
   | (with_reducible exact ih1 _ _ _)
   | (with_reducible exact LeO.refl _)
   | (with_reducible exact LeO.none _)
   | (with_reducible refine LeO.ite ?_ ?_)
   | (with_reducible refine LeO.bind ?_ (fun _ => ?_))
   | exact ih0 _ _ _
   | exact ih1 _ _ _
   | exact LeO.none _
   | refine LeO.ite ?_ ?_
   | refine LeO.bind ?_ (fun _ => ?_)
set_option maxHeartbeats 8000000 in
set_option maxRecDepth 100000 in
theorem num_digit.calls (k : Nat) (a0 : Int) (a1 : Int) (r1 : Int) (r2 : Bool) (w : World) (h : num_digit.f k a0 a1 = some (r1, r2)) :
  Calls Tryd.prog 37 #[.int .i32 a0, .int .u64 a1] w fun e w' => e = .returned (.tuple #[.int .u64 r1, .bool r2]) ∧ Drawn0 w w' := by
 have H : (if a0 ≥ 48 then (num_digit.j0 k a0 a1 (decide (a0 ≤ 57))) else (num_digit.j0 k a0 a1 false)) = some (r1, r2) := h
 clear h
 have HC3 := Aside0.mk H
 clear H
 go_enter Tryd.func37, Tryd.ntmps37
 go_upto_region 3 with (fail)
 go_cut [7] (fun v7 wc => ∃ (kq : Nat) (x7_2 : Bool), v7 = .bool x7_2 ∧ Aside0 (num_digit.j0 kq a0 a1 x7_2 = some (r1, r2)) ∧ Aside0 (kq ≤ k) ∧ Drawn0 w wc)
 case first =>
  have H := HC3.out
  clear HC3
  by_cases c4 : a0 ≥ 48
  ·rw [if_pos c4] at H
   have c4b0 : decide (48 ≤ a0) = true := decide_eq_true c4
   clear c4
   (first | rw [c4b0] | (simp only [i64_w, i32_w]; rw [c4b0]) | skip)
   have H' := Aside0.mk H
   clear H
   go_wp2
   go_meet
   case rel => exact ⟨_, (decide (a0 ≤ 57)), (by first | rfl | (simp; done) | (simp [*]; done)), H', ⟨by first | omega | exact Nat.le_refl _⟩, by repeat (first | exact Drawn0.refl _ | apply Drawn0.step)⟩
  ·rw [if_neg c4] at H
   have c4b0 : decide (48 ≤ a0) = false := decide_eq_false c4
   clear c4
   (first | rw [c4b0] | (simp only [i64_w, i32_w]; rw [c4b0]) | skip)
   have H' := Aside0.mk H
   clear H
   go_wp2
   go_meet
   case rel => exact ⟨_, (false), (by first | rfl | (simp; done) | (simp [*]; done)), H', ⟨by first | omega | exact Nat.le_refl _⟩, by repeat (first | exact Drawn0.refl _ | apply Drawn0.step)⟩
 case rest =>
  clear HC3
  try clear p2
  try clear c3
  try clear c4
  try clear c4b0
  obtain ⟨kq, x7_2, rfl, HA, HJ2, ⟨mc2, rfl⟩⟩ := hcut
  cases kq with
  | zero => exact absurd HA.out (by simp [num_digit.j0])
  | succ kj2 =>
   have H := HA.out
   clear HA
   simp only [num_digit.j0] at H
   by_cases c5 : x7_2 = true
   ·subst c5
    rw [if_pos rfl] at H
    simp only [Option.some.injEq, Prod.mk.injEq] at H
    obtain ⟨rfl, rfl⟩ := H
    go_wp2
    go_ret2
    exact ⟨by first | rfl | (simp; done) | (simp [*]; done), by repeat (first | exact Drawn0.refl _ | apply Drawn0.step)⟩
   ·replace c5 := Bool.eq_false_iff.mpr c5
    subst c5
    rw [if_neg (show ¬ (false = true) by decide)] at H
    have HC6 := Aside0.mk H
    clear H
    go_upto_region 5 with (fail)
    go_cut [17] (fun v17 wc => ∃ (kq : Nat) (x17_5 : Bool), v17 = .bool x17_5 ∧ Aside0 (num_digit.j1 kq a0 a1 x17_5 = some (r1, r2)) ∧ Aside0 (kq ≤ kj2) ∧ Drawn0 w wc)
    case first =>
     have H := HC6.out
     clear HC6
     by_cases c7 : a0 ≥ 97
     ·rw [if_pos c7] at H
      have c7b0 : decide (97 ≤ a0) = true := decide_eq_true c7
      clear c7
      (first | rw [c7b0] | (simp only [i64_w, i32_w]; rw [c7b0]) | skip)
      have H' := Aside0.mk H
      clear H
      go_wp2
      go_meet
      case rel => exact ⟨_, (decide (a0 ≤ 102)), (by first | rfl | (simp; done) | (simp [*]; done)), H', ⟨by have := HJ2.out; first | omega | exact Nat.le_refl _⟩, by repeat (first | exact Drawn0.refl _ | apply Drawn0.step)⟩
     ·rw [if_neg c7] at H
      have c7b0 : decide (97 ≤ a0) = false := decide_eq_false c7
      clear c7
      (first | rw [c7b0] | (simp only [i64_w, i32_w]; rw [c7b0]) | skip)
      have H' := Aside0.mk H
      clear H
      go_wp2
      go_meet
      case rel => exact ⟨_, (false), (by first | rfl | (simp; done) | (simp [*]; done)), H', ⟨by have := HJ2.out; first | omega | exact Nat.le_refl _⟩, by repeat (first | exact Drawn0.refl _ | apply Drawn0.step)⟩
    case rest =>
     clear HC6
     try clear c2
     try clear p2
     try clear c3
     try clear p3
     try clear c4
     try clear c4b0
     try clear c5
     try clear c7
     try clear c7b0
     try clear p2
     obtain ⟨kq, x17_5, rfl, HA, HJ5, ⟨mc5, rfl⟩⟩ := hcut
     cases kq with
     | zero => exact absurd HA.out (by simp [num_digit.j1])
     | succ kj5 =>
      have H := HA.out
      clear HA
      simp only [num_digit.j1] at H
      by_cases c8 : x17_5 = true
      ·subst c8
       rw [if_pos rfl] at H
       simp only [Option.some.injEq, Prod.mk.injEq] at H
       obtain ⟨rfl, rfl⟩ := H
       go_wp2
       go_ret2
       exact ⟨by first | rfl | (simp; done) | (simp [*]; done), by repeat (first | exact Drawn0.refl _ | apply Drawn0.step)⟩
      ·replace c8 := Bool.eq_false_iff.mpr c8
       subst c8
       rw [if_neg (show ¬ (false = true) by decide)] at H
       by_cases c9 : a0 ≥ 65
       ·rw [if_pos c9] at H
        have c9b0 : decide (65 ≤ a0) = true := decide_eq_true c9
        clear c9
        by_cases c10 : a0 ≤ 70
        ·rw [if_pos c10] at H
         have c10b0 : decide (a0 ≤ 70) = true := decide_eq_true c10
         clear c10
         simp only [Option.some.injEq, Prod.mk.injEq] at H
         obtain ⟨rfl, rfl⟩ := H
         go_wp2
         go_ret2
         exact ⟨by first | rfl | (simp; done) | (simp [*]; done), by repeat (first | exact Drawn0.refl _ | apply Drawn0.step)⟩
        ·rw [if_neg c10] at H
         have c10b0 : decide (a0 ≤ 70) = false := decide_eq_false c10
         clear c10
         simp only [Option.some.injEq, Prod.mk.injEq] at H
         obtain ⟨rfl, rfl⟩ := H
         go_wp2
         go_ret2
         exact ⟨by first | rfl | (simp; done) | (simp [*]; done), by repeat (first | exact Drawn0.refl _ | apply Drawn0.step)⟩
       ·rw [if_neg c9] at H
        have c9b0 : decide (65 ≤ a0) = false := decide_eq_false c9
        clear c9
        simp only [Option.some.injEq, Prod.mk.injEq] at H
        obtain ⟨rfl, rfl⟩ := H
        go_wp2
        go_ret2
        exact ⟨by first | rfl | (simp; done) | (simp [*]; done), by repeat (first | exact Drawn0.refl _ | apply Drawn0.step)⟩

/-! ### num_digits: function 36 -/
def dgI (r : Int) : Int := if 48 ≤ r ∧ r ≤ 57 then r - 48 else if 97 ≤ r ∧ r ≤ 102 then r - 87 else if 65 ≤ r ∧ r ≤ 70 then r - 55 else -1
def dgP (base r : Int) : Int × Bool := if dgI r = -1 then (0, false) else (dgI r, decide (dgI r < base))
theorem digit_lo : ∀ n : Nat, n < 128 → num_digit.f 3 (n : Int) 10 = some (dgP 10 n) ∧ num_digit.f 3 (n : Int) 16 = some (dgP 16 n) := by decide +kernel
theorem dgI_hi (r : Int) (h : 128 ≤ r) : dgI r = -1 := by
  unfold dgI
  rw [if_neg (by omega), if_neg (by omega), if_neg (by omega)]
theorem digit_hi (r base : Int) (h : 128 ≤ r) : num_digit.f 3 r base = some (0, false) := by
  unfold num_digit.f
  rw [if_pos (by omega), decide_eq_false (by omega)]
  simp only [num_digit.j0, if_neg (show ¬ (false = true) by decide)]
  rw [if_pos (by omega), decide_eq_false (by omega)]
  simp only [num_digit.j1, if_neg (show ¬ (false = true) by decide)]
  rw [if_pos (by omega), if_neg (by omega)]
theorem digit_f (r base : Int) (h : 0 ≤ r) (hb : base = 10 ∨ base = 16) : num_digit.f 3 r base = some (dgP base r) := by
  by_cases h1 : r < 128
  · obtain ⟨n, rfl⟩ := Int.eq_ofNat_of_zero_le h
    rcases hb with rfl | rfl
    · exact (digit_lo n (by omega)).1
    · exact (digit_lo n (by omega)).2
  · rw [digit_hi r base (by omega)]
    unfold dgP
    rw [dgI_hi r (by omega), if_pos rfl]
def dgB (base : Int) (c : UInt8) : Bool := (dgP base c.toNat).2
def okB (s : ByteArray) (base : Int) : Bool := s.data.toList.all (dgB base) && !s.data.toList.isEmpty
def num_digits.f (a0 : ByteArray) (a1 : Int) : Option Bool := if a1 = 10 ∨ a1 = 16 then some (okB a0 a1) else none
theorem take_next_byte (s : ByteArray) (k : Nat) (h : k < s.size) : s.data.toList.take (k + 1) = s.data.toList.take k ++ [s[k]'h] := by
  rw [List.take_succ_eq_append_getElem (by simpa using h)]; rfl
theorem okB_no {s : ByteArray} {base : Int} {k : Nat} (h : k < s.size) (hd : dgB base (s[k]'h) = false) : okB s base = false := by
  unfold okB
  rw [Bool.and_eq_false_iff]
  refine Or.inl ?_
  rw [List.all_eq_false]
  exact ⟨s[k]'h, List.getElem_mem (by simpa using h), by rw [hd]; decide⟩
theorem dgP_cases (base r : Int) : ∃ v b, dgP base r = (v, b) := ⟨_, _, rfl⟩
set_option maxHeartbeats 2000000 in
set_option maxRecDepth 100000 in
theorem num_digits.calls (a0 : ByteArray) (a1 : Int) (r : Bool) (w : World) (h : num_digits.f a0 a1 = some r) :
    Calls Tryd.prog 36 #[.string a0, .int .u64 a1] w fun e w' => e = .returned (.bool r) ∧ Below w.heap.size w w' := by
  unfold num_digits.f at h
  by_cases hb : a1 = 10 ∨ a1 = 16
  · rw [if_pos hb] at h
    have hr := Option.some.inj h
    have HR := Aside0.mk hr
    have HB := Aside0.mk hb
    clear h hr hb
    go_enter Tryd.func36, Tryd.ntmps36
    go_wp2
    go_loopw [6] (fun _ wr => ∃ pos : Nat, pos ≤ a0.size ∧ Aside0 (wr.heap[w.heap.size]? = some (.stringIter a0 pos)) ∧ Aside0 (Below w.heap.size w wr) ∧ Aside0 ((a0.data.toList.take pos).all (dgB a1) = true)) (fun _ wr => a0.size - wr.iterPos w.heap.size)
    case atStart => exact ⟨0, Nat.zero_le _, ⟨World.iter_heap w a0 0⟩, ⟨below_alloc (Below.refl _ _) _⟩, ⟨by simp⟩⟩
    case round =>
      obtain ⟨pos, hle, HI, HW, HA⟩ := hrel
      by_cases hp : pos < a0.size
      · have HD := Aside0.mk (digit_f (Utf8.decode a0 pos).1 a1 (by omega) HB.out)
        have hnx : ∀ ty, (Instr.next (.pointer (some ⟨w.heap.size, 0, none⟩)) true ty).run Tryd.prog wr = _ := fun ty => Go.Lib.run_next_any_at wr w.heap.size a0 pos ty HI.out hp
        have HI2 := Aside0.mk (Go.Lib.iterAt_heap wr w.heap.size a0 pos (pos + (Utf8.decode a0 pos).2) HI.out)
        have HW2 := Aside0.mk (Go.Lib.below_iterAt HW.out (Nat.le_refl _) a0 (pos + (Utf8.decode a0 pos).2))
        obtain ⟨v, b, hvb⟩ := dgP_cases a1 (Utf8.decode a0 pos).1
        have HVB := Aside0.mk hvb
        rw [hvb] at HD
        have HIP : Aside0 (wr.iterPos w.heap.size = pos) := ⟨by unfold World.iterPos; rw [HI.out]⟩
        have HP := Aside0.mk hp
        have HG : Aside0 (b = dgB a1 (a0[pos]'hp) ∧ (b = true → (Utf8.decode a0 pos).2 = 1)) := ⟨by
          by_cases ha : (a0[pos]'hp).toNat < 128
          · rw [decode_ascii a0 pos hp ha] at hvb ⊢
            refine ⟨?_, fun _ => rfl⟩
            unfold dgB
            rw [hvb]
          · have h2 := (decode_high a0 pos hp (by omega)).1
            have h3 : dgP a1 ((Utf8.decode a0 pos).1 : Int) = (0, false) := by
              unfold dgP
              rw [dgI_hi _ (by omega), if_pos rfl]
            have h4 : dgB a1 (a0[pos]'hp) = false := by
              unfold dgB dgP
              rw [dgI_hi _ (by omega), if_pos rfl]
            rw [h3] at hvb
            cases hvb
            exact ⟨h4.symm, fun e => by cases e⟩⟩
        have HNO : Aside0 (dgB a1 (a0[pos]'hp) = false → okB a0 a1 = false) := ⟨fun e => okB_no hp e⟩
        have HTK := Aside0.mk (take_next_byte a0 pos hp)
        generalize a0[pos]'hp = by_ at *
        clear hvb hle HI HW hp
        generalize (Utf8.decode a0 pos).1 = c at *
        generalize hq : pos + (Utf8.decode a0 pos).2 = q at *
        have HQ := Aside0.mk hq
        clear hq
        generalize hwx : wr.iterAt w.heap.size a0 q = wx at *
        clear hwx
        cases b
        · go_wp2_with (fail)
          refine (num_digit.calls 3 c a1 v false _ HD.out).mono ?_
          rintro e w' ⟨rfl, ⟨nd, rfl⟩⟩
          go_wp2
          go_ret
          exact ⟨by rw [← HR.out, HNO.out HG.out.1.symm]; rfl, pw_below_drewN HW2.out _⟩
        · go_wp2_with (fail)
          refine (num_digit.calls 3 c a1 v true _ HD.out).mono ?_
          rintro e w' ⟨rfl, hd⟩
          have HI3 := Aside0.mk (blk_below HI2.out hd.below)
          have HW3 := Aside0.mk (HW2.out.trans (hd.below.mono HW2.out.size))
          clear HI2 HW2 hd
          go_wp2
          have hp := HP.out
          have hq : q = pos + 1 := by rw [← HQ.out, HG.out.2 (by trivial)]
          subst hq
          go_roundw
          case rel => exact ⟨pos + 1, by omega, HI3, HW3, ⟨by rw [HTK.out, List.all_append, HA.out, Bool.true_and, List.all_cons, ← HG.out.1]; rfl⟩⟩
          case measure =>
            have e1 := HI3.out
            have e2 := HIP.out
            unfold World.iterPos at *
            rw [e1]
            simp only [] at *
            omega
      · have hnx : ∀ ty, (Instr.next (.pointer (some ⟨w.heap.size, 0, none⟩)) true ty).run Tryd.prog wr = _ := fun ty => Go.Lib.run_next_end_at wr w.heap.size a0 pos ty HI.out hp
        have HOK : Aside0 (okB a0 a1 = !a0.data.toList.isEmpty) := ⟨by
          have := HA.out
          rw [List.take_of_length_le (by simp; omega)] at this
          unfold okB
          rw [this, Bool.true_and]⟩
        clear HA HI hle hp
        cases he : a0.data.toList.isEmpty
        · have c1 : (a0.toList == ([] : List UInt8)) = false := by
            rw [ByteArray.toList_eq]
            cases hx : a0.data.toList
            · rw [hx] at he; cases he
            · rfl
          have c2 : (a0.toList != ([] : List UInt8)) = true := by rw [bne, c1]; rfl
          go_wp2
          go_ret
          exact ⟨by rw [← HR.out, HOK.out, he]; rfl, HW.out⟩
        · have c1 : (a0.toList == ([] : List UInt8)) = true := by
            rw [ByteArray.toList_eq]
            cases hx : a0.data.toList
            · rfl
            · rw [hx] at he; cases he
          have c2 : (a0.toList != ([] : List UInt8)) = false := by rw [bne, c1]; rfl
          go_wp2
          go_ret
          exact ⟨by rw [← HR.out, HOK.out, he]; rfl, HW.out⟩
  · rw [if_neg hb] at h
    cases h

/-! ### bits_Mul64: function 38 -/
def bits_Mul64.f (a0 : Int) (a1 : Int) : Option (Int × Int) := some (IntKind.u64.wrap ((IntKind.u64.wrap ((IntKind.u64.wrap ((a0 / 4294967296) * (a1 / 4294967296))) + ((IntKind.u64.wrap ((IntKind.u64.wrap ((a0 / 4294967296) * (Go.bits .and .u64 a1 4294967295))) + ((IntKind.u64.wrap ((Go.bits .and .u64 a0 4294967295) * (Go.bits .and .u64 a1 4294967295))) / 4294967296))) / 4294967296))) + ((IntKind.u64.wrap ((Go.bits .and .u64 (IntKind.u64.wrap ((IntKind.u64.wrap ((a0 / 4294967296) * (Go.bits .and .u64 a1 4294967295))) + ((IntKind.u64.wrap ((Go.bits .and .u64 a0 4294967295) * (Go.bits .and .u64 a1 4294967295))) / 4294967296))) 4294967295) + (IntKind.u64.wrap ((Go.bits .and .u64 a0 4294967295) * (a1 / 4294967296))))) / 4294967296)), IntKind.u64.wrap (a0 * a1))
set_option maxHeartbeats 8000000 in
set_option maxRecDepth 100000 in
theorem bits_Mul64.calls (a0 : Int) (a1 : Int) (r1 : Int) (r2 : Int) (w : World) (h : bits_Mul64.f a0 a1 = some (r1, r2)) :
  Calls Tryd.prog 38 #[.int .u64 a0, .int .u64 a1] w fun e w' => e = .returned (.tuple #[.int .u64 r1, .int .u64 r2]) ∧ Drawn0 w w' := by
 have H : (some (IntKind.u64.wrap ((IntKind.u64.wrap ((IntKind.u64.wrap ((a0 / 4294967296) * (a1 / 4294967296))) + ((IntKind.u64.wrap ((IntKind.u64.wrap ((a0 / 4294967296) * (Go.bits .and .u64 a1 4294967295))) + ((IntKind.u64.wrap ((Go.bits .and .u64 a0 4294967295) * (Go.bits .and .u64 a1 4294967295))) / 4294967296))) / 4294967296))) + ((IntKind.u64.wrap ((Go.bits .and .u64 (IntKind.u64.wrap ((IntKind.u64.wrap ((a0 / 4294967296) * (Go.bits .and .u64 a1 4294967295))) + ((IntKind.u64.wrap ((Go.bits .and .u64 a0 4294967295) * (Go.bits .and .u64 a1 4294967295))) / 4294967296))) 4294967295) + (IntKind.u64.wrap ((Go.bits .and .u64 a0 4294967295) * (a1 / 4294967296))))) / 4294967296)), IntKind.u64.wrap (a0 * a1))) = some (r1, r2) := h
 clear h
 simp only [Option.some.injEq, Prod.mk.injEq] at H
 obtain ⟨rfl, rfl⟩ := H
 go_enter Tryd.func38, Tryd.ntmps38
 go_wp2
 go_ret2
 exact ⟨by first | rfl | (simp; done) | (simp [*]; done), by repeat (first | exact Drawn0.refl _ | apply Drawn0.step)⟩

-- NOT PRINTED: function 39 (bits_Add64)

/-! ### num_Value: function 24 -/
/-! ### math/bits.Mul64 by a small number -/
theorem mul64_f (v b : Nat) (hv : v < 18446744073709551616) (hb : b ≤ 16) : bits_Mul64.f (v : Int) (b : Int) = some (((v * b / 18446744073709551616 : Nat) : Int), ((v * b % 18446744073709551616 : Nat) : Int)) := by
  have e1 : Go.bits .and .u64 (v : Int) 4294967295 = ((v % 4294967296 : Nat) : Int) := by
    have := (K.b64 v 4294967295 hv (by decide)).1
    rw [Nat.and_two_pow_sub_one_eq_mod v 32] at this
    exact this
  have e2 : Go.bits .and .u64 (b : Int) 4294967295 = (b : Int) := by
    have := (K.b64 b 4294967295 (by omega) (by decide)).1
    rw [Nat.and_two_pow_sub_one_eq_mod b 32, Nat.mod_eq_of_lt (by omega)] at this
    exact this
  have e3 : (b : Int) / 4294967296 = 0 := by omega
  have hz : ∀ z : Int, 0 ≤ z → z < 18446744073709551616 → IntKind.u64.wrap z = z := fun z h0 h1 => K.wu64_in ⟨h0, h1⟩
  unfold bits_Mul64.f
  rw [e1, e2, e3]
  obtain ⟨x0, hx0⟩ : ∃ x0 : Nat, v % 4294967296 = x0 := ⟨_, rfl⟩
  obtain ⟨x1, hx1⟩ : ∃ x1 : Nat, v / 4294967296 = x1 := ⟨_, rfl⟩
  have hx1' : (v : Int) / 4294967296 = (x1 : Int) := by omega
  have hxv : v = x1 * 4294967296 + x0 := by omega
  have l0 : x0 < 4294967296 := by omega
  have l1 : x1 < 4294967296 := by omega
  have m0 : x0 * b ≤ 4294967295 * 16 := Nat.mul_le_mul (by omega) hb
  have m1 : x1 * b ≤ 4294967295 * 16 := Nat.mul_le_mul (by omega) hb
  have hvb : v * b = x1 * b * 4294967296 + x0 * b := by rw [hxv, Nat.add_mul, Nat.mul_right_comm]
  rw [hx0, hx1', hvb]
  have c0 : (x0 : Int) * (b : Int) = ((x0 * b : Nat) : Int) := by simp
  have c1 : (x1 : Int) * (b : Int) = ((x1 * b : Nat) : Int) := by simp
  have c2 : (v : Int) * (b : Int) = ((x1 * b * 4294967296 + x0 * b : Nat) : Int) := by rw [← hvb]; simp
  rw [c0, c1, c2]
  generalize x0 * b = p at *
  generalize x1 * b = q at *
  have z1 : (x1 : Int) * 0 = 0 := by omega
  have z2 : (x0 : Int) * 0 = 0 := by omega
  rw [z1, z2, hz 0 (by omega) (by omega), hz (p : Int) (by omega) (by omega), hz (q : Int) (by omega) (by omega)]
  obtain ⟨t, ht⟩ : ∃ t : Nat, q + p / 4294967296 = t := ⟨_, rfl⟩
  have ht' : (q : Int) + (p : Int) / 4294967296 = (t : Int) := by omega
  rw [ht', hz (t : Int) (by omega) (by omega)]
  have e4 : Go.bits .and .u64 (t : Int) 4294967295 = ((t % 4294967296 : Nat) : Int) := by
    have := (K.b64 t 4294967295 (by omega) (by decide)).1
    rw [Nat.and_two_pow_sub_one_eq_mod t 32] at this
    exact this
  rw [e4, K.wu64]
  simp only [K.wu64]
  congr 2
  omega
def valL (base : Nat) : List UInt8 → Nat → Option Nat
  | [], v => some v
  | c :: r, v => if v * base + (dgI c.toNat).toNat < 18446744073709551616 then valL base r (v * base + (dgI c.toNat).toNat) else none
def hexS (s : ByteArray) : Bool := decide (2 ≤ s.size) && ((s.extract 0 2).toList == [48, 120])
def baseS (s : ByteArray) : Nat := if hexS s = true then 16 else 10
def restS (s : ByteArray) : ByteArray := if hexS s = true then s.extract 2 s.size else s
def num_Value.f (a0 : ByteArray) : Option (Int × Int) := some (if okB (restS a0) (baseS a0) = true then (match valL (baseS a0) (restS a0).data.toList 0 with | some v => ((v : Int), 0) | none => (0, 4)) else (0, 3))
theorem dgI_lt {c : UInt8} {b : Int} (h : dgB b c = true) : 0 ≤ dgI c.toNat ∧ dgI c.toNat < b ∧ dgP b c.toNat = (dgI c.toNat, true) ∧ c.toNat < 128 := by
  unfold dgB at h
  by_cases h1 : dgI c.toNat = -1
  · unfold dgP at h
    rw [if_pos h1] at h
    cases h
  · have h2 : dgP b c.toNat = (dgI c.toNat, decide (dgI c.toNat < b)) := by unfold dgP; rw [if_neg h1]
    rw [h2] at h
    refine ⟨?_, of_decide_eq_true h, by rw [h2]; rw [show decide (dgI c.toNat < b) = true from h], ?_⟩
    · unfold dgI at h1 ⊢
      split
      · omega
      · split
        · omega
        · split
          · omega
          · rename_i g1 g2 g3
            rw [if_neg g1, if_neg g2, if_neg g3] at h1
            exact absurd rfl h1
    · refine Classical.byContradiction fun e => h1 (dgI_hi _ (by omega))
theorem run_add64_call (x y : Nat) (w : World) : (callFunc 39 #[.int .u64 (x : Int), .int .u64 (y : Int), .int .u64 0]).run Tryd.prog w =
    .ok (.value (.tuple #[.int .u64 (((x + y) % 18446744073709551616 : Nat) : Int), .int .u64 (((x + y) / 18446744073709551616 : Nat) : Int)])) w := by
  rw [run_callFunc_extern Tryd.func39 (by kernel_rfl) (by kernel_rfl) (by kernel_rfl) (e := add64Entry) (by kernel_rfl), run_add64 x y 0 (by omega) (by omega) (by omega) (by omega)]
  simp only [Result.andThen]
  congr 5 <;> omega
set_option maxHeartbeats 4000000 in
set_option maxRecDepth 100000 in
theorem num_Value.calls (a0 : ByteArray) (r1 r2 : Int) (w : World) (h : num_Value.f a0 = some (r1, r2)) :
    Calls Tryd.prog 24 #[.string a0] w fun e w' => e = .returned (.tuple #[.int .u64 r1, .int .i64 r2]) ∧ Below w.heap.size w w' := by
  unfold num_Value.f at h
  have HV := Aside0.mk (Option.some.inj h)
  clear h
  go_enter Tryd.func24, Tryd.ntmps24
  go_wp2
  refine wp_scope_jumps 0 (fun a' w' => Below w.heap.size w w' ∧ r1 = 0 ∧ r2 = 4 ∧ ∃ u0 u1 u2 u3 u4 u5 u6 u7 u8 u9 u10 u11 u12 u13 u14 u15 u16 u17 u18 u19 u20 u21 u22 u23 u24 u25 u26 u27 u28 u29 u30 u31 u32 u33 u34 u35 u36 u37 u38 u39 u40 u41 u42 u43 u44 u45 u46 u47 u48 u49 u50 u51 u52 u53 u54 u55 u56 u57 u58 : Value, a' = { tmps := #[u0, u1, u2, u3, u4, u5, u6, u7, u8, u9, u10, u11, u12, u13, u14, u15, u16, u17, u18, u19, u20, u21, u22, u23, u24, u25, u26, u27, u28, u29, u30, u31, u32, u33, u34, u35, u36, u37, u38, u39, u40, u41, u42, u43, u44, u45, u46, u47, u48, u49, u50, u51, u52, u53, u54, u55, u56, u57, u58], defers := [] }) (fun _ _ => 0) rfl ?_ ?_
  rotate_left
  · rintro a' w' ⟨HB, rfl, rfl, u0, u1, u2, u3, u4, u5, u6, u7, u8, u9, u10, u11, u12, u13, u14, u15, u16, u17, u18, u19, u20, u21, u22, u23, u24, u25, u26, u27, u28, u29, u30, u31, u32, u33, u34, u35, u36, u37, u38, u39, u40, u41, u42, u43, u44, u45, u46, u47, u48, u49, u50, u51, u52, u53, u54, u55, u56, u57, u58, rfl⟩
    go_wp2
    simp only [Exit.jump]
    go_ret2
    exact ⟨rfl, HB⟩
  · have key : (hexS a0 = true ∧ decide ((2 : Int) ≤ (a0.size : Int)) = true ∧ ((a0.extract 0 2).toList == [48, 120]) = true) ∨ (hexS a0 = false ∧ decide ((2 : Int) ≤ (a0.size : Int)) = true ∧ ((a0.extract 0 2).toList == [48, 120]) = false) ∨ (hexS a0 = false ∧ decide ((2 : Int) ≤ (a0.size : Int)) = false) := by
      unfold hexS
      by_cases h2 : 2 ≤ a0.size
      · rw [decide_eq_true h2, decide_eq_true (by omega : (2 : Int) ≤ (a0.size : Int)), Bool.true_and]
        cases ((a0.extract 0 2).toList == [48, 120])
        · exact Or.inr (Or.inl ⟨rfl, rfl, rfl⟩)
        · exact Or.inl ⟨rfl, rfl, rfl⟩
      · rw [decide_eq_false h2, decide_eq_false (by omega : ¬ (2 : Int) ≤ (a0.size : Int)), Bool.false_and]
        exact Or.inr (Or.inr ⟨rfl, rfl⟩)
    rcases key with ⟨hx, c1, c2⟩ | ⟨hx, c1, c2⟩ | ⟨hx, c1⟩
    · have hS : (2 : Int) ≤ (a0.size : Int) := of_decide_eq_true c1
      unfold restS baseS at HV
      rw [if_pos hx, if_pos hx] at HV
      clear hx
      go_wp2_with (fail)
      clear c1 c2 hS
      generalize a0.extract 2 a0.size = t at *
      have HB : Aside0 ((16 : Int) = 10 ∨ (16 : Int) = 16) := ⟨by omega⟩
      cases hok : okB t (16 : Int)
      · have HD := Aside0.mk (show num_digits.f t 16 = some false by unfold num_digits.f; rw [if_pos (by omega)]; exact congrArg some hok)
        have HV2 : Aside0 (r1 = 0 ∧ r2 = 3) := ⟨by
          have := HV.out
          rw [show okB t ((16 : Nat) : Int) = false from hok, if_neg (by decide)] at this
          cases this
          exact ⟨rfl, rfl⟩⟩
        clear hok HV
        refine (num_digits.calls t 16 false _ HD.out).mono ?_
        rintro e w1 ⟨rfl, hb_⟩
        have HBel := Aside0.mk hb_
        obtain ⟨rfl, rfl⟩ := HV2.out
        clear hb_ HV2
        go_wp2
        simp only [Exit.jump]
        go_ret2
        exact ⟨rfl, HBel.out⟩
      · have HD := Aside0.mk (show num_digits.f t 16 = some true by unfold num_digits.f; rw [if_pos (by omega)]; exact congrArg some hok)
        have HV2 : Aside0 ((match valL 16 t.data.toList 0 with | some v => (((v : Nat) : Int), (0 : Int)) | none => (0, 4)) = (r1, r2)) := ⟨by
          have := HV.out
          rw [show okB t ((16 : Nat) : Int) = true from hok, if_pos rfl] at this
          exact this⟩
        have HALL : Aside0 (∀ (k : Nat) (hk : k < t.size), dgB 16 (t[k]'hk) = true) := ⟨fun k hk => by
          have h1 := hok
          unfold okB at h1
          rw [Bool.and_eq_true] at h1
          exact List.all_eq_true.1 h1.1 _ (List.getElem_mem (by simpa using hk))⟩
        clear hok HV
        refine (num_digits.calls t 16 true _ HD.out).mono ?_
        rintro e w1 ⟨rfl, hb_⟩
        have HBel := Aside0.mk hb_
        clear hb_
        go_wp2
        go_loopw [4] (fun v4 wr => ∃ pos v : Nat, v4 = .int .u64 (v : Int) ∧ pos ≤ t.size ∧ v < 18446744073709551616 ∧ Aside0 (wr.heap[w1.heap.size]? = some (.stringIter t pos)) ∧ Aside0 (Below w.heap.size w wr) ∧ Aside0 (valL 16 (t.data.toList.drop pos) v = valL 16 t.data.toList 0)) (fun _ wr => t.size - wr.iterPos w1.heap.size)
        case atStart => exact ⟨0, 0, rfl, Nat.zero_le _, by omega, ⟨World.iter_heap w1 t 0⟩, ⟨below_alloc HBel.out _⟩, ⟨by simp⟩⟩
        case round =>
          obtain ⟨pos, v, rfl, hle, hv, HI, HBw, HVL⟩ := hrel
          by_cases hp : pos < t.size
          · obtain ⟨g0, g1, g2, g3⟩ := dgI_lt (HALL.out pos hp)
            have hnx : ∀ ty, (Instr.next (.pointer (some ⟨w1.heap.size, 0, none⟩)) true ty).run Tryd.prog wr = _ := fun ty => Go.Lib.run_next_ascii_at wr w1.heap.size t pos ty HI.out hp g3
            have HI2 := Aside0.mk (Go.Lib.iterAt_heap wr w1.heap.size t pos (pos + 1) HI.out)
            have HB2 := Aside0.mk (Go.Lib.below_iterAt HBw.out HBel.out.size t (pos + 1))
            have HIP : Aside0 (wr.iterPos w1.heap.size = pos) := ⟨by unfold World.iterPos; rw [HI.out]⟩
            have HDG := Aside0.mk (digit_f ((t[pos]'hp).toNat : Int) 16 (by omega) (by omega))
            rw [g2] at HDG
            obtain ⟨d, hd⟩ : ∃ d : Nat, dgI ((t[pos]'hp).toNat : Int) = (d : Int) := ⟨_, (Int.toNat_of_nonneg g0).symm⟩
            have hst : valL 16 (t.data.toList.drop pos) v = if v * 16 + d < 18446744073709551616 then valL 16 (t.data.toList.drop (pos + 1)) (v * 16 + d) else none := by
              have e : t.data.toList.drop pos = (t[pos]'hp) :: t.data.toList.drop (pos + 1) := List.drop_eq_getElem_cons (by simpa using hp)
              rw [e, valL, hd]
              rfl
            rw [hd] at HDG
            have HM := Aside0.mk (mul64_f v 16 hv (by decide))
            have hP := Aside0.mk hp
            have hd16 : d < 16 := by omega
            have hle2 : pos + 1 ≤ t.size := hp
            have HVS := Aside0.mk (hst.symm.trans HVL.out)
            clear HI HBw HVL hst g0 g1 g2 g3 hd hP
            generalize ((t[pos]'hp).toNat : Int) = c at *
            clear hp hle
            generalize hwx : wr.iterAt w1.heap.size t (pos + 1) = wx at *
            clear hwx
            obtain ⟨m, hm⟩ : ∃ m, v * 16 = m := ⟨_, rfl⟩
            rw [hm] at HM HVS
            by_cases hlt : m + d < 18446744073709551616
            · rw [if_pos hlt] at HVS
              rw [show m / 18446744073709551616 = 0 by omega, show m % 18446744073709551616 = m by omega] at HM
              have hadd : ∀ W, (callFunc 39 #[.int .u64 (m : Int), .int .u64 (d : Int), .int .u64 0]).run Tryd.prog W = .ok (.value (.tuple #[.int .u64 ((m + d : Nat) : Int), .int .u64 0])) W := fun W => by
                rw [run_add64_call m d W, show (m + d) % 18446744073709551616 = m + d by omega, show (m + d) / 18446744073709551616 = 0 by omega]
                rfl
              have HLT := Aside0.mk hlt
              clear hm hlt hd16
              generalize m + d = n at *
              go_wp2_with (fail)
              refine (num_digit.calls 3 c 16 d true _ HDG.out).mono ?_
              rintro e wa ⟨rfl, hx_⟩
              have HI3 := Aside0.mk (blk_below HI2.out hx_.below)
              have HB3 := Aside0.mk (HB2.out.trans (hx_.below.mono HB2.out.size))
              clear hx_ HI2 HB2
              go_wp2_with (fail)
              refine (bits_Mul64.calls v 16 0 m _ HM.out).mono ?_
              rintro e wb ⟨rfl, hx_⟩
              have HI4 := Aside0.mk (blk_below HI3.out hx_.below)
              have HB4 := Aside0.mk (HB3.out.trans (hx_.below.mono HB3.out.size))
              clear hx_ HI3 HB3
              go_wp2
              refine ⟨⟨pos + 1, n, rfl, hle2, HLT.out, HI4, HB4, HVS⟩, ?_⟩
              rw [HIP.out]
              unfold World.iterPos
              rw [HI4.out]
              show t.size - (pos + 1) < t.size - pos
              omega
            · rw [if_neg hlt] at HVS
              have HJ : Aside0 (r1 = 0 ∧ r2 = 4) := ⟨by
                have := HV2.out
                rw [← HVS.out] at this
                cases this
                exact ⟨rfl, rfl⟩⟩
              have hadd := run_add64_call (m % 18446744073709551616) d
              have hc : ((((m / 18446744073709551616 : Nat) : Int) != 0) = true) ∨ ((((m / 18446744073709551616 : Nat) : Int) != 0) = false ∧ (((((m % 18446744073709551616 + d) / 18446744073709551616 : Nat)) : Int) != 0) = true) := by
                by_cases hz : m / 18446744073709551616 = 0
                · refine Or.inr ⟨by rw [hz]; rfl, bne_iff_ne.2 (by omega)⟩
                · exact Or.inl (bne_iff_ne.2 (by omega))
              clear hm hlt hd16 HVS
              generalize (m % 18446744073709551616 + d) / 18446744073709551616 = cy at *
              generalize (m % 18446744073709551616 + d) % 18446744073709551616 = sm at *
              generalize m / 18446744073709551616 = hi at *
              generalize m % 18446744073709551616 = lo at *
              obtain ⟨rfl, rfl⟩ := HJ.out
              clear HJ HV2
              rcases hc with hc | ⟨hc, hc2⟩
              all_goals
                go_wp2_with (fail)
                refine (num_digit.calls 3 c 16 d true _ HDG.out).mono ?_
                rintro e wa ⟨rfl, hx_⟩
                have HB3 := Aside0.mk (HB2.out.trans (hx_.below.mono HB2.out.size))
                clear hx_ HI2 HB2
                go_wp2_with (fail)
                refine (bits_Mul64.calls v 16 hi lo _ HM.out).mono ?_
                rintro e wb ⟨rfl, hx_⟩
                have HB4 := Aside0.mk (HB3.out.trans (hx_.below.mono HB3.out.size))
                clear hx_ HB3
                go_wp2
                go_step3
                exact And.intro rfl (And.intro HB4.out (And.intro rfl (And.intro rfl ⟨_, _, _, _, _, _, _, _, _, _, _, _, _, _, _, _, _, _, _, _, _, _, _, _, _, _, _, _, _, _, _, _, _, _, _, _, _, _, _, _, _, _, _, _, _, _, _, _, _, _, _, _, _, _, _, _, _, _, _, rfl⟩)))
          · have hnx : ∀ ty, (Instr.next (.pointer (some ⟨w1.heap.size, 0, none⟩)) true ty).run Tryd.prog wr = _ := fun ty => Go.Lib.run_next_end_at wr w1.heap.size t pos ty HI.out hp
            have HR : Aside0 (r1 = (v : Int) ∧ r2 = 0) := ⟨by
              have h1 := HVL.out
              rw [List.drop_eq_nil_of_le (by simp; omega), valL] at h1
              have := HV2.out
              rw [← h1] at this
              cases this
              exact ⟨rfl, rfl⟩⟩
            clear HI HVL hle hv hp HV2
            obtain ⟨rfl, rfl⟩ := HR.out
            clear HR
            go_wp2
            simp only [Exit.jump]
            go_ret2
            exact ⟨rfl, HBw.out⟩
    · have hS : (2 : Int) ≤ (a0.size : Int) := of_decide_eq_true c1
      unfold restS baseS at HV
      rw [hx, if_neg (show ¬ (false = true) by decide), if_neg (show ¬ (false = true) by decide)] at HV
      clear hx
      go_wp2_with (fail)
      clear c1 c2 hS
      have HB : Aside0 ((10 : Int) = 10 ∨ (10 : Int) = 10) := ⟨by omega⟩
      cases hok : okB a0 (10 : Int)
      · have HD := Aside0.mk (show num_digits.f a0 10 = some false by unfold num_digits.f; rw [if_pos (by omega)]; exact congrArg some hok)
        have HV2 : Aside0 (r1 = 0 ∧ r2 = 3) := ⟨by
          have := HV.out
          rw [show okB a0 ((10 : Nat) : Int) = false from hok, if_neg (by decide)] at this
          cases this
          exact ⟨rfl, rfl⟩⟩
        clear hok HV
        refine (num_digits.calls a0 10 false _ HD.out).mono ?_
        rintro e w1 ⟨rfl, hb_⟩
        have HBel := Aside0.mk hb_
        obtain ⟨rfl, rfl⟩ := HV2.out
        clear hb_ HV2
        go_wp2
        simp only [Exit.jump]
        go_ret2
        exact ⟨rfl, HBel.out⟩
      · have HD := Aside0.mk (show num_digits.f a0 10 = some true by unfold num_digits.f; rw [if_pos (by omega)]; exact congrArg some hok)
        have HV2 : Aside0 ((match valL 10 a0.data.toList 0 with | some v => (((v : Nat) : Int), (0 : Int)) | none => (0, 4)) = (r1, r2)) := ⟨by
          have := HV.out
          rw [show okB a0 ((10 : Nat) : Int) = true from hok, if_pos rfl] at this
          exact this⟩
        have HALL : Aside0 (∀ (k : Nat) (hk : k < a0.size), dgB 10 (a0[k]'hk) = true) := ⟨fun k hk => by
          have h1 := hok
          unfold okB at h1
          rw [Bool.and_eq_true] at h1
          exact List.all_eq_true.1 h1.1 _ (List.getElem_mem (by simpa using hk))⟩
        clear hok HV
        refine (num_digits.calls a0 10 true _ HD.out).mono ?_
        rintro e w1 ⟨rfl, hb_⟩
        have HBel := Aside0.mk hb_
        clear hb_
        go_wp2
        go_loopw [4] (fun v4 wr => ∃ pos v : Nat, v4 = .int .u64 (v : Int) ∧ pos ≤ a0.size ∧ v < 18446744073709551616 ∧ Aside0 (wr.heap[w1.heap.size]? = some (.stringIter a0 pos)) ∧ Aside0 (Below w.heap.size w wr) ∧ Aside0 (valL 10 (a0.data.toList.drop pos) v = valL 10 a0.data.toList 0)) (fun _ wr => a0.size - wr.iterPos w1.heap.size)
        case atStart => exact ⟨0, 0, rfl, Nat.zero_le _, by omega, ⟨World.iter_heap w1 a0 0⟩, ⟨below_alloc HBel.out _⟩, ⟨by simp⟩⟩
        case round =>
          obtain ⟨pos, v, rfl, hle, hv, HI, HBw, HVL⟩ := hrel
          by_cases hp : pos < a0.size
          · obtain ⟨g0, g1, g2, g3⟩ := dgI_lt (HALL.out pos hp)
            have hnx : ∀ ty, (Instr.next (.pointer (some ⟨w1.heap.size, 0, none⟩)) true ty).run Tryd.prog wr = _ := fun ty => Go.Lib.run_next_ascii_at wr w1.heap.size a0 pos ty HI.out hp g3
            have HI2 := Aside0.mk (Go.Lib.iterAt_heap wr w1.heap.size a0 pos (pos + 1) HI.out)
            have HB2 := Aside0.mk (Go.Lib.below_iterAt HBw.out HBel.out.size a0 (pos + 1))
            have HIP : Aside0 (wr.iterPos w1.heap.size = pos) := ⟨by unfold World.iterPos; rw [HI.out]⟩
            have HDG := Aside0.mk (digit_f ((a0[pos]'hp).toNat : Int) 10 (by omega) (by omega))
            rw [g2] at HDG
            obtain ⟨d, hd⟩ : ∃ d : Nat, dgI ((a0[pos]'hp).toNat : Int) = (d : Int) := ⟨_, (Int.toNat_of_nonneg g0).symm⟩
            have hst : valL 10 (a0.data.toList.drop pos) v = if v * 10 + d < 18446744073709551616 then valL 10 (a0.data.toList.drop (pos + 1)) (v * 10 + d) else none := by
              have e : a0.data.toList.drop pos = (a0[pos]'hp) :: a0.data.toList.drop (pos + 1) := List.drop_eq_getElem_cons (by simpa using hp)
              rw [e, valL, hd]
              rfl
            rw [hd] at HDG
            have HM := Aside0.mk (mul64_f v 10 hv (by decide))
            have hP := Aside0.mk hp
            have hd16 : d < 10 := by omega
            have hle2 : pos + 1 ≤ a0.size := hp
            have HVS := Aside0.mk (hst.symm.trans HVL.out)
            clear HI HBw HVL hst g0 g1 g2 g3 hd hP
            generalize ((a0[pos]'hp).toNat : Int) = c at *
            clear hp hle
            generalize hwx : wr.iterAt w1.heap.size a0 (pos + 1) = wx at *
            clear hwx
            obtain ⟨m, hm⟩ : ∃ m, v * 10 = m := ⟨_, rfl⟩
            rw [hm] at HM HVS
            by_cases hlt : m + d < 18446744073709551616
            · rw [if_pos hlt] at HVS
              rw [show m / 18446744073709551616 = 0 by omega, show m % 18446744073709551616 = m by omega] at HM
              have hadd : ∀ W, (callFunc 39 #[.int .u64 (m : Int), .int .u64 (d : Int), .int .u64 0]).run Tryd.prog W = .ok (.value (.tuple #[.int .u64 ((m + d : Nat) : Int), .int .u64 0])) W := fun W => by
                rw [run_add64_call m d W, show (m + d) % 18446744073709551616 = m + d by omega, show (m + d) / 18446744073709551616 = 0 by omega]
                rfl
              have HLT := Aside0.mk hlt
              clear hm hlt hd16
              generalize m + d = n at *
              go_wp2_with (fail)
              refine (num_digit.calls 3 c 10 d true _ HDG.out).mono ?_
              rintro e wa ⟨rfl, hx_⟩
              have HI3 := Aside0.mk (blk_below HI2.out hx_.below)
              have HB3 := Aside0.mk (HB2.out.trans (hx_.below.mono HB2.out.size))
              clear hx_ HI2 HB2
              go_wp2_with (fail)
              refine (bits_Mul64.calls v 10 0 m _ HM.out).mono ?_
              rintro e wb ⟨rfl, hx_⟩
              have HI4 := Aside0.mk (blk_below HI3.out hx_.below)
              have HB4 := Aside0.mk (HB3.out.trans (hx_.below.mono HB3.out.size))
              clear hx_ HI3 HB3
              go_wp2
              refine ⟨⟨pos + 1, n, rfl, hle2, HLT.out, HI4, HB4, HVS⟩, ?_⟩
              rw [HIP.out]
              unfold World.iterPos
              rw [HI4.out]
              show a0.size - (pos + 1) < a0.size - pos
              omega
            · rw [if_neg hlt] at HVS
              have HJ : Aside0 (r1 = 0 ∧ r2 = 4) := ⟨by
                have := HV2.out
                rw [← HVS.out] at this
                cases this
                exact ⟨rfl, rfl⟩⟩
              have hadd := run_add64_call (m % 18446744073709551616) d
              have hc : ((((m / 18446744073709551616 : Nat) : Int) != 0) = true) ∨ ((((m / 18446744073709551616 : Nat) : Int) != 0) = false ∧ (((((m % 18446744073709551616 + d) / 18446744073709551616 : Nat)) : Int) != 0) = true) := by
                by_cases hz : m / 18446744073709551616 = 0
                · refine Or.inr ⟨by rw [hz]; rfl, bne_iff_ne.2 (by omega)⟩
                · exact Or.inl (bne_iff_ne.2 (by omega))
              clear hm hlt hd16 HVS
              generalize (m % 18446744073709551616 + d) / 18446744073709551616 = cy at *
              generalize (m % 18446744073709551616 + d) % 18446744073709551616 = sm at *
              generalize m / 18446744073709551616 = hi at *
              generalize m % 18446744073709551616 = lo at *
              obtain ⟨rfl, rfl⟩ := HJ.out
              clear HJ HV2
              rcases hc with hc | ⟨hc, hc2⟩
              all_goals
                go_wp2_with (fail)
                refine (num_digit.calls 3 c 10 d true _ HDG.out).mono ?_
                rintro e wa ⟨rfl, hx_⟩
                have HB3 := Aside0.mk (HB2.out.trans (hx_.below.mono HB2.out.size))
                clear hx_ HI2 HB2
                go_wp2_with (fail)
                refine (bits_Mul64.calls v 10 hi lo _ HM.out).mono ?_
                rintro e wb ⟨rfl, hx_⟩
                have HB4 := Aside0.mk (HB3.out.trans (hx_.below.mono HB3.out.size))
                clear hx_ HB3
                go_wp2
                go_step3
                exact And.intro rfl (And.intro HB4.out (And.intro rfl (And.intro rfl ⟨_, _, _, _, _, _, _, _, _, _, _, _, _, _, _, _, _, _, _, _, _, _, _, _, _, _, _, _, _, _, _, _, _, _, _, _, _, _, _, _, _, _, _, _, _, _, _, _, _, _, _, _, _, _, _, _, _, _, _, rfl⟩)))
          · have hnx : ∀ ty, (Instr.next (.pointer (some ⟨w1.heap.size, 0, none⟩)) true ty).run Tryd.prog wr = _ := fun ty => Go.Lib.run_next_end_at wr w1.heap.size a0 pos ty HI.out hp
            have HR : Aside0 (r1 = (v : Int) ∧ r2 = 0) := ⟨by
              have h1 := HVL.out
              rw [List.drop_eq_nil_of_le (by simp; omega), valL] at h1
              have := HV2.out
              rw [← h1] at this
              cases this
              exact ⟨rfl, rfl⟩⟩
            clear HI HVL hle hv hp HV2
            obtain ⟨rfl, rfl⟩ := HR.out
            clear HR
            go_wp2
            simp only [Exit.jump]
            go_ret2
            exact ⟨rfl, HBw.out⟩
    · unfold restS baseS at HV
      rw [hx, if_neg (show ¬ (false = true) by decide), if_neg (show ¬ (false = true) by decide)] at HV
      clear hx
      go_wp2_with (fail)
      clear c1
      have HB : Aside0 ((10 : Int) = 10 ∨ (10 : Int) = 10) := ⟨by omega⟩
      cases hok : okB a0 (10 : Int)
      · have HD := Aside0.mk (show num_digits.f a0 10 = some false by unfold num_digits.f; rw [if_pos (by omega)]; exact congrArg some hok)
        have HV2 : Aside0 (r1 = 0 ∧ r2 = 3) := ⟨by
          have := HV.out
          rw [show okB a0 ((10 : Nat) : Int) = false from hok, if_neg (by decide)] at this
          cases this
          exact ⟨rfl, rfl⟩⟩
        clear hok HV
        refine (num_digits.calls a0 10 false _ HD.out).mono ?_
        rintro e w1 ⟨rfl, hb_⟩
        have HBel := Aside0.mk hb_
        obtain ⟨rfl, rfl⟩ := HV2.out
        clear hb_ HV2
        go_wp2
        simp only [Exit.jump]
        go_ret2
        exact ⟨rfl, HBel.out⟩
      · have HD := Aside0.mk (show num_digits.f a0 10 = some true by unfold num_digits.f; rw [if_pos (by omega)]; exact congrArg some hok)
        have HV2 : Aside0 ((match valL 10 a0.data.toList 0 with | some v => (((v : Nat) : Int), (0 : Int)) | none => (0, 4)) = (r1, r2)) := ⟨by
          have := HV.out
          rw [show okB a0 ((10 : Nat) : Int) = true from hok, if_pos rfl] at this
          exact this⟩
        have HALL : Aside0 (∀ (k : Nat) (hk : k < a0.size), dgB 10 (a0[k]'hk) = true) := ⟨fun k hk => by
          have h1 := hok
          unfold okB at h1
          rw [Bool.and_eq_true] at h1
          exact List.all_eq_true.1 h1.1 _ (List.getElem_mem (by simpa using hk))⟩
        clear hok HV
        refine (num_digits.calls a0 10 true _ HD.out).mono ?_
        rintro e w1 ⟨rfl, hb_⟩
        have HBel := Aside0.mk hb_
        clear hb_
        go_wp2
        go_loopw [4] (fun v4 wr => ∃ pos v : Nat, v4 = .int .u64 (v : Int) ∧ pos ≤ a0.size ∧ v < 18446744073709551616 ∧ Aside0 (wr.heap[w1.heap.size]? = some (.stringIter a0 pos)) ∧ Aside0 (Below w.heap.size w wr) ∧ Aside0 (valL 10 (a0.data.toList.drop pos) v = valL 10 a0.data.toList 0)) (fun _ wr => a0.size - wr.iterPos w1.heap.size)
        case atStart => exact ⟨0, 0, rfl, Nat.zero_le _, by omega, ⟨World.iter_heap w1 a0 0⟩, ⟨below_alloc HBel.out _⟩, ⟨by simp⟩⟩
        case round =>
          obtain ⟨pos, v, rfl, hle, hv, HI, HBw, HVL⟩ := hrel
          by_cases hp : pos < a0.size
          · obtain ⟨g0, g1, g2, g3⟩ := dgI_lt (HALL.out pos hp)
            have hnx : ∀ ty, (Instr.next (.pointer (some ⟨w1.heap.size, 0, none⟩)) true ty).run Tryd.prog wr = _ := fun ty => Go.Lib.run_next_ascii_at wr w1.heap.size a0 pos ty HI.out hp g3
            have HI2 := Aside0.mk (Go.Lib.iterAt_heap wr w1.heap.size a0 pos (pos + 1) HI.out)
            have HB2 := Aside0.mk (Go.Lib.below_iterAt HBw.out HBel.out.size a0 (pos + 1))
            have HIP : Aside0 (wr.iterPos w1.heap.size = pos) := ⟨by unfold World.iterPos; rw [HI.out]⟩
            have HDG := Aside0.mk (digit_f ((a0[pos]'hp).toNat : Int) 10 (by omega) (by omega))
            rw [g2] at HDG
            obtain ⟨d, hd⟩ : ∃ d : Nat, dgI ((a0[pos]'hp).toNat : Int) = (d : Int) := ⟨_, (Int.toNat_of_nonneg g0).symm⟩
            have hst : valL 10 (a0.data.toList.drop pos) v = if v * 10 + d < 18446744073709551616 then valL 10 (a0.data.toList.drop (pos + 1)) (v * 10 + d) else none := by
              have e : a0.data.toList.drop pos = (a0[pos]'hp) :: a0.data.toList.drop (pos + 1) := List.drop_eq_getElem_cons (by simpa using hp)
              rw [e, valL, hd]
              rfl
            rw [hd] at HDG
            have HM := Aside0.mk (mul64_f v 10 hv (by decide))
            have hP := Aside0.mk hp
            have hd16 : d < 10 := by omega
            have hle2 : pos + 1 ≤ a0.size := hp
            have HVS := Aside0.mk (hst.symm.trans HVL.out)
            clear HI HBw HVL hst g0 g1 g2 g3 hd hP
            generalize ((a0[pos]'hp).toNat : Int) = c at *
            clear hp hle
            generalize hwx : wr.iterAt w1.heap.size a0 (pos + 1) = wx at *
            clear hwx
            obtain ⟨m, hm⟩ : ∃ m, v * 10 = m := ⟨_, rfl⟩
            rw [hm] at HM HVS
            by_cases hlt : m + d < 18446744073709551616
            · rw [if_pos hlt] at HVS
              rw [show m / 18446744073709551616 = 0 by omega, show m % 18446744073709551616 = m by omega] at HM
              have hadd : ∀ W, (callFunc 39 #[.int .u64 (m : Int), .int .u64 (d : Int), .int .u64 0]).run Tryd.prog W = .ok (.value (.tuple #[.int .u64 ((m + d : Nat) : Int), .int .u64 0])) W := fun W => by
                rw [run_add64_call m d W, show (m + d) % 18446744073709551616 = m + d by omega, show (m + d) / 18446744073709551616 = 0 by omega]
                rfl
              have HLT := Aside0.mk hlt
              clear hm hlt hd16
              generalize m + d = n at *
              go_wp2_with (fail)
              refine (num_digit.calls 3 c 10 d true _ HDG.out).mono ?_
              rintro e wa ⟨rfl, hx_⟩
              have HI3 := Aside0.mk (blk_below HI2.out hx_.below)
              have HB3 := Aside0.mk (HB2.out.trans (hx_.below.mono HB2.out.size))
              clear hx_ HI2 HB2
              go_wp2_with (fail)
              refine (bits_Mul64.calls v 10 0 m _ HM.out).mono ?_
              rintro e wb ⟨rfl, hx_⟩
              have HI4 := Aside0.mk (blk_below HI3.out hx_.below)
              have HB4 := Aside0.mk (HB3.out.trans (hx_.below.mono HB3.out.size))
              clear hx_ HI3 HB3
              go_wp2
              refine ⟨⟨pos + 1, n, rfl, hle2, HLT.out, HI4, HB4, HVS⟩, ?_⟩
              rw [HIP.out]
              unfold World.iterPos
              rw [HI4.out]
              show a0.size - (pos + 1) < a0.size - pos
              omega
            · rw [if_neg hlt] at HVS
              have HJ : Aside0 (r1 = 0 ∧ r2 = 4) := ⟨by
                have := HV2.out
                rw [← HVS.out] at this
                cases this
                exact ⟨rfl, rfl⟩⟩
              have hadd := run_add64_call (m % 18446744073709551616) d
              have hc : ((((m / 18446744073709551616 : Nat) : Int) != 0) = true) ∨ ((((m / 18446744073709551616 : Nat) : Int) != 0) = false ∧ (((((m % 18446744073709551616 + d) / 18446744073709551616 : Nat)) : Int) != 0) = true) := by
                by_cases hz : m / 18446744073709551616 = 0
                · refine Or.inr ⟨by rw [hz]; rfl, bne_iff_ne.2 (by omega)⟩
                · exact Or.inl (bne_iff_ne.2 (by omega))
              clear hm hlt hd16 HVS
              generalize (m % 18446744073709551616 + d) / 18446744073709551616 = cy at *
              generalize (m % 18446744073709551616 + d) % 18446744073709551616 = sm at *
              generalize m / 18446744073709551616 = hi at *
              generalize m % 18446744073709551616 = lo at *
              obtain ⟨rfl, rfl⟩ := HJ.out
              clear HJ HV2
              rcases hc with hc | ⟨hc, hc2⟩
              all_goals
                go_wp2_with (fail)
                refine (num_digit.calls 3 c 10 d true _ HDG.out).mono ?_
                rintro e wa ⟨rfl, hx_⟩
                have HB3 := Aside0.mk (HB2.out.trans (hx_.below.mono HB2.out.size))
                clear hx_ HI2 HB2
                go_wp2_with (fail)
                refine (bits_Mul64.calls v 10 hi lo _ HM.out).mono ?_
                rintro e wb ⟨rfl, hx_⟩
                have HB4 := Aside0.mk (HB3.out.trans (hx_.below.mono HB3.out.size))
                clear hx_ HB3
                go_wp2
                go_step3
                exact And.intro rfl (And.intro HB4.out (And.intro rfl (And.intro rfl ⟨_, _, _, _, _, _, _, _, _, _, _, _, _, _, _, _, _, _, _, _, _, _, _, _, _, _, _, _, _, _, _, _, _, _, _, _, _, _, _, _, _, _, _, _, _, _, _, _, _, _, _, _, _, _, _, _, _, _, _, rfl⟩)))
          · have hnx : ∀ ty, (Instr.next (.pointer (some ⟨w1.heap.size, 0, none⟩)) true ty).run Tryd.prog wr = _ := fun ty => Go.Lib.run_next_end_at wr w1.heap.size a0 pos ty HI.out hp
            have HR : Aside0 (r1 = (v : Int) ∧ r2 = 0) := ⟨by
              have h1 := HVL.out
              rw [List.drop_eq_nil_of_le (by simp; omega), valL] at h1
              have := HV2.out
              rw [← h1] at this
              cases this
              exact ⟨rfl, rfl⟩⟩
            clear HI HVL hle hv hp HV2
            obtain ⟨rfl, rfl⟩ := HR.out
            clear HR
            go_wp2
            simp only [Exit.jump]
            go_ret2
            exact ⟨rfl, HBw.out⟩

-- NOT PRINTED: function 48 (strconv_small)

end Go.Proofs.YtmolcgkahhdkgaaDoor.P
