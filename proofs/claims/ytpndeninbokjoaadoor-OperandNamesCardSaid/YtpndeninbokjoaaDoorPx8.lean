-- printed by wip/tools/myprint.py out of the translation. Not trusted: Lean checks it.
import Derived.Test.YtpndeninbokjoaaDoorPx0
import Derived.Test.YtpndeninbokjoaaDoorPx2
import Derived.Test.YtpndeninbokjoaaDoorPx3
import Derived.Test.YtpndeninbokjoaaDoorPx4
import Derived.Test.YtpndeninbokjoaaDoorPx5
import Derived.Test.YtpndeninbokjoaaDoorPx6
import Derived.Test.YtpndeninbokjoaaDoorPx7
namespace Go.Proofs.YtpndeninbokjoaaDoor.P
open Go.RowKit Go.Proofs.YtpndeninbokjoaaDoorW.PrintWords Go.Proofs.YtpndeninbokjoaaDoorW.PrintLast Go.Proofs.YtpndeninbokjoaaDoorW.PrintMore
attribute [local go_sem] max2_int min2_int max_two min_two max_three min_three max_four min_four   -- for this text's walks alone
set_option linter.unusedVariables false
set_option linter.unusedSimpArgs false

/-! ### operand_shift: function 25 -/
def operand_shift.f (a0 : ByteArray) : Option (Int) := if a0.toList = ([108, 115, 108] : List UInt8) then (some 0) else (if a0.toList = ([108, 115, 114] : List UInt8) then (some 1) else (if a0.toList = ([97, 115, 114] : List UInt8) then (some 2) else (if a0.toList = ([114, 111, 114] : List UInt8) then (some 3) else (some (-1)))))
set_option maxHeartbeats 8000000 in
set_option maxRecDepth 100000 in
theorem operand_shift.calls (a0 : ByteArray) (r : Int) (w : World) (h : operand_shift.f a0 = some r) :
  Calls Tryd.prog 25 #[.string a0] w fun e w' => e = .returned (.int .i64 r) ∧ Drawn0 w w' := by
 have H : (if a0.toList = ([108, 115, 108] : List UInt8) then (some 0) else (if a0.toList = ([108, 115, 114] : List UInt8) then (some 1) else (if a0.toList = ([97, 115, 114] : List UInt8) then (some 2) else (if a0.toList = ([114, 111, 114] : List UInt8) then (some 3) else (some (-1)))))) = some r := h
 clear h
 by_cases c2 : a0.toList = ([108, 115, 108] : List UInt8)
 ·rw [if_pos c2] at H
  have c2b0 : (a0.toList == ([108, 115, 108] : List UInt8)) = true := beq_iff_eq.mpr c2
  have c2b1 : (a0.toList != ([108, 115, 108] : List UInt8)) = false := bne_eq_false_iff_eq.mpr c2
  clear c2
  obtain rfl := Option.some.inj H
  go_enter Tryd.func25, Tryd.ntmps25
  go_wp2
  go_ret
  exact ⟨by first | rfl | (simp; done) | (simp [*]; done), by repeat (first | exact Drawn0.refl _ | apply Drawn0.step)⟩
 ·rw [if_neg c2] at H
  have c2b0 : (a0.toList == ([108, 115, 108] : List UInt8)) = false := beq_eq_false_iff_ne.mpr c2
  have c2b1 : (a0.toList != ([108, 115, 108] : List UInt8)) = true := bne_iff_ne.mpr c2
  by_cases c3 : a0.toList = ([108, 115, 114] : List UInt8)
  ·rw [if_pos c3] at H
   have c3b0 : (a0.toList == ([108, 115, 114] : List UInt8)) = true := beq_iff_eq.mpr c3
   have c3b1 : (a0.toList != ([108, 115, 114] : List UInt8)) = false := bne_eq_false_iff_eq.mpr c3
   clear c3
   obtain rfl := Option.some.inj H
   go_enter Tryd.func25, Tryd.ntmps25
   go_wp2
   go_ret
   exact ⟨by first | rfl | (simp; done) | (simp [*]; done), by repeat (first | exact Drawn0.refl _ | apply Drawn0.step)⟩
  ·rw [if_neg c3] at H
   have c3b0 : (a0.toList == ([108, 115, 114] : List UInt8)) = false := beq_eq_false_iff_ne.mpr c3
   have c3b1 : (a0.toList != ([108, 115, 114] : List UInt8)) = true := bne_iff_ne.mpr c3
   by_cases c4 : a0.toList = ([97, 115, 114] : List UInt8)
   ·rw [if_pos c4] at H
    have c4b0 : (a0.toList == ([97, 115, 114] : List UInt8)) = true := beq_iff_eq.mpr c4
    have c4b1 : (a0.toList != ([97, 115, 114] : List UInt8)) = false := bne_eq_false_iff_eq.mpr c4
    clear c4
    obtain rfl := Option.some.inj H
    go_enter Tryd.func25, Tryd.ntmps25
    go_wp2
    go_ret
    exact ⟨by first | rfl | (simp; done) | (simp [*]; done), by repeat (first | exact Drawn0.refl _ | apply Drawn0.step)⟩
   ·rw [if_neg c4] at H
    have c4b0 : (a0.toList == ([97, 115, 114] : List UInt8)) = false := beq_eq_false_iff_ne.mpr c4
    have c4b1 : (a0.toList != ([97, 115, 114] : List UInt8)) = true := bne_iff_ne.mpr c4
    by_cases c5 : a0.toList = ([114, 111, 114] : List UInt8)
    ·rw [if_pos c5] at H
     have c5b0 : (a0.toList == ([114, 111, 114] : List UInt8)) = true := beq_iff_eq.mpr c5
     have c5b1 : (a0.toList != ([114, 111, 114] : List UInt8)) = false := bne_eq_false_iff_eq.mpr c5
     clear c5
     obtain rfl := Option.some.inj H
     go_enter Tryd.func25, Tryd.ntmps25
     go_wp2
     go_ret
     exact ⟨by first | rfl | (simp; done) | (simp [*]; done), by repeat (first | exact Drawn0.refl _ | apply Drawn0.step)⟩
    ·rw [if_neg c5] at H
     have c5b0 : (a0.toList == ([114, 111, 114] : List UInt8)) = false := beq_eq_false_iff_ne.mpr c5
     have c5b1 : (a0.toList != ([114, 111, 114] : List UInt8)) = true := bne_iff_ne.mpr c5
     obtain rfl := Option.some.inj H
     go_enter Tryd.func25, Tryd.ntmps25
     go_wp2
     go_ret
     exact ⟨by first | rfl | (simp; done) | (simp [*]; done), by repeat (first | exact Drawn0.refl _ | apply Drawn0.step)⟩

/-! ### lex_IsWord: function 47 -/
def lex_IsWord.f (a0 : ByteArray) : Option Bool := some (wordB a0.data.toList)
theorem isLD_lo {r : Int} (h : isLD r = true) : r < 128 := by have := isLD_small h; omega
theorem take_next_byteW (s : ByteArray) (k : Nat) (h : k < s.size) : s.data.toList.take (k + 1) = s.data.toList.take k ++ [s[k]'h] := by
  rw [List.take_succ_eq_append_getElem (by simpa using h)]; rfl
theorem hi_let {r : Int} (h : 128 ≤ r) : isLet r = false ∧ isDig r = false := by
  unfold isLet isDig
  simp
  omega
theorem wordB_no {s : ByteArray} {k : Nat} (h : k < s.size) (hd : isLD ((s[k]'h).toNat : Int) = false ∨ (k = 0 ∧ isLet ((s[k]'h).toNat : Int) = false)) : wordB s.data.toList = false := by
  unfold wordB
  rcases hd with hd | ⟨rfl, hd⟩
  · rw [Bool.and_eq_false_iff, Bool.and_eq_false_iff]
    refine Or.inl (Or.inr ?_)
    rw [List.all_eq_false]
    exact ⟨s[k]'h, List.getElem_mem (by simpa using h), by rw [hd]; decide⟩
  · rw [Bool.and_eq_false_iff]
    refine Or.inr ?_
    have : s.data.toList.headD 0 = s[0]'h := by
      rw [List.headD_eq_head?_getD, List.head?_eq_getElem?, List.getElem?_eq_getElem (by simpa using h)]
      rfl
    rw [this]
    exact hd
set_option maxHeartbeats 8000000 in
set_option maxRecDepth 100000 in
theorem lex_IsWord.calls (a0 : ByteArray) (r0 : Bool) (w : World) (h : lex_IsWord.f a0 = some r0) :
    Calls Tryd.prog 47 #[.string a0] w fun e w' => e = .returned (.bool r0) ∧ Below w.heap.size w w' := by
  obtain rfl := Option.some.inj h
  clear h
  by_cases hz : a0.size = 0
  · have c1 : (a0.toList == ([] : List UInt8)) = true := by
      rw [ByteArray.toList_eq, List.eq_nil_of_length_eq_zero (show a0.data.toList.length = 0 by simpa using hz)]; rfl
    have HE : Aside0 (wordB a0.data.toList = false) := ⟨by rw [List.eq_nil_of_length_eq_zero (show a0.data.toList.length = 0 by simpa using hz)]; rfl⟩
    clear hz
    rw [HE.out]
    go_enter Tryd.func47, Tryd.ntmps47
    go_wp2
    go_ret
    exact ⟨rfl, Below.refl _ _⟩
  · have c1 : (a0.toList == ([] : List UInt8)) = false := by
      rw [ByteArray.toList_eq, beq_eq_false_iff_ne]
      intro e
      have := congrArg List.length e
      simp only [List.length_nil, Array.length_toList] at this
      exact hz this
    by_cases h31 : 31 < a0.size
    · have c2 : decide (31 < (a0.size : Int)) = true := decide_eq_true (by omega)
      have HE : Aside0 (wordB a0.data.toList = false) := ⟨by unfold wordB; rw [decide_eq_false (show ¬ a0.data.toList.length ≤ 31 by simp; omega)]; simp⟩
      clear hz h31
      rw [HE.out]
      go_enter Tryd.func47, Tryd.ntmps47
      go_wp2
      go_ret
      exact ⟨rfl, Below.refl _ _⟩
    · have c2 : decide (31 < (a0.size : Int)) = false := decide_eq_false (by omega)
      have HZ : Aside0 (0 < a0.size ∧ a0.size ≤ 31) := ⟨by omega⟩
      clear hz h31
      generalize hans : wordB a0.data.toList = ans
      have HANS := Aside0.mk hans
      clear hans
      go_enter Tryd.func47, Tryd.ntmps47
      go_wp2
      go_loopg [3, 4] (a0.size + 1) (fun gk _ _ wr => ∃ pos : Nat, Aside0 (a0.size - pos < gk ∧ pos ≤ a0.size) ∧ Aside0 (wr.heap[w.heap.size]? = some (.stringIter a0 pos)) ∧ Aside0 (Below w.heap.size w wr) ∧ Aside0 ((a0.data.toList.take pos).all (fun c => isLD c.toNat) = true) ∧ Aside0 (0 < pos → isLet (a0.data.toList.headD 0).toNat = true))
      case atStart => exact ⟨0, ⟨by omega, Nat.zero_le _⟩, ⟨World.iter_heap w a0 0⟩, ⟨below_alloc (Below.refl _ _) _⟩, ⟨by simp⟩, ⟨fun h => absurd h (Nat.lt_irrefl _)⟩⟩
      case round =>
        obtain ⟨pos, HP, HI, HW, HA, HH⟩ := hrel
        rename World => wr
        by_cases hp : pos < a0.size
        · have hnx : ∀ ty, (Instr.next (.pointer (some ⟨w.heap.size, 0, none⟩)) true ty).run Tryd.prog wr = _ := fun ty => Go.Lib.run_next_any_at wr w.heap.size a0 pos ty HI.out hp
          have HI2 := Aside0.mk (Go.Lib.iterAt_heap wr w.heap.size a0 pos (pos + (Utf8.decode a0 pos).2) HI.out)
          have HW2 := Aside0.mk (Go.Lib.below_iterAt HW.out (Nat.le_refl _) a0 (pos + (Utf8.decode a0 pos).2))
          have HG : Aside0 (isLet ((Utf8.decode a0 pos).1 : Int) = isLet ((a0[pos]'hp).toNat : Int) ∧ isDig ((Utf8.decode a0 pos).1 : Int) = isDig ((a0[pos]'hp).toNat : Int) ∧ (isLD ((a0[pos]'hp).toNat : Int) = true → (Utf8.decode a0 pos).2 = 1) ∧ (Utf8.decode a0 pos).1 ≤ 1114111) := ⟨by
            by_cases ha : (a0[pos]'hp).toNat < 128
            · rw [decode_ascii a0 pos hp ha]
              exact ⟨rfl, rfl, fun _ => rfl, by simp only; omega⟩
            · have h2 := (decode_high a0 pos hp (by omega)).1
              have h3 := hi_let (r := ((Utf8.decode a0 pos).1 : Int)) (by omega)
              have h4 := hi_let (r := ((a0[pos]'hp).toNat : Int)) (by omega)
              refine ⟨h3.1.trans h4.1.symm, h3.2.trans h4.2.symm, fun e => ?_, ?_⟩
              · unfold isLD at e
                rw [h4.1, h4.2] at e
                cases e
              · have := Go.Lib.decodeL_rune (a0.data.toList.drop pos)
                rw [Go.Lib.decodeL_drop] at this
                exact this⟩
          have HNO : Aside0 (isLD ((a0[pos]'hp).toNat : Int) = false ∨ (pos = 0 ∧ isLet ((a0[pos]'hp).toNat : Int) = false) → ans = false) := ⟨fun e => HANS.out.symm.trans (wordB_no hp e)⟩
          have HTK := Aside0.mk (take_next_byteW a0 pos hp)
          have HHD : Aside0 (pos = 0 → a0.data.toList.headD 0 = a0[pos]'hp) := ⟨fun e => by
            subst e
            rw [List.headD_eq_head?_getD, List.head?_eq_getElem?, List.getElem?_eq_getElem (by simpa using hp)]
            rfl⟩
          have HPP := Aside0.mk hp
          generalize a0[pos]'hp = by_ at *
          clear HI HW hp
          obtain ⟨c, hc⟩ : ∃ c : Int, ((Utf8.decode a0 pos).1 : Int) = c := ⟨_, rfl⟩
          obtain ⟨z, hz⟩ : ∃ z : Int, (pos : Int) = z := ⟨_, rfl⟩
          have HZP := Aside0.mk hz
          have HC : Aside0 (0 ≤ c ∧ c ≤ 1114111) := ⟨by have := HG.out.2.2.2; omega⟩
          have hwc : IntKind.i64.wrap c = c := (i64_w _).trans (by have := HC.out; simp only [wrap64]; omega)
          rw [hc, hz] at hnx
          rw [hc] at HG
          generalize hq : pos + (Utf8.decode a0 pos).2 = q at *
          have HQ : Aside0 (isLD by_.toNat = true → q = pos + 1) := ⟨fun e => by rw [← hq, HG.out.2.2.1 e]⟩
          clear hq hc hz
          generalize hwx : wr.iterAt w.heap.size a0 q = wx at *
          clear hwx
          have HLT := Aside0.mk (letter_f c)
          have HDG := Aside0.mk (digit_fx c)
          rw [HG.out.1] at HLT
          rw [HG.out.2.1] at HDG
          have HLD : Aside0 (isLD by_.toNat = (isLet by_.toNat || isDig by_.toNat)) := ⟨rfl⟩
          cases hl : isLet (by_.toNat : Int)
          · rw [hl] at HLT HLD HNO
            by_cases h0 : pos = 0
            · have c3 : (z == 0) = true := by rw [beq_iff_eq]; have := HZP.out; omega
              have HE : Aside0 (ans = false) := ⟨HNO.out (Or.inr ⟨h0, rfl⟩)⟩
              clear hl h0
              go_wp2_with (fail)
              refine (lex_letter.calls 3 c false _ HLT.out).mono ?_
              rintro e w' ⟨rfl, ⟨⟨nd, rfl⟩⟩⟩
              go_wp2
              go_ret
              rw [HE.out]
              exact ⟨rfl, pw_below_drewN HW2.out _⟩
            · have c3 : (z == 0) = false := by rw [beq_eq_false_iff_ne]; have := HZP.out; omega
              cases hd : isDig (by_.toNat : Int)
              · rw [hd] at HDG HLD
                have HE : Aside0 (ans = false) := ⟨HNO.out (Or.inl HLD.out)⟩
                clear hl h0 hd
                go_wp2_with (fail)
                refine (lex_letter.calls 3 c false _ HLT.out).mono ?_
                rintro e w' ⟨rfl, ⟨⟨nd, rfl⟩⟩⟩
                go_wp2_with (fail)
                refine (lex_digit.calls c false _ HDG.out).mono ?_
                rintro e w' ⟨rfl, ⟨⟨nd2, rfl⟩⟩⟩
                go_wp2
                go_ret
                rw [HE.out]
                exact ⟨rfl, pw_below_drewN HW2.out _⟩
              · rw [hd] at HDG HLD
                have HH2 := Aside0.mk (HH.out (by omega))
                clear hl h0 hd
                go_wp2_with (fail)
                refine (lex_letter.calls 3 c false _ HLT.out).mono ?_
                rintro e w' ⟨rfl, ⟨⟨nd, rfl⟩⟩⟩
                go_wp2_with (fail)
                refine (lex_digit.calls c true _ HDG.out).mono ?_
                rintro e w' ⟨rfl, ⟨⟨nd2, rfl⟩⟩⟩
                go_wp2
                have hq := HQ.out HLD.out
                subst hq
                go_roundg (a0.size - pos)
                case measure => exact HP.out.1
                case rel => exact ⟨pos + 1, ⟨by have := HPP.out; omega⟩, ⟨HI2.out⟩, ⟨pw_below_drewN HW2.out _⟩, ⟨by rw [HTK.out, List.all_append, HA.out, Bool.true_and, List.all_cons, HLD.out]; rfl⟩, ⟨fun _ => HH2.out⟩⟩
          · rw [hl] at HLT HLD
            have HH2 : Aside0 (isLet (a0.data.toList.headD 0).toNat = true) := ⟨by
              rcases Nat.eq_zero_or_pos pos with h0 | h0
              · rw [HHD.out h0]; exact hl
              · exact HH.out h0⟩
            clear hl
            go_wp2_with (fail)
            refine (lex_letter.calls 3 c true _ HLT.out).mono ?_
            rintro e w' ⟨rfl, ⟨⟨nd, rfl⟩⟩⟩
            go_wp2
            have hq := HQ.out HLD.out
            subst hq
            go_roundg (a0.size - pos)
            case measure => exact HP.out.1
            case rel => exact ⟨pos + 1, ⟨by have := HPP.out; omega⟩, ⟨HI2.out⟩, ⟨pw_below_drewN HW2.out _⟩, ⟨by rw [HTK.out, List.all_append, HA.out, Bool.true_and, List.all_cons, HLD.out]; rfl⟩, ⟨fun _ => HH2.out⟩⟩
        · have hnx : ∀ ty, (Instr.next (.pointer (some ⟨w.heap.size, 0, none⟩)) true ty).run Tryd.prog wr = _ := fun ty => Go.Lib.run_next_end_at wr w.heap.size a0 pos ty HI.out hp
          have HE : Aside0 (ans = true) := ⟨by
            have h1 := HA.out
            rw [List.take_of_length_le (by simp; omega)] at h1
            have h2 := HH.out (by have := HZ.out; have := HP.out; omega)
            rw [← HANS.out]
            unfold wordB
            rw [h1, h2, decide_eq_true (show 0 < a0.data.toList.length by have := HZ.out; simp; omega), decide_eq_true (show a0.data.toList.length ≤ 31 by have := HZ.out; simp; omega)]
            rfl⟩
          clear HI HA HH hp
          go_wp2
          go_ret
          rw [HE.out]
          exact ⟨rfl, HW.out⟩

/-! ### operand_isName: function 41 -/
def operand_isName.f (a0_0 : Int) (a0_1 : ByteArray) (a0_2 : Int) : Option (Bool) := if a0_0 = 1 then ((operand_Reg.f a0_1).bind fun bt160 => (if bt160.2.2 = 0 then (some false) else ((operand_shift.f a0_1).bind fun t163 => (if t163 < 0 then ((lex_IsWord.f a0_1).bind fun t164 => (some t164)) else (some false))))) else (if a0_0 = 2 then ((operand_Label.f a0_1).bind fun bt165 => (some bt165.2.2)) else (some false))
set_option maxHeartbeats 8000000 in
set_option maxRecDepth 100000 in
theorem operand_isName.calls (a0_0 : Int) (a0_1 : ByteArray) (a0_2 : Int) (r : Bool) (w : World) (h : operand_isName.f a0_0 a0_1 a0_2 = some r) (HT : Aside0 (Tabs w)) :
  Calls Tryd.prog 41 #[.agg #[.int .i64 a0_0, .string a0_1, .int .u64 a0_2]] w fun e w' => e = .returned (.bool r) ∧ Below w.heap.size w w' := by
 have hu29 := Tryd.underlying29
 have HB := Aside0.mk (Below.refl w.heap.size w)
 have H : (if a0_0 = 1 then ((operand_Reg.f a0_1).bind fun bt160 => (if bt160.2.2 = 0 then (some false) else ((operand_shift.f a0_1).bind fun t163 => (if t163 < 0 then ((lex_IsWord.f a0_1).bind fun t164 => (some t164)) else (some false))))) else (if a0_0 = 2 then ((operand_Label.f a0_1).bind fun bt165 => (some bt165.2.2)) else (some false))) = some r := h
 clear h
 by_cases c2 : a0_0 = 1
 ·rw [if_pos c2] at H
  have c2b0 : (a0_0 == 1) = true := beq_iff_eq.mpr c2
  have c2b1 : (a0_0 != 1) = false := bne_eq_false_iff_eq.mpr c2
  clear c2
  replace H := Option.bind_eq_some_iff.mp H
  obtain ⟨⟨t160, t161, t162⟩, A30, H⟩ := H
  replace H : (if t162 = 0 then (some false) else ((operand_shift.f a0_1).bind fun t163 => (if t163 < 0 then ((lex_IsWord.f a0_1).bind fun t164 => (some t164)) else (some false)))) = some r := H
  have A3 := Aside0.mk A30
  clear A30
  by_cases c4 : t162 = 0
  ·rw [if_pos c4] at H
   have c4b0 : (t162 == 0) = true := beq_iff_eq.mpr c4
   have c4b1 : (t162 != 0) = false := bne_eq_false_iff_eq.mpr c4
   clear c4
   obtain rfl := Option.some.inj H
   go_enter Tryd.func41, Tryd.ntmps41
   go_wp2_with (first | ((with_reducible refine gate_dst (N := 1) rfl ?_); refine box_event ?hg (N := 1) ?hd (cs := #[.int .i64 a0_0, .string a0_1, .int .u64 a0_2]) (t := 29) ?hr ?_; (case hd => rfl); (case hg => rfl); (case hr => first | (go_simp; done) | (go_simp; rfl)); intro gb159 hg w5 hbox hb; have n0_ := Aside0.mk (below_step (by repeat (first | (with_reducible first | exact HB.out | apply below_alloc | apply pw_below_drewN | apply below_drew1) | exact HB.out)) hb); have n1_ := Aside0.mk (hbox); have n2_ := Aside0.mk ((by rw [hg]; exact (below_size (by repeat (first | (with_reducible first | exact HB.out | apply below_alloc | apply pw_below_drewN | apply below_drew1) | exact HB.out))) : w.heap.size ≤ gb159)); have n3_ := Aside0.mk ((by rw [hg]; exact (below_size (by repeat (first | (with_reducible first | exact HB.out | apply below_alloc | apply pw_below_drewN | apply below_drew1) | exact HB.out))) : w.heap.size ≤ gb159)); clear HB; have HB := n0_; have BK159 := n1_; have GW159 := n2_; have GE159 := n3_; clear n0_ n1_ n2_ n3_; clear hb hbox hg; have hcz6_0 : w5.cell? ⟨gb159, 0, none⟩ = some (.int .i64 a0_0) := (blk_cell BK159.out 0).trans rfl; have hcz6_1 : w5.cell? ⟨gb159, 1, none⟩ = some (.string a0_1) := (blk_cell BK159.out 1).trans rfl; have hcz6_2 : w5.cell? ⟨gb159, 2, none⟩ = some (.int .u64 a0_2) := (blk_cell BK159.out 2).trans rfl; have hfz6_0 := blk_frozen BK159.out 0; have hfz6_1 := blk_frozen BK159.out 1; have hfz6_2 := blk_frozen BK159.out 2) | ((with_reducible refine gate_callee (f := 9) rfl ?_); refine goesL_ (some 16) rfl rfl Tryd.func9 (by kernel_rfl) rfl #[.string a0_1] rfl (by (try simp only [List.map_toArray, List.map_cons, List.map_nil]); first | done | rfl | (simp only [List.length_drop, List.length_take]; rfl)) ?_; (with_reducible refine (operand_Reg.calls a0_1 t160 t161 t162 _ A3.out ?tabs).mono ?_); (case tabs => (first | exact HT | (refine tabs_of HT ?_; repeat (first | (with_reducible first | exact Below.refl _ _ | exact (Aside0.out (by assumption)) | exact (Drawn0.below (by assumption)) | apply below_alloc | apply pw_below_drewN | apply below_drew1 | assumption) | exact HB.out)))); rintro e w7 ⟨rfl, hb⟩; refine ⟨_, rfl, ?_⟩; have n0_ := Aside0.mk (blk_below (g := gb159) (o := .cells #[.int .i64 a0_0, .string a0_1, .int .u64 a0_2] 29 (0, 0)) (by (with_reducible repeat (first | refine blk_drewN ?_ _ | refine blk_drew ?_ | refine blk_alloc ?_ _)); exact BK159.out) hb); have n1_ := Aside0.mk (below_step (by repeat (first | (with_reducible first | exact HB.out | apply below_alloc | apply pw_below_drewN | apply below_drew1 | refine below_set ?_ GE159.out) | exact HB.out)) hb); clear BK159; clear HB; have BK159 := n0_; have HB := n1_; clear n0_ n1_; (try clear hb); (try clear hb2); (try clear hk); (try clear hi)))
   go_ret
   exact ⟨by first | rfl | (simp [errW_none, errW_some] <;> rfl) | (simp [*, errW_none, errW_some] <;> rfl), by repeat (first | (with_reducible first | exact HB.out | apply below_alloc | apply pw_below_drewN | apply below_drew1 | refine below_set ?_ GE159.out) | exact HB.out)⟩
  ·rw [if_neg c4] at H
   have c4b0 : (t162 == 0) = false := beq_eq_false_iff_ne.mpr c4
   have c4b1 : (t162 != 0) = true := bne_iff_ne.mpr c4
   replace H := Option.bind_eq_some_iff.mp H
   obtain ⟨t163, A80, H⟩ := H
   replace H : (if t163 < 0 then ((lex_IsWord.f a0_1).bind fun t164 => (some t164)) else (some false)) = some r := H
   have A8 := Aside0.mk A80
   clear A80
   by_cases c9 : t163 < 0
   ·rw [if_pos c9] at H
    have c9b0 : decide (t163 < 0) = true := decide_eq_true c9
    clear c9
    replace H := Option.bind_eq_some_iff.mp H
    obtain ⟨t164, A100, H⟩ := H
    replace H : (some t164) = some r := H
    have A10 := Aside0.mk A100
    clear A100
    obtain rfl := Option.some.inj H
    go_enter Tryd.func41, Tryd.ntmps41
    go_wp2_with (first | ((with_reducible refine gate_dst (N := 1) rfl ?_); refine box_event ?hg (N := 1) ?hd (cs := #[.int .i64 a0_0, .string a0_1, .int .u64 a0_2]) (t := 29) ?hr ?_; (case hd => rfl); (case hg => rfl); (case hr => first | (go_simp; done) | (go_simp; rfl)); intro gb159 hg w11 hbox hb; have n0_ := Aside0.mk (below_step (by repeat (first | (with_reducible first | exact HB.out | apply below_alloc | apply pw_below_drewN | apply below_drew1) | exact HB.out)) hb); have n1_ := Aside0.mk (hbox); have n2_ := Aside0.mk ((by rw [hg]; exact (below_size (by repeat (first | (with_reducible first | exact HB.out | apply below_alloc | apply pw_below_drewN | apply below_drew1) | exact HB.out))) : w.heap.size ≤ gb159)); have n3_ := Aside0.mk ((by rw [hg]; exact (below_size (by repeat (first | (with_reducible first | exact HB.out | apply below_alloc | apply pw_below_drewN | apply below_drew1) | exact HB.out))) : w.heap.size ≤ gb159)); clear HB; have HB := n0_; have BK159 := n1_; have GW159 := n2_; have GE159 := n3_; clear n0_ n1_ n2_ n3_; clear hb hbox hg; have hcz12_0 : w11.cell? ⟨gb159, 0, none⟩ = some (.int .i64 a0_0) := (blk_cell BK159.out 0).trans rfl; have hcz12_1 : w11.cell? ⟨gb159, 1, none⟩ = some (.string a0_1) := (blk_cell BK159.out 1).trans rfl; have hcz12_2 : w11.cell? ⟨gb159, 2, none⟩ = some (.int .u64 a0_2) := (blk_cell BK159.out 2).trans rfl; have hfz12_0 := blk_frozen BK159.out 0; have hfz12_1 := blk_frozen BK159.out 1; have hfz12_2 := blk_frozen BK159.out 2) | ((with_reducible refine gate_callee (f := 9) rfl ?_); refine goesL_ (some 16) rfl rfl Tryd.func9 (by kernel_rfl) rfl #[.string a0_1] rfl (by (try simp only [List.map_toArray, List.map_cons, List.map_nil]); first | done | rfl | (simp only [List.length_drop, List.length_take]; rfl)) ?_; (with_reducible refine (operand_Reg.calls a0_1 t160 t161 t162 _ A3.out ?tabs).mono ?_); (case tabs => (first | exact HT | (refine tabs_of HT ?_; repeat (first | (with_reducible first | exact Below.refl _ _ | exact (Aside0.out (by assumption)) | exact (Drawn0.below (by assumption)) | apply below_alloc | apply pw_below_drewN | apply below_drew1 | assumption) | exact HB.out)))); rintro e w13 ⟨rfl, hb⟩; refine ⟨_, rfl, ?_⟩; have n0_ := Aside0.mk (blk_below (g := gb159) (o := .cells #[.int .i64 a0_0, .string a0_1, .int .u64 a0_2] 29 (0, 0)) (by (with_reducible repeat (first | refine blk_drewN ?_ _ | refine blk_drew ?_ | refine blk_alloc ?_ _)); exact BK159.out) hb); have n1_ := Aside0.mk (below_step (by repeat (first | (with_reducible first | exact HB.out | apply below_alloc | apply pw_below_drewN | apply below_drew1 | refine below_set ?_ GE159.out) | exact HB.out)) hb); clear BK159; clear HB; have BK159 := n0_; have HB := n1_; clear n0_ n1_; (try clear hb); (try clear hb2); (try clear hk); (try clear hi); have hcz14_0 : w13.cell? ⟨gb159, 0, none⟩ = some (.int .i64 a0_0) := (blk_cell BK159.out 0).trans rfl; have hcz14_1 : w13.cell? ⟨gb159, 1, none⟩ = some (.string a0_1) := (blk_cell BK159.out 1).trans rfl; have hcz14_2 : w13.cell? ⟨gb159, 2, none⟩ = some (.int .u64 a0_2) := (blk_cell BK159.out 2).trans rfl; have hfz14_0 := blk_frozen BK159.out 0; have hfz14_1 := blk_frozen BK159.out 1; have hfz14_2 := blk_frozen BK159.out 2) | (go_at_call 25; (with_reducible refine (operand_shift.calls a0_1 t163 _ A8.out).mono ?_); rintro e w' ⟨rfl, ⟨nd, rfl⟩⟩) | (go_at_call 47; (with_reducible refine (lex_IsWord.calls a0_1 t164 _ A10.out).mono ?_); rintro e w15 ⟨rfl, hb⟩; have n0_ := Aside0.mk (blk_below (g := gb159) (o := .cells #[.int .i64 a0_0, .string a0_1, .int .u64 a0_2] 29 (0, 0)) (by (with_reducible repeat (first | refine blk_drewN ?_ _ | refine blk_drew ?_ | refine blk_alloc ?_ _)); exact BK159.out) hb); have n1_ := Aside0.mk (below_step (by repeat (first | (with_reducible first | exact HB.out | apply below_alloc | apply pw_below_drewN | apply below_drew1 | refine below_set ?_ GE159.out) | exact HB.out)) hb); clear BK159; clear HB; have BK159 := n0_; have HB := n1_; clear n0_ n1_; (try clear hb); (try clear hb2); (try clear hk); (try clear hi)))
    go_ret
    exact ⟨by first | rfl | (simp [errW_none, errW_some] <;> rfl) | (simp [*, errW_none, errW_some] <;> rfl), by repeat (first | (with_reducible first | exact HB.out | apply below_alloc | apply pw_below_drewN | apply below_drew1 | refine below_set ?_ GE159.out) | exact HB.out)⟩
   ·rw [if_neg c9] at H
    have c9b0 : decide (t163 < 0) = false := decide_eq_false c9
    clear c9
    obtain rfl := Option.some.inj H
    go_enter Tryd.func41, Tryd.ntmps41
    go_wp2_with (first | ((with_reducible refine gate_dst (N := 1) rfl ?_); refine box_event ?hg (N := 1) ?hd (cs := #[.int .i64 a0_0, .string a0_1, .int .u64 a0_2]) (t := 29) ?hr ?_; (case hd => rfl); (case hg => rfl); (case hr => first | (go_simp; done) | (go_simp; rfl)); intro gb159 hg w16 hbox hb; have n0_ := Aside0.mk (below_step (by repeat (first | (with_reducible first | exact HB.out | apply below_alloc | apply pw_below_drewN | apply below_drew1) | exact HB.out)) hb); have n1_ := Aside0.mk (hbox); have n2_ := Aside0.mk ((by rw [hg]; exact (below_size (by repeat (first | (with_reducible first | exact HB.out | apply below_alloc | apply pw_below_drewN | apply below_drew1) | exact HB.out))) : w.heap.size ≤ gb159)); have n3_ := Aside0.mk ((by rw [hg]; exact (below_size (by repeat (first | (with_reducible first | exact HB.out | apply below_alloc | apply pw_below_drewN | apply below_drew1) | exact HB.out))) : w.heap.size ≤ gb159)); clear HB; have HB := n0_; have BK159 := n1_; have GW159 := n2_; have GE159 := n3_; clear n0_ n1_ n2_ n3_; clear hb hbox hg; have hcz17_0 : w16.cell? ⟨gb159, 0, none⟩ = some (.int .i64 a0_0) := (blk_cell BK159.out 0).trans rfl; have hcz17_1 : w16.cell? ⟨gb159, 1, none⟩ = some (.string a0_1) := (blk_cell BK159.out 1).trans rfl; have hcz17_2 : w16.cell? ⟨gb159, 2, none⟩ = some (.int .u64 a0_2) := (blk_cell BK159.out 2).trans rfl; have hfz17_0 := blk_frozen BK159.out 0; have hfz17_1 := blk_frozen BK159.out 1; have hfz17_2 := blk_frozen BK159.out 2) | ((with_reducible refine gate_callee (f := 9) rfl ?_); refine goesL_ (some 16) rfl rfl Tryd.func9 (by kernel_rfl) rfl #[.string a0_1] rfl (by (try simp only [List.map_toArray, List.map_cons, List.map_nil]); first | done | rfl | (simp only [List.length_drop, List.length_take]; rfl)) ?_; (with_reducible refine (operand_Reg.calls a0_1 t160 t161 t162 _ A3.out ?tabs).mono ?_); (case tabs => (first | exact HT | (refine tabs_of HT ?_; repeat (first | (with_reducible first | exact Below.refl _ _ | exact (Aside0.out (by assumption)) | exact (Drawn0.below (by assumption)) | apply below_alloc | apply pw_below_drewN | apply below_drew1 | assumption) | exact HB.out)))); rintro e w18 ⟨rfl, hb⟩; refine ⟨_, rfl, ?_⟩; have n0_ := Aside0.mk (blk_below (g := gb159) (o := .cells #[.int .i64 a0_0, .string a0_1, .int .u64 a0_2] 29 (0, 0)) (by (with_reducible repeat (first | refine blk_drewN ?_ _ | refine blk_drew ?_ | refine blk_alloc ?_ _)); exact BK159.out) hb); have n1_ := Aside0.mk (below_step (by repeat (first | (with_reducible first | exact HB.out | apply below_alloc | apply pw_below_drewN | apply below_drew1 | refine below_set ?_ GE159.out) | exact HB.out)) hb); clear BK159; clear HB; have BK159 := n0_; have HB := n1_; clear n0_ n1_; (try clear hb); (try clear hb2); (try clear hk); (try clear hi); have hcz19_0 : w18.cell? ⟨gb159, 0, none⟩ = some (.int .i64 a0_0) := (blk_cell BK159.out 0).trans rfl; have hcz19_1 : w18.cell? ⟨gb159, 1, none⟩ = some (.string a0_1) := (blk_cell BK159.out 1).trans rfl; have hcz19_2 : w18.cell? ⟨gb159, 2, none⟩ = some (.int .u64 a0_2) := (blk_cell BK159.out 2).trans rfl; have hfz19_0 := blk_frozen BK159.out 0; have hfz19_1 := blk_frozen BK159.out 1; have hfz19_2 := blk_frozen BK159.out 2) | (go_at_call 25; (with_reducible refine (operand_shift.calls a0_1 t163 _ A8.out).mono ?_); rintro e w' ⟨rfl, ⟨nd, rfl⟩⟩))
    go_ret
    exact ⟨by first | rfl | (simp [errW_none, errW_some] <;> rfl) | (simp [*, errW_none, errW_some] <;> rfl), by repeat (first | (with_reducible first | exact HB.out | apply below_alloc | apply pw_below_drewN | apply below_drew1 | refine below_set ?_ GE159.out) | exact HB.out)⟩
 ·rw [if_neg c2] at H
  have c2b0 : (a0_0 == 1) = false := beq_eq_false_iff_ne.mpr c2
  have c2b1 : (a0_0 != 1) = true := bne_iff_ne.mpr c2
  by_cases c20 : a0_0 = 2
  ·rw [if_pos c20] at H
   have c20b0 : (a0_0 == 2) = true := beq_iff_eq.mpr c20
   have c20b1 : (a0_0 != 2) = false := bne_eq_false_iff_eq.mpr c20
   clear c20
   replace H := Option.bind_eq_some_iff.mp H
   obtain ⟨⟨t165, t166, t167⟩, A210, H⟩ := H
   replace H : (some t167) = some r := H
   have A21 := Aside0.mk A210
   clear A210
   obtain rfl := Option.some.inj H
   go_enter Tryd.func41, Tryd.ntmps41
   go_wp2_with (first | ((with_reducible refine gate_dst (N := 1) rfl ?_); refine box_event ?hg (N := 1) ?hd (cs := #[.int .i64 a0_0, .string a0_1, .int .u64 a0_2]) (t := 29) ?hr ?_; (case hd => rfl); (case hg => rfl); (case hr => first | (go_simp; done) | (go_simp; rfl)); intro gb159 hg w22 hbox hb; have n0_ := Aside0.mk (below_step (by repeat (first | (with_reducible first | exact HB.out | apply below_alloc | apply pw_below_drewN | apply below_drew1) | exact HB.out)) hb); have n1_ := Aside0.mk (hbox); have n2_ := Aside0.mk ((by rw [hg]; exact (below_size (by repeat (first | (with_reducible first | exact HB.out | apply below_alloc | apply pw_below_drewN | apply below_drew1) | exact HB.out))) : w.heap.size ≤ gb159)); have n3_ := Aside0.mk ((by rw [hg]; exact (below_size (by repeat (first | (with_reducible first | exact HB.out | apply below_alloc | apply pw_below_drewN | apply below_drew1) | exact HB.out))) : w.heap.size ≤ gb159)); clear HB; have HB := n0_; have BK159 := n1_; have GW159 := n2_; have GE159 := n3_; clear n0_ n1_ n2_ n3_; clear hb hbox hg; have hcz23_0 : w22.cell? ⟨gb159, 0, none⟩ = some (.int .i64 a0_0) := (blk_cell BK159.out 0).trans rfl; have hcz23_1 : w22.cell? ⟨gb159, 1, none⟩ = some (.string a0_1) := (blk_cell BK159.out 1).trans rfl; have hcz23_2 : w22.cell? ⟨gb159, 2, none⟩ = some (.int .u64 a0_2) := (blk_cell BK159.out 2).trans rfl; have hfz23_0 := blk_frozen BK159.out 0; have hfz23_1 := blk_frozen BK159.out 1; have hfz23_2 := blk_frozen BK159.out 2) | ((with_reducible refine gate_callee (f := 13) rfl ?_); refine goesL_ (some 38) rfl rfl Tryd.func13 (by kernel_rfl) rfl #[.string a0_1] rfl (by (try simp only [List.map_toArray, List.map_cons, List.map_nil]); first | done | rfl | (simp only [List.length_drop, List.length_take]; rfl)) ?_; (with_reducible refine (operand_Label.calls a0_1 t165 t166 t167 _ A21.out).mono ?_); rintro e w24 ⟨rfl, hb⟩; refine ⟨_, rfl, ?_⟩; have n0_ := Aside0.mk (blk_below (g := gb159) (o := .cells #[.int .i64 a0_0, .string a0_1, .int .u64 a0_2] 29 (0, 0)) (by (with_reducible repeat (first | refine blk_drewN ?_ _ | refine blk_drew ?_ | refine blk_alloc ?_ _)); exact BK159.out) hb); have n1_ := Aside0.mk (below_step (by repeat (first | (with_reducible first | exact HB.out | apply below_alloc | apply pw_below_drewN | apply below_drew1 | refine below_set ?_ GE159.out) | exact HB.out)) hb); clear BK159; clear HB; have BK159 := n0_; have HB := n1_; clear n0_ n1_; (try clear hb); (try clear hb2); (try clear hk); (try clear hi)))
   go_ret
   exact ⟨by first | rfl | (simp [errW_none, errW_some] <;> rfl) | (simp [*, errW_none, errW_some] <;> rfl), by repeat (first | (with_reducible first | exact HB.out | apply below_alloc | apply pw_below_drewN | apply below_drew1 | refine below_set ?_ GE159.out) | exact HB.out)⟩
  ·rw [if_neg c20] at H
   have c20b0 : (a0_0 == 2) = false := beq_eq_false_iff_ne.mpr c20
   have c20b1 : (a0_0 != 2) = true := bne_iff_ne.mpr c20
   obtain rfl := Option.some.inj H
   go_enter Tryd.func41, Tryd.ntmps41
   go_wp2_with (first | ((with_reducible refine gate_dst (N := 1) rfl ?_); refine box_event ?hg (N := 1) ?hd (cs := #[.int .i64 a0_0, .string a0_1, .int .u64 a0_2]) (t := 29) ?hr ?_; (case hd => rfl); (case hg => rfl); (case hr => first | (go_simp; done) | (go_simp; rfl)); intro gb159 hg w25 hbox hb; have n0_ := Aside0.mk (below_step (by repeat (first | (with_reducible first | exact HB.out | apply below_alloc | apply pw_below_drewN | apply below_drew1) | exact HB.out)) hb); have n1_ := Aside0.mk (hbox); have n2_ := Aside0.mk ((by rw [hg]; exact (below_size (by repeat (first | (with_reducible first | exact HB.out | apply below_alloc | apply pw_below_drewN | apply below_drew1) | exact HB.out))) : w.heap.size ≤ gb159)); have n3_ := Aside0.mk ((by rw [hg]; exact (below_size (by repeat (first | (with_reducible first | exact HB.out | apply below_alloc | apply pw_below_drewN | apply below_drew1) | exact HB.out))) : w.heap.size ≤ gb159)); clear HB; have HB := n0_; have BK159 := n1_; have GW159 := n2_; have GE159 := n3_; clear n0_ n1_ n2_ n3_; clear hb hbox hg; have hcz26_0 : w25.cell? ⟨gb159, 0, none⟩ = some (.int .i64 a0_0) := (blk_cell BK159.out 0).trans rfl; have hcz26_1 : w25.cell? ⟨gb159, 1, none⟩ = some (.string a0_1) := (blk_cell BK159.out 1).trans rfl; have hcz26_2 : w25.cell? ⟨gb159, 2, none⟩ = some (.int .u64 a0_2) := (blk_cell BK159.out 2).trans rfl; have hfz26_0 := blk_frozen BK159.out 0; have hfz26_1 := blk_frozen BK159.out 1; have hfz26_2 := blk_frozen BK159.out 2))
   go_ret
   exact ⟨by first | rfl | (simp [errW_none, errW_some] <;> rfl) | (simp [*, errW_none, errW_some] <;> rfl), by repeat (first | (with_reducible first | exact HB.out | apply below_alloc | apply pw_below_drewN | apply below_drew1 | refine below_set ?_ GE159.out) | exact HB.out)⟩

/-! ### operand_reader_expression: function 29 -/
theorem text_tot (v : Int) (h0 : 0 ≤ v) (h1 : v < 18446744073709551616) : ∃ r, num_Text.f v = some r := by
  unfold num_Text.f
  refine ⟨decS v.toNat, ?_⟩
  have e : strconv_FormatUint_39.f v 10 = some (decS v.toNat) := by
    unfold strconv_FormatUint_39.f strconv_FormatUint_46.f
    rw [if_pos ⟨h0, h1, Or.inl rfl⟩, if_pos rfl]
    rfl
  rw [e]
  rfl
theorem value_tot (s : ByteArray) : ∃ v e, num_Value.f s = some (v, e) ∧ 0 ≤ v := by
  unfold num_Value.f
  by_cases h : okB (restS s) (baseS s) = true
  · rw [if_pos h]
    cases valL (baseS s) (restS s).data.toList 0 with
    | none => exact ⟨_, _, rfl, by decide⟩
    | some v => exact ⟨_, _, rfl, by omega⟩
  · rw [if_neg h]
    exact ⟨_, _, rfl, by decide⟩
theorem reg_tot (s : ByteArray) : ∃ a b c, operand_Reg.f s = some (a, b, c) := by
  unfold operand_Reg.f
  by_cases h1 : s.toList = ([115, 112] : List UInt8)
  · rw [if_pos h1]; exact ⟨_, _, _, rfl⟩
  rw [if_neg h1]
  by_cases h2 : s.toList = ([120, 122, 114] : List UInt8)
  · rw [if_pos h2]; exact ⟨_, _, _, rfl⟩
  rw [if_neg h2]
  by_cases h3 : (s.size : Int) < 2
  · rw [if_pos h3]; exact ⟨_, _, _, rfl⟩
  rw [if_neg h3]
  by_cases h4 : (s.size : Int) > 3
  · rw [if_pos h4]; exact ⟨_, _, _, rfl⟩
  rw [if_neg h4, if_pos (by omega)]
  by_cases h5 : bt s 0 = 120
  · rw [if_pos h5, if_pos (by omega)]
    obtain ⟨v, e, hv, h0⟩ := value_tot (s.extract 1 s.size)
    rw [hv, Option.bind_some]
    simp only
    by_cases h6 : e = 0
    · rw [if_pos h6]
      by_cases h7 : v ≥ 31
      · rw [if_pos h7]; exact ⟨_, _, _, rfl⟩
      · rw [if_neg h7]
        obtain ⟨r, hr⟩ := text_tot v h0 (by omega)
        rw [hr, Option.bind_some]
        by_cases h8 : r.toList = (s.extract 1 s.size).toList
        · rw [if_pos h8]; exact ⟨_, _, _, rfl⟩
        · rw [if_neg h8]; exact ⟨_, _, _, rfl⟩
    · rw [if_neg h6]; exact ⟨_, _, _, rfl⟩
  · rw [if_neg h5]; exact ⟨_, _, _, rfl⟩
def regS (s : ByteArray) : Int × Bool × Int := (operand_Reg.f s).getD (0, false, 3)
theorem regS_f (s : ByteArray) : operand_Reg.f s = some (regS s) := by
  obtain ⟨a, b, c, h⟩ := reg_tot s
  unfold regS
  rw [h]; rfl
def shS (s : ByteArray) : Int := (operand_shift.f s).getD (-1)
theorem shS_f (s : ByteArray) : operand_shift.f s = some (shS s) := by
  unfold shS operand_shift.f
  repeat' split
  all_goals rfl
def nameT (t : S29) : Bool := (operand_isName.f t.f0 t.f1 t.f2).getD false
theorem nameT_f (t : S29) : operand_isName.f t.f0 t.f1 t.f2 = some (nameT t) := by
  have h : ∃ b, operand_isName.f t.f0 t.f1 t.f2 = some b := by
    unfold operand_isName.f
    rw [regS_f, shS_f]
    simp only [Option.bind_some]
    have hw : lex_IsWord.f t.f1 = some (wordB t.f1.data.toList) := rfl
    have hl : operand_Label.f t.f1 = some (labB t.f1.data.toList) := rfl
    rw [hw, hl]
    simp only [Option.bind_some]
    repeat' split
    all_goals exact ⟨_, rfl⟩
  obtain ⟨b, h⟩ := h
  unfold nameT
  rw [h]; rfl
theorem nameT_kind {t : S29} (h : nameT t = true) : t.f0 ≠ 0 := by
  intro e
  unfold nameT operand_isName.f at h
  rw [e, if_neg (by decide), if_neg (by decide)] at h
  cases h
abbrev Ex : Type := (Bool × Int) ⊕ (ByteArray × Int)
def exV : Ex → Value
  | .inl n => .iface 64 (numV n)
  | .inr s => .iface 61 (symV s)
def expP (L : List S29) (p : Nat) (E : Int) : Option (Ex × Nat × Int) :=
  if nameT (tk L p) = true then (symP L p E).map fun x => (.inr x.1, x.2) else (numP L p E).map fun x => (.inl x.1, x.2)
set_option maxHeartbeats 4000000 in
set_option maxRecDepth 100000 in
theorem rd_expression (w0 w : World) (g : Nat) (A : Option Addr) (c : Nat) (L : List S29) (p : Nat) (E : Int) (H : Aside0 (Rd w0 w g A c L p E)) (hp : p ≤ L.length) (HT : Aside0 (Tabs w0)) :
    Calls Tryd.prog 29 #[.pointer (some ⟨g, 0, none⟩)] w (RdPost w0 w g A c L (expP L p E) exV) := by
  have HP := Aside0.mk (rd_peek w0 w g A c L p E H)
  have HN := Aside0.mk (nameT_f (tk L p))
  unfold expP
  cases hn : nameT (tk L p)
  · rw [if_neg (by decide)]
    rw [hn] at HN
    clear hn
    generalize tk L p = t at *
    cases hr : numP L p E with
    | none =>
      go_enter Tryd.func29, Tryd.ntmps29
      go_wp2_with (fail)
      refine HP.out.mono ?_
      rintro e w1 ⟨rfl, hb⟩
      go_wp2_with (fail)
      refine (operand_isName.calls _ _ _ false _ HN.out (tabs_of HT (H.out.after hb).below)).mono ?_
      rintro e w2 ⟨rfl, hb2⟩
      have H2 := Aside0.mk ((H.out.after hb).after hb2)
      have K2 := Aside0.mk ((KeepBut.of_below hb g none).trans (KeepBut.of_below hb2 g none) (Or.inl rfl))
      clear hb hb2 HP HN
      go_wp2_with (fail)
      have HV := rd_number w0 _ g A c L p E H2 hp
      rw [hr] at HV
      refine HV.mono ?_
      rintro e w3 ⟨k3, ⟨ty, v, rfl⟩, hb⟩
      go_wp2
      exact ⟨rfl, K2.out.trans k3 (Or.inl rfl), ⟨_, _, rfl⟩, hb⟩
    | some y =>
      obtain ⟨v, q, E'⟩ := y
      go_enter Tryd.func29, Tryd.ntmps29
      go_wp2_with (fail)
      refine HP.out.mono ?_
      rintro e w1 ⟨rfl, hb⟩
      go_wp2_with (fail)
      refine (operand_isName.calls _ _ _ false _ HN.out (tabs_of HT (H.out.after hb).below)).mono ?_
      rintro e w2 ⟨rfl, hb2⟩
      have H2 := Aside0.mk ((H.out.after hb).after hb2)
      have K2 := Aside0.mk ((KeepBut.of_below hb g none).trans (KeepBut.of_below hb2 g none) (Or.inl rfl))
      clear hb hb2 HP HN
      go_wp2_with (fail)
      have HV := rd_number w0 _ g A c L p E H2 hp
      rw [hr] at HV
      refine HV.mono ?_
      rintro e w3 ⟨k3, rfl, h3⟩
      go_wp2
      go_ret
      exact ⟨K2.out.trans k3 (Or.inl rfl), rfl, h3⟩
  · rw [if_pos rfl]
    rw [hn] at HN
    have hlt : p < L.length := tk_lt (nameT_kind hn)
    clear hn
    generalize tk L p = t at *
    cases hr : symP L p E with
    | none =>
      go_enter Tryd.func29, Tryd.ntmps29
      go_wp2_with (fail)
      refine HP.out.mono ?_
      rintro e w1 ⟨rfl, hb⟩
      go_wp2_with (fail)
      refine (operand_isName.calls _ _ _ true _ HN.out (tabs_of HT (H.out.after hb).below)).mono ?_
      rintro e w2 ⟨rfl, hb2⟩
      have H2 := Aside0.mk ((H.out.after hb).after hb2)
      have K2 := Aside0.mk ((KeepBut.of_below hb g none).trans (KeepBut.of_below hb2 g none) (Or.inl rfl))
      clear hb hb2 HP HN
      go_wp2_with (fail)
      have HV := rd_symbol w0 _ g A c L p E H2 hlt
      rw [hr] at HV
      refine HV.mono ?_
      rintro e w3 ⟨k3, ⟨ty, v, rfl⟩, hb⟩
      go_wp2
      exact ⟨rfl, K2.out.trans k3 (Or.inl rfl), ⟨_, _, rfl⟩, hb⟩
    | some y =>
      obtain ⟨v, q, E'⟩ := y
      go_enter Tryd.func29, Tryd.ntmps29
      go_wp2_with (fail)
      refine HP.out.mono ?_
      rintro e w1 ⟨rfl, hb⟩
      go_wp2_with (fail)
      refine (operand_isName.calls _ _ _ true _ HN.out (tabs_of HT (H.out.after hb).below)).mono ?_
      rintro e w2 ⟨rfl, hb2⟩
      have H2 := Aside0.mk ((H.out.after hb).after hb2)
      have K2 := Aside0.mk ((KeepBut.of_below hb g none).trans (KeepBut.of_below hb2 g none) (Or.inl rfl))
      clear hb hb2 HP HN
      go_wp2_with (fail)
      have HV := rd_symbol w0 _ g A c L p E H2 hlt
      rw [hr] at HV
      refine HV.mono ?_
      rintro e w3 ⟨k3, rfl, h3⟩
      go_wp2
      go_ret
      exact ⟨K2.out.trans k3 (Or.inl rfl), rfl, h3⟩

/-! ### operand_reader_register: function 23 -/
def regP (L : List S29) (p : Nat) : Option (Int × Bool) := if (tk L p).f0 = 1 ∧ (regS (tk L p).f1).2.2 = 0 then some ((regS (tk L p).f1).1, (regS (tk L p).f1).2.1) else none
theorem regP_lt {L : List S29} {p : Nat} {x : Int × Bool} (h : regP L p = some x) : p < L.length := by
  unfold regP at h
  split at h
  · rename_i h1; exact tk_lt (by rw [h1.1]; decide)
  · cases h
def regQ (L : List S29) (p : Nat) (E : Int) : (Int × Bool × Bool) × Nat × Int := match regP L p with
  | none => ((0, false, false), p, E)
  | some (n, s) => ((n, s, true), p + 1, E)
set_option maxHeartbeats 4000000 in
set_option maxRecDepth 100000 in
theorem rd_register (w0 w : World) (g : Nat) (A : Option Addr) (c : Nat) (L : List S29) (p : Nat) (E : Int) (H : Aside0 (Rd w0 w g A c L p E)) (hp : p ≤ L.length) (HT : Aside0 (Tabs w0)) :
    Calls Tryd.prog 23 #[.pointer (some ⟨g, 0, none⟩)] w (RdPost w0 w g A c L (some (regQ L p E)) (fun x => .tuple #[.int .i64 x.1, .bool x.2.1, .bool x.2.2])) := by
  have hz29 := Tryd.zeroValue29
  have HP := Aside0.mk (rd_peek w0 w g A c L p E H)
  have hw : wrap64 ((p : Int) + 1) = ((p + 1 : Nat) : Int) := by have := H.out.len; unfold wrap64; omega
  unfold regQ regP
  by_cases h1 : (tk L p).f0 = 1
  · have c1 : ((tk L p).f0 != 1) = false := by rw [bne_eq_false_iff_eq]; exact h1
    obtain ⟨⟨n, st, er⟩, hx⟩ : ∃ z, regS (tk L p).f1 = z := ⟨_, rfl⟩
    have HF := Aside0.mk ((regS_f (tk L p).f1).trans (congrArg some hx))
    rw [hx]
    by_cases he : er = 0
    · rw [if_pos ⟨h1, he⟩]
      have c3 : (er != 0) = false := by rw [he]; rfl
      clear h1 hx
      generalize tk L p = t at *
      go_enter Tryd.func23, Tryd.ntmps23
      go_wp2_with (fail)
      refine HP.out.mono ?_
      rintro e w1 ⟨rfl, hb⟩
      have K1 := Aside0.mk (keep_alloc (KeepBut.of_below hb g none) (.cells #[.int .i64 t.f0, .string t.f1, .int .u64 t.f2] 29))
      have H1 := Aside0.mk ((H.out.after hb).after (below_alloc (Below.refl _ _) (.cells #[.int .i64 t.f0, .string t.f1, .int .u64 t.f2] 29)))
      clear hb HP
      go_wp2_with (fail)
      refine (operand_Reg.calls t.f1 n st er _ HF.out (tabs_of HT H1.out.below)).mono ?_
      rintro e w2 ⟨rfl, hb⟩
      have K2 := Aside0.mk (K1.out.trans (KeepBut.of_below hb g none) (Or.inl rfl))
      have H2 := Aside0.mk (H1.out.after hb)
      obtain ⟨_, q1, _, f1, _⟩ := rd_cells H2.out
      clear hb K1 H1
      go_wp2
      go_ret3
      exact ⟨K2.out.set_ 1 _, rfl, H2.out.setP (p + 1)⟩
    · rw [if_neg (fun h => he h.2)]
      have c3 : (er != 0) = true := bne_iff_ne.2 he
      clear h1 hx
      generalize tk L p = t at *
      go_enter Tryd.func23, Tryd.ntmps23
      go_wp2_with (fail)
      refine HP.out.mono ?_
      rintro e w1 ⟨rfl, hb⟩
      have K1 := Aside0.mk (keep_alloc (KeepBut.of_below hb g none) (.cells #[.int .i64 t.f0, .string t.f1, .int .u64 t.f2] 29))
      have H1 := Aside0.mk ((H.out.after hb).after (below_alloc (Below.refl _ _) (.cells #[.int .i64 t.f0, .string t.f1, .int .u64 t.f2] 29)))
      clear hb HP
      go_wp2_with (fail)
      refine (operand_Reg.calls t.f1 n st er _ HF.out (tabs_of HT H1.out.below)).mono ?_
      rintro e w2 ⟨rfl, hb⟩
      have K2 := Aside0.mk (K1.out.trans (KeepBut.of_below hb g none) (Or.inl rfl))
      have H2 := Aside0.mk (H1.out.after hb)
      clear hb K1 H1
      go_wp2
      go_ret3
      exact ⟨K2.out, rfl, H2.out⟩
  · rw [if_neg (fun h => h1 h.1)]
    have c1 : ((tk L p).f0 != 1) = true := bne_iff_ne.2 h1
    clear h1
    generalize tk L p = t at *
    go_enter Tryd.func23, Tryd.ntmps23
    go_wp2_with (fail)
    refine HP.out.mono ?_
    rintro e w1 ⟨rfl, hb⟩
    have K1 := Aside0.mk (keep_alloc (KeepBut.of_below hb g none) (.cells #[.int .i64 t.f0, .string t.f1, .int .u64 t.f2] 29))
    have H1 := Aside0.mk ((H.out.after hb).after (below_alloc (Below.refl _ _) (.cells #[.int .i64 t.f0, .string t.f1, .int .u64 t.f2] 29)))
    clear hb HP
    go_wp2
    go_ret3
    exact ⟨K1.out, rfl, H1.out⟩

/-! ### operand_reader_low: function 30 -/
def lowP (L : List S29) (p : Nat) (E : Int) : Option ((ByteArray × Int) × Nat × Int) :=
  if (tk L p).f0 = 1 ∧ (tk L p).f1.toList = [108, 111, 49, 50] then
    (if sgB L (p + 1) ⟨#[58]⟩ = true then (expP L (p + 2) E).bind fun x => (match x.1 with | .inr s => some (s, x.2) | .inl _ => none) else none)
  else none
set_option maxHeartbeats 4000000 in
set_option maxRecDepth 100000 in
theorem rd_low (w0 w : World) (g : Nat) (A : Option Addr) (c : Nat) (L : List S29) (p : Nat) (E : Int) (H : Aside0 (Rd w0 w g A c L p E)) (hp : p ≤ L.length) (HT : Aside0 (Tabs w0)) :
    Calls Tryd.prog 30 #[.pointer (some ⟨g, 0, none⟩)] w (RdPost w0 w g A c L (lowP L p E) symV) := by
  have hz29 := Tryd.zeroValue29
  have hz61 := Tryd.zeroValue61
  have hu61 := Tryd.underlying61
  obtain ⟨W, hW, hH, hK, hB, hne⟩ := H.out.box #[.string ⟨#[]⟩, .int .i64 0] 61
  have hwW : w0.heap.size ≤ w.heap.size := H.out.below.size
  have HP := Aside0.mk (rd_peek w0 W g A c L p E ⟨hH⟩)
  have hw : wrap64 ((p : Int) + 1) = ((p + 1 : Nat) : Int) := by have := H.out.len; unfold wrap64; omega
  unfold lowP
  by_cases ht : (tk L p).f0 = 1 ∧ (tk L p).f1.toList = [108, 111, 49, 50]
  · rw [if_pos ht]
    have c1 : ((tk L p).f0 != 1) = false := by rw [bne_eq_false_iff_eq]; exact ht.1
    have c2 : ((tk L p).f1.toList != [108, 111, 49, 50]) = false := by rw [bne_eq_false_iff_eq]; exact ht.2
    have c2b : ((tk L p).f1.toList == [108, 111, 49, 50]) = true := by rw [beq_iff_eq]; exact ht.2
    clear ht
    cases hm : sgB L (p + 1) ⟨#[58]⟩
    · rw [if_neg (by decide)]
      generalize tk L p = t at *
      go_enter Tryd.func30, Tryd.ntmps30
      go_wp2_with (fail)
      refine HP.out.mono ?_
      rintro e w1 ⟨rfl, hb⟩
      have K1 := Aside0.mk ((keep_alloc (hK.trans (KeepBut.of_below hb g none) (Or.inl rfl)) (.cells #[.int .i64 t.f0, .string t.f1, .int .u64 t.f2] 29)).set_ 1 (.int .i64 ((p + 1 : Nat) : Int)))
      have H1 := Aside0.mk (((hH.after hb).after (below_alloc (Below.refl _ _) (.cells #[.int .i64 t.f0, .string t.f1, .int .u64 t.f2] 29))).setP (p + 1))
      have R1 := Aside0.mk (blk_far (blk_alloc (blk_below hB hb) (.cells #[.int .i64 t.f0, .string t.f1, .int .u64 t.f2] 29)) (p := ⟨g, 1, none⟩) hne (.int .i64 ((p + 1 : Nat) : Int)))
      have hwR : w.heap.size < w1.heap.size := Nat.lt_of_lt_of_le (blk_lt hB) hb.size
      have h1 : ∀ o, (w1.alloc o).cell? ⟨g, 1, none⟩ = some (.int .i64 (p : Int)) := fun o => (rd_cells ((hH.after hb).after (below_alloc (Below.refl _ _) o))).2.1
      have f1 : ∀ o, (w1.alloc o).frozen? ⟨g, 1, none⟩ = false := fun o => (rd_cells ((hH.after hb).after (below_alloc (Below.refl _ _) o))).2.2.2.1
      clear hb HP hW hH hK hB
      go_wp2_with (fail)
      have HM := rd_need w0 _ g A c L (p + 1) E ⟨#[58]⟩ H1
      rw [hm, if_neg (by decide)] at HM
      refine HM.mono ?_
      rintro e w2 ⟨k2, ⟨ty, v, rfl⟩, hb⟩
      go_wp2
      exact ⟨rfl, K1.out.trans k2 (Or.inl rfl), ⟨_, _, rfl⟩, hb⟩
    · rw [if_pos rfl]
      have hp2 : p + 2 ≤ L.length := by have := sgB_lt hm; omega
      generalize tk L p = t at *
      cases hr : expP L (p + 2) E with
      | none =>
        go_enter Tryd.func30, Tryd.ntmps30
        go_wp2_with (fail)
        refine HP.out.mono ?_
        rintro e w1 ⟨rfl, hb⟩
        have K1 := Aside0.mk ((keep_alloc (hK.trans (KeepBut.of_below hb g none) (Or.inl rfl)) (.cells #[.int .i64 t.f0, .string t.f1, .int .u64 t.f2] 29)).set_ 1 (.int .i64 ((p + 1 : Nat) : Int)))
        have H1 := Aside0.mk (((hH.after hb).after (below_alloc (Below.refl _ _) (.cells #[.int .i64 t.f0, .string t.f1, .int .u64 t.f2] 29))).setP (p + 1))
        have R1 := Aside0.mk (blk_far (blk_alloc (blk_below hB hb) (.cells #[.int .i64 t.f0, .string t.f1, .int .u64 t.f2] 29)) (p := ⟨g, 1, none⟩) hne (.int .i64 ((p + 1 : Nat) : Int)))
        have hwR : w.heap.size < w1.heap.size := Nat.lt_of_lt_of_le (blk_lt hB) hb.size
        have h1 : ∀ o, (w1.alloc o).cell? ⟨g, 1, none⟩ = some (.int .i64 (p : Int)) := fun o => (rd_cells ((hH.after hb).after (below_alloc (Below.refl _ _) o))).2.1
        have f1 : ∀ o, (w1.alloc o).frozen? ⟨g, 1, none⟩ = false := fun o => (rd_cells ((hH.after hb).after (below_alloc (Below.refl _ _) o))).2.2.2.1
        clear hb HP hW hH hK hB
        go_wp2_with (fail)
        have HM := rd_need w0 _ g A c L (p + 1) E ⟨#[58]⟩ H1
        rw [hm, if_pos rfl] at HM
        refine HM.mono ?_
        rintro e w2 ⟨k2, rfl, h2⟩
        have H2 := Aside0.mk h2
        have K2 := Aside0.mk (K1.out.trans k2 (Or.inl rfl))
        have R2 := Aside0.mk (k2.blk R1.out hne (by simp))
        clear h2 k2 HM H1 K1 R1 h1 f1
        go_wp2_with (fail)
        have HM := rd_expression w0 _ g A c L (p + 2) E H2 hp2 HT
        rw [hr] at HM
        refine HM.mono ?_
        rintro e w3 ⟨k3, ⟨ty, v, rfl⟩, hb⟩
        go_wp2
        exact ⟨rfl, K2.out.trans k3 (Or.inl rfl), ⟨_, _, rfl⟩, hb⟩
      | some y =>
        obtain ⟨ex, q, E'⟩ := y
        cases ex with
        | inl nn =>
          have hta : ∀ W : World, (Instr.typeAssert (exV (.inl nn)) 58 61 true).run Tryd.prog W = .ok (.tuple #[.agg #[.string ⟨#[]⟩, .int .i64 0], .bool false]) W := fun _ => by kernel_rfl
          go_enter Tryd.func30, Tryd.ntmps30
          go_wp2_with (fail)
          refine HP.out.mono ?_
          rintro e w1 ⟨rfl, hb⟩
          have K1 := Aside0.mk ((keep_alloc (hK.trans (KeepBut.of_below hb g none) (Or.inl rfl)) (.cells #[.int .i64 t.f0, .string t.f1, .int .u64 t.f2] 29)).set_ 1 (.int .i64 ((p + 1 : Nat) : Int)))
          have H1 := Aside0.mk (((hH.after hb).after (below_alloc (Below.refl _ _) (.cells #[.int .i64 t.f0, .string t.f1, .int .u64 t.f2] 29))).setP (p + 1))
          have R1 := Aside0.mk (blk_far (blk_alloc (blk_below hB hb) (.cells #[.int .i64 t.f0, .string t.f1, .int .u64 t.f2] 29)) (p := ⟨g, 1, none⟩) hne (.int .i64 ((p + 1 : Nat) : Int)))
          have hwR : w.heap.size < w1.heap.size := Nat.lt_of_lt_of_le (blk_lt hB) hb.size
          have h1 : ∀ o, (w1.alloc o).cell? ⟨g, 1, none⟩ = some (.int .i64 (p : Int)) := fun o => (rd_cells ((hH.after hb).after (below_alloc (Below.refl _ _) o))).2.1
          have f1 : ∀ o, (w1.alloc o).frozen? ⟨g, 1, none⟩ = false := fun o => (rd_cells ((hH.after hb).after (below_alloc (Below.refl _ _) o))).2.2.2.1
          clear hb HP hW hH hK hB
          go_wp2_with (fail)
          have HM := rd_need w0 _ g A c L (p + 1) E ⟨#[58]⟩ H1
          rw [hm, if_pos rfl] at HM
          refine HM.mono ?_
          rintro e w2 ⟨k2, rfl, h2⟩
          have H2 := Aside0.mk h2
          have K2 := Aside0.mk (K1.out.trans k2 (Or.inl rfl))
          have R2 := Aside0.mk (k2.blk R1.out hne (by simp))
          clear h2 k2 HM H1 K1 R1 h1 f1
          go_wp2_with (fail)
          have HM := rd_expression w0 _ g A c L (p + 2) E H2 hp2 HT
          rw [hr] at HM
          refine HM.mono ?_
          rintro e w3 ⟨k3, rfl, h3⟩
          have H3 := Aside0.mk h3
          have K3 := Aside0.mk (K2.out.trans k3 (Or.inl rfl))
          have R3 := Aside0.mk (k3.blk R2.out hne (by simp))
          clear h3 k3 HM H2 K2 R2
          have H4 := Aside0.mk (H3.out.after (below_alloc (Below.refl _ _) (.cells #[.string ⟨#[]⟩, .int .i64 0] 61)))
          have K4 := Aside0.mk (keep_alloc K3.out (.cells #[.string ⟨#[]⟩, .int .i64 0] 61))
          clear H3 K3
          go_wp2_with (fail)
          refine (rd_wrong w0 _ g A c L q E' 3 H4).mono ?_
          rintro e w5 ⟨⟨ty, v, rfl⟩, rfl⟩
          go_wp2
          exact ⟨rfl, K4.out, ⟨_, _, rfl⟩, H4.out.below⟩
        | inr ss =>
          obtain ⟨nm, ad⟩ := ss
          have hta : ∀ W : World, (Instr.typeAssert (exV (.inr (nm, ad))) 58 61 true).run Tryd.prog W = .ok (.tuple #[.agg #[.string nm, .int .i64 ad], .bool true]) W := fun _ => by kernel_rfl
          go_enter Tryd.func30, Tryd.ntmps30
          go_wp2_with (fail)
          refine HP.out.mono ?_
          rintro e w1 ⟨rfl, hb⟩
          have K1 := Aside0.mk ((keep_alloc (hK.trans (KeepBut.of_below hb g none) (Or.inl rfl)) (.cells #[.int .i64 t.f0, .string t.f1, .int .u64 t.f2] 29)).set_ 1 (.int .i64 ((p + 1 : Nat) : Int)))
          have H1 := Aside0.mk (((hH.after hb).after (below_alloc (Below.refl _ _) (.cells #[.int .i64 t.f0, .string t.f1, .int .u64 t.f2] 29))).setP (p + 1))
          have R1 := Aside0.mk (blk_far (blk_alloc (blk_below hB hb) (.cells #[.int .i64 t.f0, .string t.f1, .int .u64 t.f2] 29)) (p := ⟨g, 1, none⟩) hne (.int .i64 ((p + 1 : Nat) : Int)))
          have hwR : w.heap.size < w1.heap.size := Nat.lt_of_lt_of_le (blk_lt hB) hb.size
          have h1 : ∀ o, (w1.alloc o).cell? ⟨g, 1, none⟩ = some (.int .i64 (p : Int)) := fun o => (rd_cells ((hH.after hb).after (below_alloc (Below.refl _ _) o))).2.1
          have f1 : ∀ o, (w1.alloc o).frozen? ⟨g, 1, none⟩ = false := fun o => (rd_cells ((hH.after hb).after (below_alloc (Below.refl _ _) o))).2.2.2.1
          clear hb HP hW hH hK hB
          go_wp2_with (fail)
          have HM := rd_need w0 _ g A c L (p + 1) E ⟨#[58]⟩ H1
          rw [hm, if_pos rfl] at HM
          refine HM.mono ?_
          rintro e w2 ⟨k2, rfl, h2⟩
          have H2 := Aside0.mk h2
          have K2 := Aside0.mk (K1.out.trans k2 (Or.inl rfl))
          have R2 := Aside0.mk (k2.blk R1.out hne (by simp))
          clear h2 k2 HM H1 K1 R1 h1 f1
          go_wp2_with (fail)
          have HM := rd_expression w0 _ g A c L (p + 2) E H2 hp2 HT
          rw [hr] at HM
          refine HM.mono ?_
          rintro e w3 ⟨k3, rfl, h3⟩
          have H3 := Aside0.mk h3
          have K3 := Aside0.mk (K2.out.trans k3 (Or.inl rfl))
          have R3 := Aside0.mk (k3.blk R2.out hne (by simp))
          clear h3 k3 HM H2 K2 R2
          have H4 := Aside0.mk (H3.out.after (below_alloc (Below.refl _ _) (.cells #[.string nm, .int .i64 ad] 61)))
          have K4 := Aside0.mk (keep_alloc K3.out (.cells #[.string nm, .int .i64 ad] 61))
          have R4 := Aside0.mk (blk_alloc R3.out (.cells #[.string nm, .int .i64 ad] 61))
          have r0 : ∀ o, (w3.alloc o).cell? ⟨w.heap.size, 0, none⟩ = some (.string ⟨#[]⟩) := fun o => (blk_cell (blk_alloc R3.out o) 0).trans rfl
          have r1 : ∀ o, (w3.alloc o).cell? ⟨w.heap.size, 1, none⟩ = some (.int .i64 0) := fun o => (blk_cell (blk_alloc R3.out o) 1).trans rfl
          have rf0 : ∀ o, (w3.alloc o).frozen? ⟨w.heap.size, 0, none⟩ = false := fun o => blk_frozen (blk_alloc R3.out o) 0
          have rf1 : ∀ o, (w3.alloc o).frozen? ⟨w.heap.size, 1, none⟩ = false := fun o => blk_frozen (blk_alloc R3.out o) 1
          clear H3 K3 R3
          go_wp2
          refine bodyPost_ret (results_cell_row rfl _ _ w.heap.size 61 #[_, _] (0, 0) _ rfl (blk_put (blk_put R4.out 0 _ rfl) 1 _ rfl) Tryd.underlying61 rfl (by kernel_rfl)) rfl ?_
          exact ⟨keep_set2 (keep_set2 K4.out (Nat.le_refl _)) (Nat.le_refl _), rfl, (H4.out.far _ hwW hne).far _ hwW hne⟩
  · rw [if_neg ht]
    have key : ((tk L p).f0 != 1) = true ∨ (((tk L p).f0 != 1) = false ∧ ((tk L p).f1.toList == [108, 111, 49, 50]) = false) := by
      by_cases h1 : (tk L p).f0 = 1
      · refine Or.inr ⟨by rw [bne_eq_false_iff_eq]; exact h1, ?_⟩
        rw [beq_eq_false_iff_ne]
        exact fun e => ht ⟨h1, e⟩
      · exact Or.inl (bne_iff_ne.2 h1)
    clear ht
    generalize tk L p = t at *
    rcases key with c1 | ⟨c1, c2⟩
    all_goals
      go_enter Tryd.func30, Tryd.ntmps30
      go_wp2_with (fail)
      refine HP.out.mono ?_
      rintro e w1 ⟨rfl, hb⟩
      have K1 := Aside0.mk (keep_alloc (hK.trans (KeepBut.of_below hb g none) (Or.inl rfl)) (.cells #[.int .i64 t.f0, .string t.f1, .int .u64 t.f2] 29))
      have H1 := Aside0.mk ((hH.after hb).after (below_alloc (Below.refl _ _) (.cells #[.int .i64 t.f0, .string t.f1, .int .u64 t.f2] 29)))
      have R1 := Aside0.mk (blk_alloc (blk_below hB hb) (.cells #[.int .i64 t.f0, .string t.f1, .int .u64 t.f2] 29))
      clear hb HP hW hH hB
      go_wp2_with (fail)
      refine (rd_wrong w0 _ g A c L p E 3 H1).mono ?_
      rintro e w2 ⟨⟨ty, v, rfl⟩, rfl⟩
      go_wp2
      exact ⟨rfl, K1.out, ⟨_, _, rfl⟩, H1.out.below⟩

end Go.Proofs.YtpndeninbokjoaaDoor.P
