-- printed by wip/tools/myprint.py out of the translation. Not trusted: Lean checks it.
import Derived.Test.YtghpbbdmljobjaaDoorPx0
namespace Go.Proofs.YtghpbbdmljobjaaDoor.P
open Go.RowKit Go.Proofs.YtghpbbdmljobjaaDoorW.PrintWords Go.Proofs.YtghpbbdmljobjaaDoorW.PrintLast Go.Proofs.YtghpbbdmljobjaaDoorW.PrintMore
attribute [local go_sem] max2_int min2_int max_two min_two max_three min_three max_four min_four   -- for this text's walks alone
set_option linter.unusedVariables false
set_option linter.unusedSimpArgs false

-- NOT PRINTED: function 31 (utf8_word_string)

-- NOT PRINTED: function 20 (utf8_ValidString)

/-! ### lex_Runes: function 11 -/
def lex_Runes.f (a0 : ByteArray) : Option (List Int × Int) := if a0.size ≤ 1000 then some (if Go.Lib.validD a0.data.toList = true then (runesL a0.data.toList, 0) else ([], 3)) else none
set_option maxHeartbeats 4000000 in
set_option maxRecDepth 100000 in
theorem lex_Runes.calls (a0 : ByteArray) (r0 : List Int) (r1 : Int) (w : World) (h : lex_Runes.f a0 = some (r0, r1)) (HT : Aside0 (Tabs w)) :
    Calls Tryd.prog 11 #[.string a0] w fun e w' => ∃ v0_ : Value, e = .returned (.tuple #[v0_, .int .i64 r1]) ∧ Kd.R (Kd.int .i64) 3 w' w.heap.size (fun _ => True) v0_ r0 ∧ Below w.heap.size w w' := by
  unfold lex_Runes.f at h
  by_cases hs : a0.size ≤ 1000
  · rw [if_pos hs] at h
    have h := Option.some.inj h
    have HS := Aside0.mk hs
    have HB := Aside0.mk (Below.refl w.heap.size w)
    by_cases hv : Go.Lib.validD a0.data.toList = true
    · rw [if_pos hv] at h
      obtain ⟨rfl, rfl⟩ := Prod.mk.inj h
      have HV := Aside0.mk hv
      clear h hs hv
      go_enter Tryd.func11, Tryd.ntmps11
      go_wp2_with (fail)
      refine (valid_string a0 _ (by have := HS.out; omega) HT).mono ?_
      rintro e W1 ⟨rfl, hB1⟩
      rw [HV.out]
      have HB1 := Aside0.mk hB1
      clear hB1 HB
      have hS1 := Aside0.mk HB1.out.size
      have hmk := info_i64
      go_wp2
      go_loopg [4, 6] (a0.size + 1) (fun gk v3 _ wr => ∃ (pos : Nat) (T : List Int), Aside0 (a0.size - pos < gk ∧ pos ≤ a0.size ∧ T ++ runesL (a0.data.toList.drop pos) = runesL a0.data.toList ∧ T.length ≤ pos) ∧ Aside0 (wr.heap[W1.heap.size]? = some (.stringIter a0 pos)) ∧ Aside0 ((Kd.int .i64).R 3 wr w.heap.size (fun i => i ≠ W1.heap.size) v3 T) ∧ Aside0 (Below w.heap.size w wr))
      case atStart => exact ⟨0, [], ⟨by omega, Nat.zero_le _, by simp, by simp⟩, ⟨World.iter_heap W1 a0 0⟩, ⟨Kd.R_nil _ _ _ _ _⟩, ⟨below_alloc HB1.out _⟩⟩
      case round =>
        obtain ⟨pos, T, HA, HI, HR, HW⟩ := hrel
        rename World => wr
        by_cases hp : pos < a0.size
        · have HC := Aside0.mk (Go.Lib.decodeL_drop a0 pos)
          have HW0 := Aside0.mk (Go.Lib.decodeL_width (a0.data.toList.drop pos))
          have HB0 := Aside0.mk (Go.Lib.decodeL_rune (a0.data.toList.drop pos))
          have HST := Aside0.mk (runesL_step (a0.data.toList.drop pos) (by intro e; have := congrArg List.length e; simp at this; omega))
          have HLE := Aside0.mk (Go.Lib.decodeL_le (a0.data.toList.drop pos) (by intro e; have := congrArg List.length e; simp at this; omega))
          have hnx : ∀ ty, (Instr.next (.pointer (some ⟨W1.heap.size, 0, none⟩)) true ty).run Tryd.prog wr = _ := fun ty => Go.Lib.run_next_any_at wr W1.heap.size a0 pos ty HI.out hp
          have HI2 := Aside0.mk (Go.Lib.iterAt_heap wr W1.heap.size a0 pos (pos + (Utf8.decode a0 pos).2) HI.out)
          have HW2 := Aside0.mk (Go.Lib.below_iterAt HW.out hS1.out a0 (pos + (Utf8.decode a0 pos).2))
          have HR2 := Aside0.mk (Kd.R_step (w1 := wr.iterAt W1.heap.size a0 (pos + (Utf8.decode a0 pos).2)) HR.out (fun k hk _ => Go.Lib.iterAt_other _ _ _ _ _ hk))
          have HIS : Aside0 (W1.heap.size < (wr.iterAt W1.heap.size a0 (pos + (Utf8.decode a0 pos).2)).heap.size) := ⟨(Array.getElem?_eq_some_iff.1 HI2.out).1⟩
          rw [HC.out] at HW0 HB0 HST HLE
          generalize hx : Utf8.decode a0 pos = cn at *
          obtain ⟨c, n⟩ := cn
          simp only at *
          have HX := Aside0.mk hx
          obtain ⟨z, hz⟩ : ∃ z : Int, ((c : Nat) : Int) = z := ⟨_, rfl⟩
          have hwz : IntKind.i64.wrap z = z := (i64_w _).trans (by simp only [wrap64]; have := HB0.out; omega)
          have HZ := Aside0.mk hz
          have HSz := Aside0.mk HW2.out.size
          have HLN : Aside0 ((T.length + 1) * 8 ≤ 140737488355328) := ⟨by have := HA.out; have := HS.out; omega⟩
          generalize hwx : wr.iterAt W1.heap.size a0 (pos + n) = wx at *
          rw [hz] at hnx
          clear HI HR HW hx HC hz hwx
          go_wp2_with ((with_reducible refine gate_builtin (b := .append) (xs := #[.tmp 15, .tmp 18]) rfl ?_); at_builtin; refine Kd.R_append (Kd.int .i64) (w0 := w) w.heap.size rfl (.tmp 15) (.tmp 18) 34 3 (.int .i64 0) 8 rfl Tryd.underlying34 info_i64 rfl (by decide) (by omega) u4 T z [.int .i64 z] (fun i => i ≠ W1.heap.size) (fun _ => False) rfl rfl ?aP (fun _ hk => hk.elim) (fun k hk => by have := HIS.out; omega) HR2.out HW2.out HSz.out HLN.out ?_; (case aP => exact rfl); intro v1 w3 hR3 hB3 hg3 hat3; have R3 := Aside0.mk hR3; have B3 := Aside0.mk hB3; have I3 : Aside0 (w3.heap[W1.heap.size]? = some (.stringIter a0 (pos + n))) := ⟨(hg3.block _ HIS.out (fun e => HR2.out.1 _ e.symm rfl)).trans HI2.out⟩; clear hR3 hB3 hg3 hat3)
          go_roundg (a0.size - pos)
          case measure => exact HA.out.1
          case rel =>
            refine ⟨pos + n, T ++ [z], ⟨by have := HA.out; have := HW0.out; omega, by have := HLE.out; rw [List.length_drop] at this; have h9 : a0.data.toList.length = a0.size := (by simp); omega, ?_, by have := HA.out; have := HW0.out; simp; omega⟩, I3, R3, B3⟩
            rw [← HA.out.2.2.1, HST.out, List.drop_drop, HZ.out, List.append_assoc]; rfl
        · have hnx : ∀ ty, (Instr.next (.pointer (some ⟨W1.heap.size, 0, none⟩)) true ty).run Tryd.prog wr = _ := fun ty => Go.Lib.run_next_end_at wr W1.heap.size a0 pos ty HI.out hp
          have HT2 : Aside0 (T = runesL a0.data.toList) := ⟨by
            obtain ⟨_, h2, h3, _⟩ := HA.out
            rw [List.drop_eq_nil_of_le (by simp; omega), runesL_nil, List.append_nil] at h3
            exact h3⟩
          clear HA HI hp
          go_wp2
          go_ret2
          exact ⟨_, rfl, by rw [← HT2.out]; exact Kd.R_mono HR.out (fun _ _ => trivial), HW.out⟩
    · rw [if_neg hv] at h
      obtain ⟨rfl, rfl⟩ := Prod.mk.inj h
      have HV := Aside0.mk (Bool.eq_false_iff.2 hv)
      clear h hs hv
      go_enter Tryd.func11, Tryd.ntmps11
      go_wp2_with (fail)
      refine (valid_string a0 _ (by have := HS.out; omega) HT).mono ?_
      rintro e W1 ⟨rfl, hB1⟩
      rw [HV.out]
      have HB1 := Aside0.mk hB1
      clear hB1 HB
      go_wp2
      go_ret2
      exact ⟨_, rfl, Kd.R_nil _ _ _ _ _, HB1.out⟩
  · rw [if_neg hs] at h
    cases h

-- NOT PRINTED: function 13 (lex_quoted)

-- NOT PRINTED: function 32 (abi_NoEscape)

-- NOT PRINTED: function 23 (strings_Builder_copyCheck)

-- NOT PRINTED: function 14 (strings_Builder_WriteByte)

-- NOT PRINTED: function 33 (utf8_appendRuneNonASCII)

-- NOT PRINTED: function 24 (utf8_AppendRune)

-- NOT PRINTED: function 15 (strings_Builder_WriteRune)

-- NOT PRINTED: function 16 (strings_Builder_String)

/-! ### lex_Quote: function 7 -/
/-! ### the map of what is quoted -/
def quoD : LD := ((((((DataW.map [] : LD).put (.int .i64 0) (litI 48)).put (.int .i64 9) (litI 116)).put (.int .i64 10) (litI 110)).put (.int .i64 92) (litI 92)).put (.int .i64 34) (litI 34))
set_option maxHeartbeats 4000000 in
set_option maxRecDepth 100000 in
theorem lx_quoted (w : World) : Calls Tryd.prog 13 #[] w fun e w' => e = .returned (.map (some w.heap.size)) ∧ w'.ownsMap Tryd.prog 3 (plainElem Tryd.prog 3) w.heap.size 5 quoD ∧ Below w.heap.size w w' := by
  have hmm := @run_makeMap Tryd.prog
  go_enter Tryd.func13, Tryd.ntmps13
  have hown0 : (w.alloc (.map #[] 0)).ownsMap Tryd.prog 3 (plainElem Tryd.prog 3) w.heap.size 0 (DataW.map [] : LD) := World.ownsMap_made _ _ _ _
  go_wp2_with (refine wpList_insert_own _ rfl _ _ _ 38 rfl 3 3 keyI Tryd.underlying38 _ w.heap.size _ _ rfl (by assumption) (by unfold maxLen; omega) _ _ _ rfl rfl (Maps.keyOf_int_mk Tryd.underlying3 (by decide)) _ [] (plainElem_int Tryd.underlying3 (by decide)) ?_; intro w1 hown1 hgrow1)
  go_ret
  refine ⟨rfl, by assumption, ?_⟩
  repeat (first | exact (Below.refl _ _).alloc (Nat.le_refl _) _ | refine below_own ?_ (by assumption) (Nat.le_refl _))
theorem quo_has (z : Int) : Go.Maps.has quoD (.int .i64 z) = (quoO z).isSome := by
  unfold quoD quoO
  by_cases h0 : z = 34
  · subst h0; rfl
  rw [Go.Maps.has_put_other (by simp; omega)]
  by_cases h1 : z = 92
  · subst h1; rfl
  rw [Go.Maps.has_put_other (by simp; omega)]
  by_cases h2 : z = 10
  · subst h2; rfl
  rw [Go.Maps.has_put_other (by simp; omega)]
  by_cases h3 : z = 9
  · subst h3; rfl
  rw [Go.Maps.has_put_other (by simp; omega)]
  by_cases h4 : z = 0
  · subst h4; rfl
  rw [Go.Maps.has_put_other (by simp; omega), if_neg h4, if_neg h3, if_neg h2, if_neg h1, if_neg h0]
  rfl
theorem quo_at (z : Int) : quoD.atKey (.int .i64 z) (litI 0) = litI ((quoO z).getD 0) := by
  unfold quoD quoO
  by_cases h0 : z = 34
  · subst h0; rfl
  rw [Go.Maps.atKey_put_other (by simp; omega)]
  by_cases h1 : z = 92
  · subst h1; rfl
  rw [Go.Maps.atKey_put_other (by simp; omega)]
  by_cases h2 : z = 10
  · subst h2; rfl
  rw [Go.Maps.atKey_put_other (by simp; omega)]
  by_cases h3 : z = 9
  · subst h3; rfl
  rw [Go.Maps.atKey_put_other (by simp; omega)]
  by_cases h4 : z = 0
  · subst h4; rfl
  rw [Go.Maps.atKey_put_other (by simp; omega), if_neg h4, if_neg h3, if_neg h2, if_neg h1, if_neg h0]
  rfl
theorem quo_look (W : World) (b : Nat) (h : W.ownsMap Tryd.prog 3 (plainElem Tryd.prog 3) b 5 quoD) (z : Int) (hz : (Lit.int .i64 z).wf = true) :
    (Instr.lookup 38 (.map (some b)) (.int .i64 z) true).run Tryd.prog W = .ok (.tuple #[.int .i64 ((quoO z).getD 0), .bool (quoO z).isSome]) W := by
  obtain ⟨v, ps, hrun, hv⟩ := h.look_ok keyI Tryd.underlying38 (zeroI W) (plainElem_int Tryd.underlying3 (by decide)) (Maps.keyOf_int_mk Tryd.underlying3 hz)
  obtain ⟨c, rfl, hc, hwc⟩ := plainElem_int_inv Tryd.underlying3 hv
  have e := congrArg Prod.fst hc
  rw [show (DataW.lit (.int .i64 0) : LD) = litI 0 from rfl, quo_at] at e
  have e2 : (quoO z).getD 0 = c := by
    unfold litI at e
    injection e with e
    injection e
  rw [hrun, quo_has, e2]
def lex_Quote.f (a0 : ByteArray) : Option (ByteArray × Int) := if a0.size ≤ 1000 then some (⟨(quoB a0.data.toList).1.toArray⟩, (quoB a0.data.toList).2) else none
theorem quoO_bd {r v : Int} (h : quoO r = some v) : 34 ≤ v ∧ v ≤ 116 := by
  unfold quoO at h
  repeat' split at h
  all_goals first | (cases h; omega) | cases h
theorem bc_app (a b : List UInt8) : Go.Lib.byteCells (a ++ b) = Go.Lib.byteCells a ++ Go.Lib.byteCells b := by simp [Go.Lib.byteCells]
theorem bc_rune (a : List UInt8) (r : Int) : Go.Lib.byteCells (a ++ Go.Lib.encodeRune r) = Go.Lib.byteCells a ++ Go.Lib.runeCells r := by rw [bc_app, Go.Lib.byteCells_encodeRune]
theorem bc_byte (a : List UInt8) (c : UInt8) (z : Int) (h : (c.toNat : Int) = z) : Go.Lib.byteCells (a ++ [c]) = Go.Lib.byteCells a ++ [.int .u8 z] := by rw [bc_app, ← h]; rfl
theorem enc_le4 (r : Int) : (Go.Lib.encodeRune r).length ≤ 4 := by
  have h2 := (Go.Lib.runeCells_le r).2
  rw [Go.Lib.runeCells_length] at h2
  exact h2
set_option maxHeartbeats 8000000 in
set_option maxRecDepth 100000 in
theorem lex_Quote.calls (a0 : ByteArray) (r0 : ByteArray) (r1 : Int) (w : World) (h : lex_Quote.f a0 = some (r0, r1)) (HT : Aside0 (Tabs w)) :
    Calls Tryd.prog 7 #[.string a0] w fun e w' => e = .returned (.tuple #[.string r0, .int .i64 r1]) ∧ Below w.heap.size w w' := by
  unfold lex_Quote.f at h
  by_cases hlen : a0.size ≤ 1000
  · rw [if_pos hlen] at h
    have h := Option.some.inj h
    obtain ⟨rfl, rfl⟩ := Prod.mk.inj h
    clear h
    have HLn := Aside0.mk hlen
    by_cases hv : Go.Lib.validD a0.data.toList = true
    · have HF : Aside0 (lex_Runes.f a0 = some (runesL a0.data.toList, 0)) := ⟨by unfold lex_Runes.f; rw [if_pos (by omega), if_pos hv]⟩
      have HN : Aside0 (quoB a0.data.toList = (match quoteL (runesL a0.data.toList) with | none => ([], 3) | some q => (34 :: q ++ [34], 0))) := ⟨by unfold quoB; rw [if_pos hv]; rfl⟩
      have HRL : Aside0 ((runesL a0.data.toList).length ≤ a0.size) := ⟨by have := runesL_len _ a0.data.toList (Nat.le_refl _); simpa using this⟩
      have HRB := Aside0.mk (runesL_bd _ a0.data.toList (Nat.le_refl _))
      generalize quoB a0.data.toList = ans at *
      generalize runesL a0.data.toList = R at *
      clear hv hlen
      go_enter Tryd.func7, Tryd.ntmps7
      go_wp2_with (fail)
      refine (lex_Runes.calls a0 R 0 _ HF.out HT).mono ?_
      rintro e W1 ⟨v0, rfl, hR1, hB1⟩
      obtain ⟨A, cp, rfl, hcp, hC⟩ := Kd.R_reads hR1
      have HC := Aside0.mk hC
      have HB1 := Aside0.mk hB1
      have HS1 := Aside0.mk hB1.size
      clear hR1 hcp hC hB1
      go_wp2_with (fail)
      refine (lx_quoted W1).mono ?_
      rintro e W2 ⟨rfl, hown, hB2⟩
      have HO := Aside0.mk hown
      have HB2 := Aside0.mk hB2
      have HS2 := Aside0.mk hB2.size
      clear hown hB2
      go_wp2_with (fail)
      refine (wb_byte W2.heap.size W2.heap.size [] 34 _ (wb_new W2) (by decide) (by simp)).mono ?_
      rintro e W3 ⟨rfl, hw3, hb3, -⟩
      have HW3 : Aside0 (Wb W2.heap.size W2.heap.size (Go.Lib.byteCells [34]) W3) := ⟨hw3⟩
      have HB3 : Aside0 (Below W2.heap.size W2 W3) := ⟨(below_alloc (Below.refl _ _) _).trans hb3⟩
      clear hw3 hb3
      go_wp2
      go_loopg [9, 10, 11, 24] (R.length + 1) (fun gk _ _ _ v24 W => ∃ (i : Nat) (z : Int) (T : List UInt8), v24 = .int .i64 z ∧ Aside0 ((i : Int) = z ∧ R.length - i < gk ∧ i ≤ R.length ∧ quoteL R = (quoteL (R.drop i)).map (T ++ ·) ∧ T.length ≤ 5 * i) ∧ Aside0 (Wb W2.heap.size W2.heap.size (Go.Lib.byteCells (34 :: T)) W) ∧ Aside0 (Below W2.heap.size W2 W))
      case atStart => exact ⟨0, 0, [], rfl, ⟨rfl, by omega, Nat.zero_le _, by rw [List.drop_zero]; cases quoteL R <;> rfl, Nat.le_refl _⟩, HW3, HB3⟩
      case round =>
        clear HW3 HB3
        obtain ⟨i, z, T, rfl, HA, HW, HB⟩ := hrel
        rename World => W
        obtain ⟨h1, h2, h3, h4, h5⟩ := HA.out
        have HRn : Aside0 (R.length ≤ 1000) := ⟨by have := HRL.out; have := HLn.out; omega⟩
        have hSz := HB.out.size
        by_cases hlt : i < R.length
        · have hd := drop_at R i hlt
          have c1 : decide (z < (R.length : Int)) = true := decide_eq_true (by omega)
          have p : (0 : Int) ≤ z := by omega
          have q : z < (R.length : Int) := by omega
          obtain ⟨ad, e, hx⟩ := Kd.at_int HC.out z p q
          cases e
          have HBx : Aside0 (Below W1.heap.size W1 W) := ⟨HB2.out.trans (HB.out.mono HS2.out)⟩
          replace hx := pw_cell_below HBx.out hx
          have hwf1 := HRB.out (rd R z) (by have := List.getElem_mem hlt; rw [← h1]; show R.getD i 0 ∈ R; rw [List.getD_eq_getElem?_getD, List.getElem?_eq_getElem hlt]; exact this)
          replace p := eq_true p
          replace q := eq_true q
          rw [h1] at hd
          generalize hv : rd R z = v at *
          have hlk := quo_look W W1.heap.size (HO.out.kept (grown_of_below HB.out none) (by simp)) v (WalkArith.wf_i64 (by omega))
          have HST : Aside0 (quoteL (R.drop i) = (match quoO v with | some u => (quoteL (R.drop (i + 1))).map (92 :: Go.Lib.encodeRune u ++ ·) | none => if v < 32 then none else (quoteL (R.drop (i + 1))).map (Go.Lib.encodeRune v ++ ·))) := ⟨by
            rw [hd]
            conv => lhs; unfold quoteL
            cases quoO v <;> cases quoteL (R.drop (i + 1)) <;> rfl⟩
          have hzz : IntKind.i64.wrap (z + 1) = ((i + 1 : Nat) : Int) := (i64_w _).trans (by have := HRn.out; simp only [wrap64]; omega)
          have HQ : Aside0 (R.length - i < gk ∧ i + 1 ≤ R.length ∧ T.length ≤ 5 * i ∧ i ≤ 1000) := ⟨by have := HRn.out; omega⟩
          have HV := Aside0.mk hwf1
          have HS := Aside0.mk hSz
          have H4 := Aside0.mk h4
          have hv32 : IntKind.i32.wrap v = v := i32_rune HV.out
          clear hd hv hwf1 h1 h2 h3 h4 h5 hlt HA hSz
          cases hq : quoO v with
          | some u =>
            rw [hq] at hlk HST
            have HU := Aside0.mk (quoO_bd hq)
            have hu32 : IntKind.i32.wrap u = u := i32_rune (by have := HU.out; omega)
            have HN2 : Aside0 (quoteL R = (quoteL (R.drop (i + 1))).map ((T ++ (92 :: Go.Lib.encodeRune u)) ++ ·)) := ⟨by
              rw [H4.out, HST.out]
              cases quoteL (R.drop (i + 1)) <;> simp⟩
            clear hq H4 HST
            simp only [Option.getD_some, Option.isSome_some] at hlk
            go_wp2_with (fail)
            refine (wb_byte W2.heap.size W2.heap.size _ 92 _ HW.out (by have := HQ.out; simp [Go.Lib.byteCells]; omega) HS.out).mono ?_
            rintro e W4 ⟨rfl, hw4, hb4, -⟩
            rw [← bc_byte (34 :: T) 92 92 rfl] at hw4
            have HW4 := Aside0.mk hw4
            have HB4 : Aside0 (Below W2.heap.size W2 W4) := ⟨HB.out.trans hb4⟩
            have HS4 := Aside0.mk HB4.out.size
            clear hw4 hb4
            go_wp2_with (fail)
            refine (wb_rune W2.heap.size W2.heap.size _ u (by have := HU.out; omega) (by have := HU.out; omega) _ HW4.out (by have := HQ.out; simp [Go.Lib.byteCells]; omega) HS4.out).mono ?_
            rintro e W5 ⟨rfl, hw5, hb5, -⟩
            rw [← bc_rune] at hw5
            have HW5 := Aside0.mk hw5
            have HB5 : Aside0 (Below W2.heap.size W2 W5) := ⟨HB4.out.trans hb5⟩
            clear hw5 hb5
            go_wp2
            go_roundg (R.length - i)
            case measure => exact HQ.out.1
            case rel => exact ⟨i + 1, _, T ++ (92 :: Go.Lib.encodeRune u), rfl, ⟨rfl, by have := HQ.out; omega, HQ.out.2.1, HN2.out, by have := enc_le4 u; have := HQ.out; simp; omega⟩, ⟨by have := HW5.out; simpa using this⟩, HB5⟩
          | none =>
            rw [hq] at hlk HST
            simp only [Option.getD_none, Option.isSome_none] at hlk
            clear hq
            by_cases h32 : v < 32
            · have c3 : decide (v < 32) = true := decide_eq_true h32
              have HE : Aside0 (ans = ([], 3)) := ⟨by rw [HN.out, H4.out, HST.out]; simp [h32]⟩
              clear h32 HST
              go_wp2
              go_ret2
              rw [HE.out]
              exact ⟨rfl, HB1.out.trans ((HB2.out.trans (HB.out.mono HS2.out)).mono HS1.out)⟩
            · have c3 : decide (v < 32) = false := decide_eq_false h32
              have HN2 : Aside0 (quoteL R = (quoteL (R.drop (i + 1))).map ((T ++ Go.Lib.encodeRune v) ++ ·)) := ⟨by
                rw [H4.out, HST.out]
                simp only [if_neg h32]
                cases quoteL (R.drop (i + 1)) <;> simp⟩
              clear h32 HST H4
              go_wp2_with (fail)
              refine (wb_rune W2.heap.size W2.heap.size _ v (by have := HV.out; omega) (by have := HV.out; omega) _ HW.out (by have := HQ.out; simp [Go.Lib.byteCells]; omega) HS.out).mono ?_
              rintro e W5 ⟨rfl, hw5, hb5, -⟩
              rw [← bc_rune] at hw5
              have HW5 := Aside0.mk hw5
              have HB5 : Aside0 (Below W2.heap.size W2 W5) := ⟨HB.out.trans hb5⟩
              clear hw5 hb5
              go_wp2
              go_roundg (R.length - i)
              case measure => exact HQ.out.1
              case rel => exact ⟨i + 1, _, T ++ Go.Lib.encodeRune v, rfl, ⟨rfl, by have := HQ.out; omega, HQ.out.2.1, HN2.out, by have := enc_le4 v; have := HQ.out; simp; omega⟩, ⟨by have := HW5.out; simpa using this⟩, HB5⟩
        · have c1 : decide (z < (R.length : Int)) = false := decide_eq_false (by omega)
          have HE : Aside0 (ans = (34 :: T ++ [34], 0)) := ⟨by rw [HN.out, h4, List.drop_eq_nil_of_le (by omega)]; simp [quoteL]⟩
          have HQ : Aside0 (T.length ≤ 5000) := ⟨by have := HRn.out; omega⟩
          have HS := Aside0.mk hSz
          clear hlt h1 h2 h3 h4 h5 HA hSz
          go_wp2_with (fail)
          refine (wb_byte W2.heap.size W2.heap.size _ 34 _ HW.out (by have := HQ.out; simp [Go.Lib.byteCells]; omega) HS.out).mono ?_
          rintro e W4 ⟨rfl, hw4, hb4, -⟩
          rw [← bc_byte (34 :: T) 34 34 rfl] at hw4
          have HW4 := Aside0.mk hw4
          have HB4 : Aside0 (Below W2.heap.size W2 W4) := ⟨HB.out.trans hb4⟩
          have HS4 := Aside0.mk HB4.out.size
          clear hw4 hb4
          go_wp2_with (fail)
          refine (wb_string_any W2.heap.size W2.heap.size _ _ HW4.out HS4.out).mono ?_
          rintro e W5 ⟨rfl, hb5⟩
          have HB5 := Aside0.mk hb5
          clear hb5
          go_wp2
          go_ret2
          rw [HE.out]
          exact ⟨rfl, HB1.out.trans ((HB2.out.trans ((HB4.out.trans HB5.out).mono HS2.out)).mono HS1.out)⟩
    · have HF : Aside0 (lex_Runes.f a0 = some ([], 3)) := ⟨by unfold lex_Runes.f; rw [if_pos (by omega), if_neg hv]⟩
      have HN : Aside0 (quoB a0.data.toList = ([], 3)) := ⟨by unfold quoB; rw [if_neg hv]⟩
      clear hlen hv
      rw [HN.out]
      go_enter Tryd.func7, Tryd.ntmps7
      go_wp2_with (fail)
      refine (lex_Runes.calls a0 [] 3 _ HF.out HT).mono ?_
      rintro e W1 ⟨v0, rfl, hR1, hB1⟩
      have HB1 := Aside0.mk hB1
      clear hR1 hB1
      go_wp2
      go_ret2
      exact ⟨rfl, HB1.out⟩
  · rw [if_neg hlen] at h
    cases h

/-! ### lex_white: function 25 -/
def lex_white.f (a0 : Int) : Option (Bool) := if a0 = 32 then (some true) else (if a0 = 9 then (some true) else (some (a0 == 13)))
set_option maxHeartbeats 8000000 in
set_option maxRecDepth 100000 in
theorem lex_white.calls (a0 : Int) (r : Bool) (w : World) (h : lex_white.f a0 = some r) :
  Calls Tryd.prog 25 #[.int .i64 a0] w fun e w' => e = .returned (.bool r) ∧ Drawn0 w w' := by
 have H : (if a0 = 32 then (some true) else (if a0 = 9 then (some true) else (some (a0 == 13)))) = some r := h
 clear h
 by_cases c2 : a0 = 32
 ·rw [if_pos c2] at H
  have c2b0 : (a0 == 32) = true := beq_iff_eq.mpr c2
  have c2b1 : (a0 != 32) = false := bne_eq_false_iff_eq.mpr c2
  clear c2
  obtain rfl := Option.some.inj H
  go_enter Tryd.func25, Tryd.ntmps25
  go_wp2
  go_ret
  exact ⟨by first | rfl | (simp; done) | (simp [*]; done), by repeat (first | exact Drawn0.refl _ | apply Drawn0.step)⟩
 ·rw [if_neg c2] at H
  have c2b0 : (a0 == 32) = false := beq_eq_false_iff_ne.mpr c2
  have c2b1 : (a0 != 32) = true := bne_iff_ne.mpr c2
  by_cases c3 : a0 = 9
  ·rw [if_pos c3] at H
   have c3b0 : (a0 == 9) = true := beq_iff_eq.mpr c3
   have c3b1 : (a0 != 9) = false := bne_eq_false_iff_eq.mpr c3
   clear c3
   obtain rfl := Option.some.inj H
   go_enter Tryd.func25, Tryd.ntmps25
   go_wp2
   go_ret
   exact ⟨by first | rfl | (simp; done) | (simp [*]; done), by repeat (first | exact Drawn0.refl _ | apply Drawn0.step)⟩
  ·rw [if_neg c3] at H
   have c3b0 : (a0 == 9) = false := beq_eq_false_iff_ne.mpr c3
   have c3b1 : (a0 != 9) = true := bne_iff_ne.mpr c3
   obtain rfl := Option.some.inj H
   go_enter Tryd.func25, Tryd.ntmps25
   go_wp2
   go_ret
   exact ⟨by first | rfl | (simp; done) | (simp [*]; done), by repeat (first | exact Drawn0.refl _ | apply Drawn0.step)⟩

/-- A state of type 54 at block g of W; what its slices lead to came in by w0. -/
def IsS54 (w0 W : World) (g : Nat) (f0 : List Int) (f1 : Int) : Prop := ∃ A0 c0, W.heap[g]? = some (.cells #[.slice A0 f0.length c0, .int .i64 f1] 54 (0, 0)) ∧ w0.heap.size ≤ g ∧ Kd.C (Kd.int .i64) w0 A0 f0.length f0
theorem IsS54.grown {w0 W : World} {g : Nat} {f0 : List Int} {f1 : Int} {W1 : World} {row : Option Nat} (h : IsS54 w0 W g f0 f1) (hw : W.grownBy W1 row) (hne : some g ≠ row) : IsS54 w0 W1 g f0 f1 := by
 obtain ⟨A0, c0, hb, hg, hr0⟩ := h
 exact ⟨A0, c0, blk_grown hb hw hne, hg, hr0⟩
theorem IsS54.own_neN {w0 W : World} {g : Nat} {f0 : List Int} {f1 : Int} {α : Type} {d : Kd α} {e : Nat} {base : Nat} {ok : Nat → Prop} {v : Value} {xs : List α} (h : IsS54 w0 W g f0 f1) (ho : Kd.N d e W base ok v xs) (ht : e ≠ 54) : some g ≠ v.ownBlock := by
 obtain ⟨A0, c0, hb, hg, hr0⟩ := h
 exact Kd.N_ne ho hb ht
theorem IsS54.fresh {w0 W : World} {g : Nat} {f0 : List Int} {f1 : Int} (h : IsS54 w0 W g f0 f1) : ∀ k, W.heap.size ≤ k → k ≠ g := by
 obtain ⟨A0, c0, hb, hg, hr0⟩ := h
 exact Kd.freshB hb
theorem IsS54.kept {w0 W : World} {g : Nat} {f0 : List Int} {f1 : Int} {W1 : World} {S : Nat → Prop} (h : IsS54 w0 W g f0 f1) (hk : Kept W W1 S) (hne : ¬ S g) : IsS54 w0 W1 g f0 f1 := by
 obtain ⟨A0, c0, hb, hg, hr0⟩ := h
 exact ⟨A0, c0, blk_kept hb hk hne, hg, hr0⟩
theorem IsS54.below {w0 W : World} {g : Nat} {f0 : List Int} {f1 : Int} {W1 : World} (h : IsS54 w0 W g f0 f1) (hw : Below W.heap.size W W1) : IsS54 w0 W1 g f0 f1 := h.grown (grown_of_below hw none) (by simp)
theorem IsS54.alloc {w0 W : World} {g : Nat} {f0 : List Int} {f1 : Int} (h : IsS54 w0 W g f0 f1) (o : Obj) : IsS54 w0 (W.alloc o) g f0 f1 := h.below (below_alloc (Below.refl _ _) o)
theorem IsS54.drewN {w0 W : World} {g : Nat} {f0 : List Int} {f1 : Int} (h : IsS54 w0 W g f0 f1) (m : Nat) : IsS54 w0 (W.drewN m) g f0 f1 := h
theorem IsS54.drew {w0 W : World} {g : Nat} {f0 : List Int} {f1 : Int} (h : IsS54 w0 W g f0 f1) : IsS54 w0 W.drew g f0 f1 := h
theorem IsS54.at_ {w0 W : World} {g : Nat} {f0 : List Int} {f1 : Int} {w' : World} {m : Nat} (hq : W.drewN m = w') (h : IsS54 w0 W g f0 f1) : IsS54 w0 w' g f0 f1 := by subst hq; exact IsS54.drewN h m
theorem IsS54.apart {w0 W : World} {g : Nat} {f0 : List Int} {f1 : Int} {α : Type} {d : Kd α} {e : Nat} {base : Nat} {ok : Nat → Prop} {v : Value} {xs : List α} (h : IsS54 w0 W g f0 f1) (ho : d.R e W base ok v xs) (ht : ∀ q, q ∈ e :: d.E → q ≠ 54) : d.R e W base (fun k => ok k ∧ k ≠ g) v xs := by
 obtain ⟨A0, c0, hb, hg, hr0⟩ := h
 exact Kd.R_types ho hb ht
theorem IsS54.own_ne {w0 W : World} {g : Nat} {f0 : List Int} {f1 : Int} {α : Type} {d : Kd α} {e : Nat} {base : Nat} {ok : Nat → Prop} {v : Value} {xs : List α} (h : IsS54 w0 W g f0 f1) (ho : d.R e W base ok v xs) (ht : e ≠ 54) : some g ≠ v.ownBlock := by
 obtain ⟨A0, c0, hb, hg, hr0⟩ := h
 exact Kd.R_ne ho hb ht
theorem IsS54.apartQ {w0 W : World} {g : Nat} {f0 : List Int} {f1 : Int} {α : Type} {d : Kd α} {e : Nat} {base : Nat} {ok : Nat → Prop} {v : Value} {xs : List α} (h : IsS54 w0 W g f0 f1) (ho : d.Q e W base ok v xs) (ht : ∀ q, q ∈ e :: d.E → q ≠ 54) : d.Q e W base (fun k => ok k ∧ k ≠ g) v xs := by
 obtain ⟨A0, c0, hb, hg, hr0⟩ := h
 exact Kd.Q_types ho hb ht
theorem IsS54.own_neQ {w0 W : World} {g : Nat} {f0 : List Int} {f1 : Int} {α : Type} {d : Kd α} {e : Nat} {base : Nat} {ok : Nat → Prop} {v : Value} {xs : List α} (h : IsS54 w0 W g f0 f1) (ho : d.Q e W base ok v xs) (ht : e ≠ 54) : some g ≠ v.ownBlock := by
 obtain ⟨A0, c0, hb, hg, hr0⟩ := h
 exact Kd.Q_ne ho hb ht
theorem IsS54.apartS {w0 W : World} {g : Nat} {f0 : List Int} {f1 : Int} {α : Type} {d : Kd α} {e : Nat} {base : Nat} {ok : Nat → Prop} {v : Value} {xs : List α} (h : IsS54 w0 W g f0 f1) (ho : d.S e W base ok v xs) (ht : ∀ q, q ∈ e :: d.E → q ≠ 54) : d.S e W base (fun k => ok k ∧ k ≠ g) v xs := by
 obtain ⟨A0, c0, hb, hg, hr0⟩ := h
 exact Kd.S_types ho hb ht
theorem IsS54.own_neS {w0 W : World} {g : Nat} {f0 : List Int} {f1 : Int} {α : Type} {d : Kd α} {e : Nat} {base : Nat} {ok : Nat → Prop} {v : Value} {xs : List α} (h : IsS54 w0 W g f0 f1) (ho : d.S e W base ok v xs) (ht : e ≠ 54) : some g ≠ v.ownBlock := by
 obtain ⟨A0, c0, hb, hg, hr0⟩ := h
 exact Kd.S_ne ho hb ht
theorem IsS54.lt {w0 W : World} {g : Nat} {f0 : List Int} {f1 : Int} (h : IsS54 w0 W g f0 f1) : g < W.heap.size := by
 obtain ⟨A0, c0, hb, hg, hr0⟩ := h
 exact blk_lt hb
theorem IsS54.ge {w0 W : World} {g : Nat} {f0 : List Int} {f1 : Int} (h : IsS54 w0 W g f0 f1) : w0.heap.size ≤ g := by
 obtain ⟨A0, c0, hb, hg, hr0⟩ := h
 exact hg
theorem IsS54.ne_blk {w0 W : World} {g : Nat} {f0 : List Int} {f1 : Int} {a : Nat} {cs : Array Value} {t : TypeId} {fr : Nat × Nat} (h : IsS54 w0 W g f0 f1) (hb2 : W.heap[a]? = some (.cells cs t fr)) (ht : t ≠ 54) : g ≠ a := by
 obtain ⟨A0, c0, hb, hg, hr0⟩ := h
 rintro rfl
 rw [hb] at hb2
 injection hb2 with hb2
 injection hb2 with _ ht2
 exact ht ht2.symm
theorem IsS54.far {w0 W : World} {g : Nat} {f0 : List Int} {f1 : Int} {p : Addr} (h : IsS54 w0 W g f0 f1) (hne : g ≠ p.block) (u : Value) : IsS54 w0 (W.setCell p u) g f0 f1 := by
 obtain ⟨A0, c0, hb, hg, hr0⟩ := h
 exact ⟨A0, c0, blk_far hb hne u, hg, hr0⟩
theorem cellS54_0 {W : World} {g : Nat} {A0 : Option Addr} {c0 : Nat} {f0 : List Int} {f1 : Int} (h : W.heap[g]? = some (.cells #[.slice A0 f0.length c0, .int .i64 f1] 54 (0, 0))) : W.cell? ⟨g, 0, none⟩ = some (.slice A0 f0.length c0) := (blk_cell h 0).trans rfl
theorem cellS54_1 {W : World} {g : Nat} {A0 : Option Addr} {c0 : Nat} {f0 : List Int} {f1 : Int} (h : W.heap[g]? = some (.cells #[.slice A0 f0.length c0, .int .i64 f1] 54 (0, 0))) : W.cell? ⟨g, 1, none⟩ = some (.int .i64 f1) := (blk_cell h 1).trans rfl
theorem IsS54.set_1 {w0 W : World} {g : Nat} {f0 : List Int} {f1 : Int} (h : IsS54 w0 W g f0 f1) (x : Int) : IsS54 w0 (W.setCell ⟨g, 1, none⟩ (.int .i64 x)) g f0 x := by
 obtain ⟨A0, c0, hb, hg, hr0⟩ := h
 exact ⟨A0, c0, by simpa using blk_set hb 1 (.int .i64 x), hg, hr0⟩
theorem IsS54.new (w0 W : World) (A0 : Option Addr) (c0 : Nat) (f0 : List Int) (f1 : Int) (hB : Below w0.heap.size w0 W) (hr0 : Kd.C (Kd.int .i64) w0 A0 f0.length f0) : IsS54 w0 (W.alloc (.cells #[.slice A0 f0.length c0, .int .i64 f1] 54)) W.heap.size f0 f1 := ⟨A0, c0, by simpa using heap_alloc_new W _, hB.size, hr0⟩

/-! ### lex_reader_is: function 26 -/
def lex_reader_is.f (s0_0 : List Int) (s0_1 : Int) (a1 : Int) (a2 : Int) : Option (Bool × Int) := if (wrap64 (s0_1 + a1)) < (s0_0.length : Int) then (if 0 ≤ (wrap64 (s0_1 + a1)) then (some (((rd s0_0 (wrap64 (s0_1 + a1))) == a2), s0_1)) else (none)) else (some (false, s0_1))
set_option maxHeartbeats 8000000 in
set_option maxRecDepth 100000 in
theorem lex_reader_is.calls (g : Nat) (s0_0 : List Int) (s0_1 : Int) (a1 : Int) (a2 : Int) (r1 : Bool) (r2 : Int) (w0 w : World) (hI : IsS54 w0 w g s0_0 s0_1) (hB : Below w0.heap.size w0 w) (h : lex_reader_is.f s0_0 s0_1 a1 a2 = some (r1, r2)) :
  Calls Tryd.prog 26 #[.pointer (some ⟨g, 0, none⟩), .int .i64 a1, .int .i64 a2] w fun e w' => e = .returned (.bool r1) ∧ IsS54 w0 w' g s0_0 r2 ∧ Below w0.heap.size w0 w' ∧ KeepBut w w' g none := by
 have HI0 := Aside0.mk hI
 have HK := Aside0.mk (KeepBut.refl w g none)
 have HL := Aside0.mk hB.size
 clear hI
 have HW0 := Aside0.mk hB.size
 have HB := Aside0.mk hB
 clear hB
 have H : (if (wrap64 (s0_1 + a1)) < (s0_0.length : Int) then (if 0 ≤ (wrap64 (s0_1 + a1)) then (some (((rd s0_0 (wrap64 (s0_1 + a1))) == a2), s0_1)) else (none)) else (some (false, s0_1))) = some (r1, r2) := h
 clear h
 by_cases c4 : (wrap64 (s0_1 + a1)) < (s0_0.length : Int)
 ·rw [if_pos c4] at H
  have c4b0 : decide ((wrap64 (s0_1 + a1)) < (s0_0.length : Int)) = true := decide_eq_true c4
  clear c4
  obtain ⟨ji5, hji5⟩ : ∃ j_ : Int, (wrap64 (s0_1 + a1)) = j_ := ⟨_, rfl⟩
  replace H : (if 0 ≤ (ji5) then (some (((rd s0_0 (ji5)) == a2), s0_1)) else (none)) = some (r1, r2) := by first | (rw [hji5] at H; exact H) | (simp only [hji5] at H ⊢; exact H)
  (try rw [hji5] at c4b0)
  have hji5w : (IntKind.i64.wrap (s0_1 + a1)) = ji5 := (i64_w _).trans hji5
  by_cases c6 : 0 ≤ (ji5)
  ·rw [if_pos c6] at H
   have c6b0 : decide (0 ≤ (ji5)) = true := decide_eq_true c6
   clear c6
   simp only [Option.some.injEq, Prod.mk.injEq] at H
   obtain ⟨rfl, rfl⟩ := H
   obtain ⟨ASz7_0, cSz7_0, HGz7, hgz7, HSz7_0⟩ := HI0.out
   have hcz7_0 := cellS54_0 HGz7
   have hcz7_1 := cellS54_1 HGz7
   have hfz7_1 := blk_frozen HGz7 1
   clear HGz7 hgz7
   have p134 : 0 ≤ ((ji5) : Int) := of_decide_eq_true (by first | (with_reducible assumption) | assumption)
   have q134 : (ji5) < (s0_0.length : Int) := of_decide_eq_true (by first | (with_reducible assumption) | assumption)
   obtain ⟨ad134, e134, hx134_0⟩ := Kd.at_int HSz7_0 (ji5) p134 q134
   cases e134
   replace hx134_0 := pw_cell_below HB.out hx134_0
   replace p134 := eq_true p134
   replace q134 := eq_true q134
   go_enter Tryd.func26, Tryd.ntmps26
   go_wp2
   repeat (go_quiet (fail); try go_wp2)
   go_ret
   exact ⟨by first | rfl | (simp [errW_none, errW_some] <;> rfl) | (simp only [← hji5]; first | rfl | (simp [errW_none, errW_some] <;> rfl)) | (simp [*, errW_none, errW_some] <;> rfl), by repeat (first | (with_reducible first | exact HI0.out | apply IsS54.alloc | apply IsS54.drewN | apply IsS54.drew | apply IsS54.set_1) | exact HI0.out), by repeat (first | (with_reducible first | exact HB.out | apply below_alloc | apply pw_below_drewN | apply below_drew1 | refine below_set ?_ (IsS54.ge HI0.out)) | exact HB.out), by repeat (first | (with_reducible first | exact HK.out | apply KeepBut.set_ | apply keep_drewN | apply keep_drew | apply keep_alloc) | exact HK.out)⟩
  ·rw [if_neg c6] at H
   exact absurd H (by simp)
 ·rw [if_neg c4] at H
  have c4b0 : decide ((wrap64 (s0_1 + a1)) < (s0_0.length : Int)) = false := decide_eq_false c4
  clear c4
  simp only [Option.some.injEq, Prod.mk.injEq] at H
  obtain ⟨rfl, rfl⟩ := H
  obtain ⟨ASz8_0, cSz8_0, HGz8, hgz8, HSz8_0⟩ := HI0.out
  have hcz8_0 := cellS54_0 HGz8
  have hcz8_1 := cellS54_1 HGz8
  have hfz8_1 := blk_frozen HGz8 1
  clear HGz8 hgz8
  go_enter Tryd.func26, Tryd.ntmps26
  go_wp2
  repeat (go_quiet (fail); try go_wp2)
  go_ret
  exact ⟨by first | rfl | (simp [errW_none, errW_some] <;> rfl) | (simp [*, errW_none, errW_some] <;> rfl), by repeat (first | (with_reducible first | exact HI0.out | apply IsS54.alloc | apply IsS54.drewN | apply IsS54.drew | apply IsS54.set_1) | exact HI0.out), by repeat (first | (with_reducible first | exact HB.out | apply below_alloc | apply pw_below_drewN | apply below_drew1 | refine below_set ?_ (IsS54.ge HI0.out)) | exact HB.out), by repeat (first | (with_reducible first | exact HK.out | apply KeepBut.set_ | apply keep_drewN | apply keep_drew | apply keep_alloc) | exact HK.out)⟩

-- NOT PRINTED: function 18 (lex_reader_skip)

/-! ### lex_letter: function 21 -/
def lex_letter.j0 : Nat → Int → Bool → Option (Bool)
 | 0, _, _ => none
 | k + 1, x0, x3 => if x3 = true then (some true) else (if x0 ≥ 65 then (if x0 ≤ 90 then (some true) else (if x0 = 95 then (some true) else (if x0 = 46 then (some true) else (some (x0 == 36))))) else (if x0 = 95 then (some true) else (if x0 = 46 then (some true) else (some (x0 == 36)))))
def lex_letter.f (k : Nat) (a0 : Int) : Option (Bool) := if a0 ≥ 97 then (lex_letter.j0 k a0 (decide (a0 ≤ 122))) else (lex_letter.j0 k a0 false)
theorem lex_letter.mono_l : ∀ k, (∀ y0 y1, LeO (lex_letter.j0 k y0 y1) (lex_letter.j0 (k + 1) y0 y1))
 | 0 => fun _ _ r h => by simp [lex_letter.j0] at h
 | k + 1 => by
  have ih0 := lex_letter.mono_l k
  ·intro y0 y1
   unfold lex_letter.j0
   repeat' first
   | (with_reducible exact ih0 _ _)
   | (with_reducible exact LeO.refl _)
   | (with_reducible exact LeO.none _)
   | (with_reducible refine LeO.ite ?_ ?_)
   | (with_reducible refine LeO.bind ?_ (fun _ => ?_))
   | exact ih0 _ _
   | exact LeO.none _
   | refine LeO.ite ?_ ?_
   | refine LeO.bind ?_ (fun _ => ?_)
theorem lex_letter.mono : ∀ a0 k, LeO (lex_letter.f k a0) (lex_letter.f (k + 1) a0) := by
 intro a0 k
 have ih0 := lex_letter.mono_l k
 unfold lex_letter.f
 repeat' first
   | (with_reducible exact ih0 _ _)
   | (with_reducible exact LeO.refl _)
   | (with_reducible exact LeO.none _)
   | (with_reducible refine LeO.ite ?_ ?_)
   | (with_reducible refine LeO.bind ?_ (fun _ => ?_))
   | exact ih0 _ _
   | exact LeO.none _
   | refine LeO.ite ?_ ?_
   | refine LeO.bind ?_ (fun _ => ?_)
set_option maxHeartbeats 8000000 in
set_option maxRecDepth 100000 in
theorem lex_letter.calls (k : Nat) (a0 : Int) (r : Bool) (w : World) (h : lex_letter.f k a0 = some r) :
  Calls Tryd.prog 21 #[.int .i64 a0] w fun e w' => e = .returned (.bool r) ∧ Drawn0 w w' := by
 have H : (if a0 ≥ 97 then (lex_letter.j0 k a0 (decide (a0 ≤ 122))) else (lex_letter.j0 k a0 false)) = some r := h
 clear h
 have HC2 := Aside0.mk H
 clear H
 go_enter Tryd.func21, Tryd.ntmps21
 go_upto_region 1 with (fail)
 go_cut [3] (fun v3 wc => ∃ (kq : Nat) (x3_1 : Bool), v3 = .bool x3_1 ∧ Aside0 (lex_letter.j0 kq a0 x3_1 = some r) ∧ Aside0 (kq ≤ k) ∧ Drawn0 w wc)
 case first =>
  have H := HC2.out
  clear HC2
  by_cases c3 : a0 ≥ 97
  ·rw [if_pos c3] at H
   have c3b0 : decide (97 ≤ a0) = true := decide_eq_true c3
   clear c3
   (first | rw [c3b0] | (simp only [i64_w, i32_w]; rw [c3b0]) | skip)
   have H' := Aside0.mk H
   clear H
   go_wp2
   go_meet
   case rel => exact ⟨_, (decide (a0 ≤ 122)), (by first | rfl | (simp; done) | (simp [*]; done)), H', ⟨by first | omega | exact Nat.le_refl _⟩, by repeat (first | exact Drawn0.refl _ | apply Drawn0.step)⟩
  ·rw [if_neg c3] at H
   have c3b0 : decide (97 ≤ a0) = false := decide_eq_false c3
   clear c3
   (first | rw [c3b0] | (simp only [i64_w, i32_w]; rw [c3b0]) | skip)
   have H' := Aside0.mk H
   clear H
   go_wp2
   go_meet
   case rel => exact ⟨_, (false), (by first | rfl | (simp; done) | (simp [*]; done)), H', ⟨by first | omega | exact Nat.le_refl _⟩, by repeat (first | exact Drawn0.refl _ | apply Drawn0.step)⟩
 case rest =>
  clear HC2
  try clear c2
  try clear p2
  try clear c3
  try clear c3b0
  obtain ⟨kq, x3_1, rfl, HA, HJ1, ⟨mc1, rfl⟩⟩ := hcut
  cases kq with
  | zero => exact absurd HA.out (by simp [lex_letter.j0])
  | succ kj1 =>
   have H := HA.out
   clear HA
   simp only [lex_letter.j0] at H
   by_cases c4 : x3_1 = true
   ·subst c4
    rw [if_pos rfl] at H
    obtain rfl := Option.some.inj H
    go_wp2
    go_ret
    exact ⟨by first | rfl | (simp; done) | (simp [*]; done), by repeat (first | exact Drawn0.refl _ | apply Drawn0.step)⟩
   ·replace c4 := Bool.eq_false_iff.mpr c4
    subst c4
    rw [if_neg (show ¬ (false = true) by decide)] at H
    by_cases c5 : a0 ≥ 65
    ·rw [if_pos c5] at H
     have c5b0 : decide (65 ≤ a0) = true := decide_eq_true c5
     clear c5
     by_cases c6 : a0 ≤ 90
     ·rw [if_pos c6] at H
      have c6b0 : decide (a0 ≤ 90) = true := decide_eq_true c6
      clear c6
      obtain rfl := Option.some.inj H
      go_wp2
      go_ret
      exact ⟨by first | rfl | (simp; done) | (simp [*]; done), by repeat (first | exact Drawn0.refl _ | apply Drawn0.step)⟩
     ·rw [if_neg c6] at H
      have c6b0 : decide (a0 ≤ 90) = false := decide_eq_false c6
      clear c6
      by_cases c7 : a0 = 95
      ·rw [if_pos c7] at H
       have c7b0 : (a0 == 95) = true := beq_iff_eq.mpr c7
       have c7b1 : (a0 != 95) = false := bne_eq_false_iff_eq.mpr c7
       clear c7
       obtain rfl := Option.some.inj H
       go_wp2
       go_ret
       exact ⟨by first | rfl | (simp; done) | (simp [*]; done), by repeat (first | exact Drawn0.refl _ | apply Drawn0.step)⟩
      ·rw [if_neg c7] at H
       have c7b0 : (a0 == 95) = false := beq_eq_false_iff_ne.mpr c7
       have c7b1 : (a0 != 95) = true := bne_iff_ne.mpr c7
       by_cases c8 : a0 = 46
       ·rw [if_pos c8] at H
        have c8b0 : (a0 == 46) = true := beq_iff_eq.mpr c8
        have c8b1 : (a0 != 46) = false := bne_eq_false_iff_eq.mpr c8
        clear c8
        obtain rfl := Option.some.inj H
        go_wp2
        go_ret
        exact ⟨by first | rfl | (simp; done) | (simp [*]; done), by repeat (first | exact Drawn0.refl _ | apply Drawn0.step)⟩
       ·rw [if_neg c8] at H
        have c8b0 : (a0 == 46) = false := beq_eq_false_iff_ne.mpr c8
        have c8b1 : (a0 != 46) = true := bne_iff_ne.mpr c8
        obtain rfl := Option.some.inj H
        go_wp2
        go_ret
        exact ⟨by first | rfl | (simp; done) | (simp [*]; done), by repeat (first | exact Drawn0.refl _ | apply Drawn0.step)⟩
    ·rw [if_neg c5] at H
     have c5b0 : decide (65 ≤ a0) = false := decide_eq_false c5
     clear c5
     by_cases c9 : a0 = 95
     ·rw [if_pos c9] at H
      have c9b0 : (a0 == 95) = true := beq_iff_eq.mpr c9
      have c9b1 : (a0 != 95) = false := bne_eq_false_iff_eq.mpr c9
      clear c9
      obtain rfl := Option.some.inj H
      go_wp2
      go_ret
      exact ⟨by first | rfl | (simp; done) | (simp [*]; done), by repeat (first | exact Drawn0.refl _ | apply Drawn0.step)⟩
     ·rw [if_neg c9] at H
      have c9b0 : (a0 == 95) = false := beq_eq_false_iff_ne.mpr c9
      have c9b1 : (a0 != 95) = true := bne_iff_ne.mpr c9
      by_cases c10 : a0 = 46
      ·rw [if_pos c10] at H
       have c10b0 : (a0 == 46) = true := beq_iff_eq.mpr c10
       have c10b1 : (a0 != 46) = false := bne_eq_false_iff_eq.mpr c10
       clear c10
       obtain rfl := Option.some.inj H
       go_wp2
       go_ret
       exact ⟨by first | rfl | (simp; done) | (simp [*]; done), by repeat (first | exact Drawn0.refl _ | apply Drawn0.step)⟩
      ·rw [if_neg c10] at H
       have c10b0 : (a0 == 46) = false := beq_eq_false_iff_ne.mpr c10
       have c10b1 : (a0 != 46) = true := bne_iff_ne.mpr c10
       obtain rfl := Option.some.inj H
       go_wp2
       go_ret
       exact ⟨by first | rfl | (simp; done) | (simp [*]; done), by repeat (first | exact Drawn0.refl _ | apply Drawn0.step)⟩

/-! ### lex_digit: function 22 -/
def lex_digit.f (a0 : Int) : Option (Bool) := if a0 ≥ 48 then (some (decide (a0 ≤ 57))) else (some false)
set_option maxHeartbeats 8000000 in
set_option maxRecDepth 100000 in
theorem lex_digit.calls (a0 : Int) (r : Bool) (w : World) (h : lex_digit.f a0 = some r) :
  Calls Tryd.prog 22 #[.int .i64 a0] w fun e w' => e = .returned (.bool r) ∧ Drawn0 w w' := by
 have H : (if a0 ≥ 48 then (some (decide (a0 ≤ 57))) else (some false)) = some r := h
 clear h
 by_cases c2 : a0 ≥ 48
 ·rw [if_pos c2] at H
  have c2b0 : decide (48 ≤ a0) = true := decide_eq_true c2
  clear c2
  obtain rfl := Option.some.inj H
  go_enter Tryd.func22, Tryd.ntmps22
  go_wp2
  go_ret
  exact ⟨by first | rfl | (simp; done) | (simp [*]; done), by repeat (first | exact Drawn0.refl _ | apply Drawn0.step)⟩
 ·rw [if_neg c2] at H
  have c2b0 : decide (48 ≤ a0) = false := decide_eq_false c2
  clear c2
  obtain rfl := Option.some.inj H
  go_enter Tryd.func22, Tryd.ntmps22
  go_wp2
  go_ret
  exact ⟨by first | rfl | (simp; done) | (simp [*]; done), by repeat (first | exact Drawn0.refl _ | apply Drawn0.step)⟩

-- NOT PRINTED: function 27 (lex_reader_run)

-- NOT PRINTED: function 36 (lex_escapes)

-- NOT PRINTED: function 34 (lex_reader_one)

-- NOT PRINTED: function 28 (lex_reader_text)

-- NOT PRINTED: function 29 (lex_reader_char)

-- NOT PRINTED: function 42 (bytealg_IndexByteString)

-- NOT PRINTED: function 41 (stringslite_IndexByte)

-- NOT PRINTED: function 37 (strings_IndexByte)

/-! ### utf8_ValidRune: function 38 -/
def utf8_ValidRune.j0 : Nat → Int → Bool → Option (Bool)
 | 0, _, _ => none
 | k + 1, x0, x3 => if x3 = true then (some true) else (if 57343 < x0 then (if x0 ≤ 1114111 then (some true) else (some false)) else (some false))
def utf8_ValidRune.f (k : Nat) (a0 : Int) : Option (Bool) := if 0 ≤ a0 then (utf8_ValidRune.j0 k a0 (decide (a0 < 55296))) else (utf8_ValidRune.j0 k a0 false)
theorem utf8_ValidRune.mono_l : ∀ k, (∀ y0 y1, LeO (utf8_ValidRune.j0 k y0 y1) (utf8_ValidRune.j0 (k + 1) y0 y1))
 | 0 => fun _ _ r h => by simp [utf8_ValidRune.j0] at h
 | k + 1 => by
  have ih0 := utf8_ValidRune.mono_l k
  ·intro y0 y1
   unfold utf8_ValidRune.j0
   repeat' first
   | (with_reducible exact ih0 _ _)
   | (with_reducible exact LeO.refl _)
   | (with_reducible exact LeO.none _)
   | (with_reducible refine LeO.ite ?_ ?_)
   | (with_reducible refine LeO.bind ?_ (fun _ => ?_))
   | exact ih0 _ _
   | exact LeO.none _
   | refine LeO.ite ?_ ?_
   | refine LeO.bind ?_ (fun _ => ?_)
theorem utf8_ValidRune.mono : ∀ a0 k, LeO (utf8_ValidRune.f k a0) (utf8_ValidRune.f (k + 1) a0) := by
 intro a0 k
 have ih0 := utf8_ValidRune.mono_l k
 unfold utf8_ValidRune.f
 repeat' first
   | (with_reducible exact ih0 _ _)
   | (with_reducible exact LeO.refl _)
   | (with_reducible exact LeO.none _)
   | (with_reducible refine LeO.ite ?_ ?_)
   | (with_reducible refine LeO.bind ?_ (fun _ => ?_))
   | exact ih0 _ _
   | exact LeO.none _
   | refine LeO.ite ?_ ?_
   | refine LeO.bind ?_ (fun _ => ?_)
set_option maxHeartbeats 8000000 in
set_option maxRecDepth 100000 in
theorem utf8_ValidRune.calls (k : Nat) (a0 : Int) (r : Bool) (w : World) (h : utf8_ValidRune.f k a0 = some r) :
  Calls Tryd.prog 38 #[.int .i32 a0] w fun e w' => e = .returned (.bool r) ∧ Drawn0 w w' := by
 have H : (if 0 ≤ a0 then (utf8_ValidRune.j0 k a0 (decide (a0 < 55296))) else (utf8_ValidRune.j0 k a0 false)) = some r := h
 clear h
 have HC2 := Aside0.mk H
 clear H
 go_enter Tryd.func38, Tryd.ntmps38
 go_upto_region 1 with (fail)
 go_cut [3] (fun v3 wc => ∃ (kq : Nat) (x3_1 : Bool), v3 = .bool x3_1 ∧ Aside0 (utf8_ValidRune.j0 kq a0 x3_1 = some r) ∧ Aside0 (kq ≤ k) ∧ Drawn0 w wc)
 case first =>
  have H := HC2.out
  clear HC2
  by_cases c3 : 0 ≤ a0
  ·rw [if_pos c3] at H
   have c3b0 : decide (0 ≤ a0) = true := decide_eq_true c3
   clear c3
   (first | rw [c3b0] | (simp only [i64_w, i32_w]; rw [c3b0]) | skip)
   have H' := Aside0.mk H
   clear H
   go_wp2
   go_meet
   case rel => exact ⟨_, (decide (a0 < 55296)), (by first | rfl | (simp; done) | (simp [*]; done)), H', ⟨by first | omega | exact Nat.le_refl _⟩, by repeat (first | exact Drawn0.refl _ | apply Drawn0.step)⟩
  ·rw [if_neg c3] at H
   have c3b0 : decide (0 ≤ a0) = false := decide_eq_false c3
   clear c3
   (first | rw [c3b0] | (simp only [i64_w, i32_w]; rw [c3b0]) | skip)
   have H' := Aside0.mk H
   clear H
   go_wp2
   go_meet
   case rel => exact ⟨_, (false), (by first | rfl | (simp; done) | (simp [*]; done)), H', ⟨by first | omega | exact Nat.le_refl _⟩, by repeat (first | exact Drawn0.refl _ | apply Drawn0.step)⟩
 case rest =>
  clear HC2
  try clear p2
  try clear c3
  try clear c3b0
  obtain ⟨kq, x3_1, rfl, HA, HJ1, ⟨mc1, rfl⟩⟩ := hcut
  cases kq with
  | zero => exact absurd HA.out (by simp [utf8_ValidRune.j0])
  | succ kj1 =>
   have H := HA.out
   clear HA
   simp only [utf8_ValidRune.j0] at H
   by_cases c4 : x3_1 = true
   ·subst c4
    rw [if_pos rfl] at H
    obtain rfl := Option.some.inj H
    go_wp2
    go_ret
    exact ⟨by first | rfl | (simp; done) | (simp [*]; done), by repeat (first | exact Drawn0.refl _ | apply Drawn0.step)⟩
   ·replace c4 := Bool.eq_false_iff.mpr c4
    subst c4
    rw [if_neg (show ¬ (false = true) by decide)] at H
    by_cases c5 : 57343 < a0
    ·rw [if_pos c5] at H
     have c5b0 : decide (57343 < a0) = true := decide_eq_true c5
     clear c5
     by_cases c6 : a0 ≤ 1114111
     ·rw [if_pos c6] at H
      have c6b0 : decide (a0 ≤ 1114111) = true := decide_eq_true c6
      clear c6
      obtain rfl := Option.some.inj H
      go_wp2
      go_ret
      exact ⟨by first | rfl | (simp; done) | (simp [*]; done), by repeat (first | exact Drawn0.refl _ | apply Drawn0.step)⟩
     ·rw [if_neg c6] at H
      have c6b0 : decide (a0 ≤ 1114111) = false := decide_eq_false c6
      clear c6
      obtain rfl := Option.some.inj H
      go_wp2
      go_ret
      exact ⟨by first | rfl | (simp; done) | (simp [*]; done), by repeat (first | exact Drawn0.refl _ | apply Drawn0.step)⟩
    ·rw [if_neg c5] at H
     have c5b0 : decide (57343 < a0) = false := decide_eq_false c5
     clear c5
     obtain rfl := Option.some.inj H
     go_wp2
     go_ret
     exact ⟨by first | rfl | (simp; done) | (simp [*]; done), by repeat (first | exact Drawn0.refl _ | apply Drawn0.step)⟩

-- NOT PRINTED: function 39 (bytealg_Cutover)

-- NOT PRINTED: function 40 (bytealg_IndexString)

-- NOT PRINTED: function 35 (strings_IndexRune)

-- NOT PRINTED: function 30 (strings_ContainsRune)

end Go.Proofs.YtghpbbdmljobjaaDoor.P
