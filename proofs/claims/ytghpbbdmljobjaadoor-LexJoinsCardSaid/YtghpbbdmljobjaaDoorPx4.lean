-- printed by wip/tools/myprint.py out of the translation. Not trusted: Lean checks it.
import Derived.Test.YtghpbbdmljobjaaDoorPx0
import Derived.Test.YtghpbbdmljobjaaDoorPx1
import Derived.Test.YtghpbbdmljobjaaDoorPx2
import Derived.Test.YtghpbbdmljobjaaDoorPx3
namespace Go.Proofs.YtghpbbdmljobjaaDoor.P
open Go.RowKit Go.Proofs.YtghpbbdmljobjaaDoorW.PrintWords Go.Proofs.YtghpbbdmljobjaaDoorW.PrintLast Go.Proofs.YtghpbbdmljobjaaDoorW.PrintMore
attribute [local go_sem] max2_int min2_int max_two min_two max_three min_three max_four min_four   -- for this text's walks alone
set_option linter.unusedVariables false
set_option linter.unusedSimpArgs false

attribute [local go_sem high] eqA31
/-! ### lex_Line: function 9 -/
def toTok (t : Int × List UInt8 × Int) : S31 := ⟨t.1, ⟨t.2.1.toArray⟩, t.2.2⟩
def lex_Line.f (a0 : ByteArray) : Option (List S31 × Int) := some ((linB a0.data.toList).1.map toTok, (linB a0.data.toList).2)
theorem lineL_step' (f : Nat) (l : List Int) : lineL (f + 1) l = if lineEnd (l.dropWhile isWht) then some [] else (match tokL (l.dropWhile isWht) with | none => none | some (t, r) => (match lineL f r with | none => none | some ts => some (t :: ts))) := rfl
theorem lineL_fuel : ∀ (f1 f2 : Nat) (l : List Int), l.length < f1 → l.length < f2 → lineL f1 l = lineL f2 l
  | 0, _, _, h, _ => absurd h (Nat.not_lt_zero _)
  | _, 0, _, _, h => absurd h (Nat.not_lt_zero _)
  | f1 + 1, f2 + 1, l, h1, h2 => by
    rw [lineL_step', lineL_step']
    split
    · rfl
    · cases ht : tokL (l.dropWhile isWht) with
      | none => rfl
      | some p =>
        obtain ⟨t, r⟩ := p
        have h3 := tokL_len ht
        have h4 := dropWhile_len (p := isWht) l
        simp only
        rw [lineL_fuel f1 f2 r (by omega) (by omega)]
theorem lineL_step (f : Nat) (l : List Int) (h : l.length < f) : lineL f l = if lineEnd (l.dropWhile isWht) then some [] else (match tokL (l.dropWhile isWht) with | none => none | some (t, r) => (lineL f r).map (t :: ·)) := by
  obtain ⟨f, rfl⟩ : ∃ g, f = g + 1 := ⟨f - 1, by omega⟩
  rw [lineL_step']
  split
  · rfl
  · cases ht : tokL (l.dropWhile isWht) with
    | none => rfl
    | some p =>
      obtain ⟨t, r⟩ := p
      have h3 := tokL_len ht
      have h4 := dropWhile_len (p := isWht) l
      simp only
      rw [lineL_fuel f (f + 1) r (by omega) (by omega)]
      cases lineL (f + 1) r <;> rfl
set_option maxHeartbeats 4000000 in
set_option maxRecDepth 100000 in
theorem lex_Line.calls (a0 : ByteArray) (r0 : List S31) (r1 : Int) (w : World) (h : lex_Line.f a0 = some (r0, r1)) (HT : Aside0 (Tabs w)) :
    Calls Tryd.prog 9 #[.string a0] w fun e w' => ∃ v0_ : Value, e = .returned (.tuple #[v0_, .int .i64 r1]) ∧ Kd.R k31 31 w' w.heap.size (fun _ => True) v0_ r0 ∧ Below w.heap.size w w' := by
  have h := Option.some.inj h
  obtain ⟨rfl, rfl⟩ := Prod.mk.inj h
  clear h
  have HB := Aside0.mk (Below.refl w.heap.size w)
  by_cases hlen : 200 < a0.size
  · have c1 : decide (200 < (a0.size : Int)) = true := decide_eq_true (by omega)
    have HN : Aside0 (linB a0.data.toList = ([], 2)) := ⟨by unfold linB; rw [if_pos (by simpa using hlen)]⟩
    clear hlen
    rw [HN.out]
    go_enter Tryd.func9, Tryd.ntmps9
    go_wp2
    go_ret2
    exact ⟨_, rfl, Kd.R_nil _ _ _ _ _, HB.out⟩
  · have c1 : decide (200 < (a0.size : Int)) = false := decide_eq_false (by omega)
    have HLn : Aside0 (a0.size ≤ 200) := ⟨by omega⟩
    by_cases hv : Go.Lib.validD a0.data.toList = true
    · have HF : Aside0 (lex_Runes.f a0 = some (runesL a0.data.toList, 0)) := ⟨by unfold lex_Runes.f; rw [if_pos (by omega), if_pos hv]⟩
      have HN : Aside0 (linB a0.data.toList = (match lineL (a0.size + 1) (runesL a0.data.toList) with | none => ([], 3) | some ts => (ts, 0))) := ⟨by unfold linB; rw [if_neg (by simpa using hlen), if_pos hv]; rfl⟩
      have HRL : Aside0 ((runesL a0.data.toList).length ≤ a0.size) := ⟨by have := runesL_len _ a0.data.toList (Nat.le_refl _); simpa using this⟩
      have HRB := Aside0.mk (runesL_bd _ a0.data.toList (Nat.le_refl _))
      generalize linB a0.data.toList = ans at *
      generalize runesL a0.data.toList = R at *
      clear hv hlen
      go_enter Tryd.func9, Tryd.ntmps9
      go_wp2_with (fail)
      refine (lex_Runes.calls a0 R 0 _ HF.out HT).mono ?_
      rintro e W1 ⟨v0, rfl, hR1, hB1⟩
      obtain ⟨A, cp, rfl, hcp, hC⟩ := Kd.R_reads hR1
      have HC := Aside0.mk hC
      have HB1 := Aside0.mk hB1
      clear hR1 hcp hC hB1 HB
      have HS1 := Aside0.mk HB1.out.size
      go_wp2
      go_loopg [6, 8, 9] (R.length + 1) (fun gk v6 _ _ wr => ∃ (a : Nat) (T : List (Int × List UInt8 × Int)), Aside0 (R.length - a < gk ∧ a ≤ R.length ∧ lineL (a0.size + 1) R = (lineL (a0.size + 1) (R.drop a)).map (T ++ ·) ∧ T.length ≤ a) ∧ Aside0 (IsS54 W1 wr W1.heap.size R a) ∧ Aside0 (Kd.R k31 31 wr W1.heap.size (fun i => i ≠ W1.heap.size) v6 (T.map toTok)) ∧ Aside0 (Below W1.heap.size W1 wr))
      case atStart => exact ⟨0, [], ⟨by omega, Nat.zero_le _, by rw [List.drop_zero]; cases lineL (a0.size + 1) R <;> rfl, Nat.le_refl _⟩, ⟨IsS54.new W1 W1 A cp R 0 (Below.refl _ _) HC.out⟩, ⟨Kd.R_nil _ _ _ _ _⟩, ⟨below_alloc (Below.refl _ _) _⟩⟩
      case round =>
        obtain ⟨a, T, HA, HI, HR, HW⟩ := hrel
        rename World => wr
        go_wp2_with (fail)
        refine (lx_skip W1.heap.size R a W1 wr HI.out HW.out (by have := HRL.out; have := HLn.out; omega) HA.out.2.1).mono ?_
        rintro e W2 ⟨a2, rfl, h1, h2, h3, hI2, hB2, hK2⟩
        have HR2 := Aside0.mk (Kd.R_keep HR.out hK2 (fun _ h => h))
        have HI2 := Aside0.mk hI2
        have HW2 := Aside0.mk hB2
        have HA2 : Aside0 (R.length - a2 < gk ∧ a2 ≤ R.length ∧ lineL (a0.size + 1) R = (if lineEnd (R.drop a2) then some [] else (match tokL (R.drop a2) with | none => none | some (t, r) => (lineL (a0.size + 1) r).map (t :: ·))).map (T ++ ·) ∧ T.length ≤ a2) := ⟨by have := HA.out.1; omega, h2, by rw [HA.out.2.2.1, lineL_step _ _ (by rw [List.length_drop]; have := HRL.out; omega), h3], by have := HA.out.2.2.2; omega⟩
        clear HA HI HR HW h1 h2 h3 hI2 hB2 hK2
        cases hb : lineEnd (R.drop a2)
        · rw [hb] at HA2
          have HLT : Aside0 (a2 < R.length) := ⟨by
            rcases Nat.lt_or_ge a2 R.length with h | h
            · exact h
            · rw [List.drop_eq_nil_of_le h] at hb; cases hb⟩
          clear hb
          go_wp2_with (fail)
          refine (lx_token W1.heap.size R a2 W1 W2 HI2.out HW2.out (by have := HRL.out; have := HLn.out; omega) HLT.out HRB.out).mono ?_
          rintro e W3 ⟨a3, ha3, hI3, hB3, hK3, hans⟩
          have HR3 := Aside0.mk (Kd.R_keep HR2.out hK3 (fun _ h => h))
          have HI3 := Aside0.mk hI3
          have HW3 := Aside0.mk hB3
          have HL3 := Aside0.mk ha3
          have HS3 := Aside0.mk hB3.size
          clear HR2 HI2 HW2 hI3 hB3 hK3 ha3
          cases ht : tokL (R.drop a2) with
          | none =>
            rw [ht] at hans HA2
            obtain ⟨k, s, v, rfl⟩ := hans
            have HE : Aside0 (ans = ([], 3)) := ⟨by rw [HN.out, HA2.out.2.2.1]; rfl⟩
            clear ht HA2
            go_wp2
            go_ret2
            rw [HE.out]
            exact ⟨_, rfl, Kd.R_nil _ _ _ _ _, HB1.out.trans ((HW3.out.trans ((below_alloc (Below.refl _ _) _).mono HS3.out)).mono HS1.out)⟩
          | some pp =>
            obtain ⟨⟨k, s, v⟩, r⟩ := pp
            rw [ht] at hans HA2
            obtain ⟨rfl, hr⟩ := hans
            have hlt := tokL_len ht
            have HA3 : Aside0 (R.length - a3 < R.length - a2 ∧ lineL (a0.size + 1) R = (lineL (a0.size + 1) (R.drop a3)).map ((T ++ [(k, s, v)]) ++ ·) ∧ a2 < a3) := ⟨by
              have hd := congrArg List.length hr
              rw [List.length_drop] at hd hlt
              have := HL3.out
              have := HLT.out
              refine ⟨by omega, ?_, by omega⟩
              rw [HA2.out.2.2.1, hr, if_neg (by decide)]
              show ((lineL (a0.size + 1) r).map ((k, s, v) :: ·)).map (T ++ ·) = _
              generalize lineL (a0.size + 1) r = o
              cases o <;> simp⟩
            have HLN : Aside0 (((T.map toTok).length + 1) * 32 ≤ 140737488355328) := ⟨by have := HA2.out; have := HRL.out; have := HLn.out; simp; omega⟩
            have HM3 : Aside0 (R.length - a2 < gk ∧ T.length + 1 ≤ a3) := ⟨by have := HA2.out; have := HA3.out; omega⟩
            clear ht hr hlt HA2
            obtain ⟨W4, hW4⟩ : ∃ W4, W3.alloc (.cells #[.int .i64 k, .string ⟨s.toArray⟩, .int .u64 v] 31) = W4 := ⟨_, rfl⟩
            have HX4 : Aside0 (Below W3.heap.size W3 W4) := ⟨by rw [← hW4]; exact below_alloc (Below.refl _ _) _⟩
            have HI4 := Aside0.mk (HI3.out.below HX4.out)
            have HR4 := Aside0.mk (Kd.R_below HR3.out HX4.out)
            have HW4 : Aside0 (Below W1.heap.size W1 W4) := ⟨HW3.out.trans (HX4.out.mono HS3.out)⟩
            have HS4 := Aside0.mk HW4.out.size
            have HB4 : Aside0 (W4.heap[W3.heap.size]? = some (.cells #[.int .i64 k, .string ⟨s.toArray⟩, .int .u64 v] 31 (0, 0))) := ⟨by rw [← hW4]; simpa using blk_new W3 _⟩
            have hx0 : W4.cell? ⟨W3.heap.size, 0, none⟩ = some (.int .i64 k) := (blk_cell HB4.out 0).trans rfl
            have hx1 : W4.cell? ⟨W3.heap.size, 1, none⟩ = some (.string ⟨s.toArray⟩) := (blk_cell HB4.out 1).trans rfl
            have hx2 : W4.cell? ⟨W3.heap.size, 2, none⟩ = some (.int .u64 v) := (blk_cell HB4.out 2).trans rfl
            go_wp2_with ((with_reducible refine gate_builtin (b := .append) (xs := #[.tmp 33, .tmp 35]) rfl ?_); at_builtin; refine Kd.R_append k31 (w0 := W1) W1.heap.size rfl (.tmp 33) (.tmp 35) 26 31 (.agg #[.int .i64 0, .string ⟨#[]⟩, .int .u64 0]) 32 rfl Tryd.underlying26 info_tok rfl (by decide) (by omega) u6 (T.map toTok) (toTok (k, s, v)) [.int .i64 k, .string ⟨s.toArray⟩, .int .u64 v] (fun i => i ≠ W1.heap.size) (fun _ => False) rfl rfl ?aP (fun _ hk => hk.elim) (fun k hk => by have := HI4.out.lt; omega) HR4.out HW4.out HS4.out HLN.out ?_; (case aP => exact ⟨_, _, rfl, rfl, ⟨_, _, rfl, rfl, rfl⟩⟩); intro v1 w3 hR5 hB5 hg5 hat5; have R5 := Aside0.mk hR5; have B5 := Aside0.mk hB5; have I5 := Aside0.mk (HI4.out.grown hg5 (fun e => HR4.out.1 _ e.symm rfl)); clear hR5 hB5 hg5 hat5)
            go_roundg (R.length - a2)
            case measure => exact HM3.out.1
            case rel => exact ⟨a3, T ++ [(k, s, v)], ⟨by have := HA3.out; omega, HL3.out, HA3.out.2.1, by have := HM3.out; simp; omega⟩, I5, ⟨by rw [List.map_append]; exact R5.out⟩, B5⟩
        · rw [hb] at HA2
          have HE : Aside0 (ans = (T, 0)) := ⟨by rw [HN.out, HA2.out.2.2.1]; simp⟩
          clear hb HA2
          go_wp2
          go_ret2
          rw [HE.out]
          exact ⟨_, rfl, Kd.R_mono (Kd.R_lower HR2.out HS1.out) (fun _ _ => trivial), HB1.out.trans (HW2.out.mono HS1.out)⟩
    · have HF : Aside0 (lex_Runes.f a0 = some ([], 3)) := ⟨by unfold lex_Runes.f; rw [if_pos (by omega), if_neg hv]⟩
      have HN : Aside0 (linB a0.data.toList = ([], 3)) := ⟨by unfold linB; rw [if_neg (by simpa using hlen), if_neg hv]⟩
      clear hlen hv
      rw [HN.out]
      go_enter Tryd.func9, Tryd.ntmps9
      go_wp2_with (fail)
      refine (lex_Runes.calls a0 [] 3 _ HF.out HT).mono ?_
      rintro e W1 ⟨v0, rfl, hR1, hB1⟩
      have HB1 := Aside0.mk hB1
      clear hR1 hB1 HB
      go_wp2
      go_ret2
      exact ⟨_, rfl, Kd.R_nil _ _ _ _ _, HB1.out⟩

/-! ### cleatref09_Same: function 10 -/
def cleatref09_Same.l0 : Nat → List (S31) → List (S31) → Int → Option (Bool)
 | 0, _, _, _ => none
 | k + 1, x0, x1, x5 => if x5 < (x0.length : Int) then (if 0 ≤ x5 then (if x5 < (x1.length : Int) then (if (!(((rd_T31 x0 x5).f0) == ((rd_T31 x1 x5).f0)) || (!((((rd_T31 x0 x5).f1).toList) == (((rd_T31 x1 x5).f1).toList)) || (!(((rd_T31 x0 x5).f2) == ((rd_T31 x1 x5).f2))))) = true then (some false) else (cleatref09_Same.l0 k x0 x1 (wrap64 (x5 + 1)))) else (none)) else (none)) else (some true)
def cleatref09_Same.f (k : Nat) (l0 : List (S31)) (l1 : List (S31)) : Option (Bool) := if (l0.length : Int) = (l1.length : Int) then (cleatref09_Same.l0 k l0 l1 0) else (some false)
theorem cleatref09_Same.mono_l : ∀ k, (∀ y0 y1 y2, LeO (cleatref09_Same.l0 k y0 y1 y2) (cleatref09_Same.l0 (k + 1) y0 y1 y2))
 | 0 => fun _ _ _ r h => by simp [cleatref09_Same.l0] at h
 | k + 1 => by
  have ih0 := cleatref09_Same.mono_l k
  ·intro y0 y1 y2
   unfold cleatref09_Same.l0
   repeat' first
   | (with_reducible exact ih0 _ _ _)
   | (with_reducible exact LeO.refl _)
   | (with_reducible exact LeO.none _)
   | (with_reducible refine LeO.ite ?_ ?_)
   | (with_reducible refine LeO.bind ?_ (fun _ => ?_))
   | exact ih0 _ _ _
   | exact LeO.none _
   | refine LeO.ite ?_ ?_
   | refine LeO.bind ?_ (fun _ => ?_)
theorem cleatref09_Same.mono : ∀ a0 a1 k, LeO (cleatref09_Same.f k a0 a1) (cleatref09_Same.f (k + 1) a0 a1) := by
 intro a0 a1 k
 have ih0 := cleatref09_Same.mono_l k
 unfold cleatref09_Same.f
 repeat' first
   | (with_reducible exact ih0 _ _ _)
   | (with_reducible exact LeO.refl _)
   | (with_reducible exact LeO.none _)
   | (with_reducible refine LeO.ite ?_ ?_)
   | (with_reducible refine LeO.bind ?_ (fun _ => ?_))
   | exact ih0 _ _ _
   | exact LeO.none _
   | refine LeO.ite ?_ ?_
   | refine LeO.bind ?_ (fun _ => ?_)
set_option maxHeartbeats 8000000 in
set_option maxRecDepth 100000 in
theorem cleatref09_Same.calls (k : Nat) (A0 : Option Addr) (c0 : Nat) (l0 : List (S31)) (A1 : Option Addr) (c1 : Nat) (l1 : List (S31)) (r : Bool) (w : World) (hr0 : Kd.C k31 w A0 l0.length l0) (hc0 : l0.length ≤ c0) (hr1 : Kd.C k31 w A1 l1.length l1) (hc1 : l1.length ≤ c1) (h : cleatref09_Same.f k l0 l1 = some r) :
  Calls Tryd.prog 10 #[.slice A0 l0.length c0, .slice A1 l1.length c1] w fun e w' => e = .returned (.bool r) ∧ Drawn0 w w' := by
 have hu31 := Tryd.underlying31
 have HR0 := Aside0.mk hr0
 have HC0 := Aside0.mk hc0
 clear hr0 hc0
 have HR1 := Aside0.mk hr1
 have HC1 := Aside0.mk hc1
 clear hr1 hc1
 have H : (if (l0.length : Int) = (l1.length : Int) then (cleatref09_Same.l0 k l0 l1 0) else (some false)) = some r := h
 clear h
 by_cases c3 : (l0.length : Int) = (l1.length : Int)
 ·rw [if_pos c3] at H
  have c3b0 : ((l0.length : Int) == (l1.length : Int)) = true := beq_iff_eq.mpr c3
  have c3b1 : ((l0.length : Int) != (l1.length : Int)) = false := bne_eq_false_iff_eq.mpr c3
  have c3b2 : (l0.length == l1.length) = true := by first | simpa using c3 | (simp at c3 ⊢; omega)
  clear c3
  have H' := Aside0.mk H
  clear H
  go_enter Tryd.func10, Tryd.ntmps10
  go_wp2
  repeat (go_quiet (fail); try go_wp2)
  go_loopg [5] k (fun kq v5 w' => ∃ (x5_1 : Int), v5 = .int .i64 x5_1 ∧ Aside0 (cleatref09_Same.l0 kq l0 l1 x5_1 = some r) ∧ Aside0 (kq ≤ k) ∧ Drawn0 w w')
  case atStart => exact ⟨(0), (by first | rfl | (simp; done) | (simp [*]; done)), H', ⟨Nat.le_refl _⟩, by repeat (first | exact Drawn0.refl _ | apply Drawn0.step)⟩
  case round =>
   clear H'
   try clear c1
   try clear p2
   try clear c3
   try clear c3b0
   try clear c3b1
   try clear c3b2
   obtain ⟨x5_1, rfl, HA, HK1, ⟨m1, rfl⟩⟩ := hrel
   cases gk with
   | zero => exact absurd HA.out (by simp [cleatref09_Same.l0])
   | succ k1 =>
    have H := HA.out
    clear HA
    simp only [cleatref09_Same.l0] at H
    by_cases c4 : x5_1 < (l0.length : Int)
    ·rw [if_pos c4] at H
     have c4b0 : decide (x5_1 < (l0.length : Int)) = true := decide_eq_true c4
     clear c4
     by_cases c5 : 0 ≤ x5_1
     ·rw [if_pos c5] at H
      have c5b0 : decide (0 ≤ x5_1) = true := decide_eq_true c5
      clear c5
      by_cases c6 : x5_1 < (l1.length : Int)
      ·rw [if_pos c6] at H
       have c6b0 : decide (x5_1 < (l1.length : Int)) = true := decide_eq_true c6
       clear c6
       by_cases c7 : (!(((rd_T31 l0 x5_1).f0) == ((rd_T31 l1 x5_1).f0)) || (!((((rd_T31 l0 x5_1).f1).toList) == (((rd_T31 l1 x5_1).f1).toList)) || (!(((rd_T31 l0 x5_1).f2) == ((rd_T31 l1 x5_1).f2))))) = true
       ·rw [if_pos c7] at H
        have c7b0 : (!(((rd_T31 l0 x5_1).f0) == ((rd_T31 l1 x5_1).f0)) || (!((((rd_T31 l0 x5_1).f1).toList) == (((rd_T31 l1 x5_1).f1).toList)) || (!(((rd_T31 l0 x5_1).f2) == ((rd_T31 l1 x5_1).f2))))) = true := c7
        clear c7
        obtain rfl := Option.some.inj H
        have p144 : 0 ≤ (x5_1 : Int) := of_decide_eq_true (by first | (with_reducible assumption) | assumption)
        have q144 : x5_1 < (l0.length : Int) := of_decide_eq_true (by first | (with_reducible assumption) | assumption)
        obtain ⟨ad144, e144, hx144_0, hx144_1, hx144_2⟩ := at_T31 HR0.out x5_1 p144 q144
        cases e144
        replace p144 := eq_true p144
        replace q144 := eq_true q144
        have p145 : 0 ≤ (x5_1 : Int) := of_decide_eq_true (by first | (with_reducible assumption) | assumption)
        have q145 : x5_1 < (l1.length : Int) := of_decide_eq_true (by first | (with_reducible assumption) | assumption)
        obtain ⟨ad145, e145, hx145_0, hx145_1, hx145_2⟩ := at_T31 HR1.out x5_1 p145 q145
        cases e145
        replace p145 := eq_true p145
        replace q145 := eq_true q145
        go_wp2
        repeat (go_quiet (fail); try go_wp2)
        go_ret
        exact ⟨by first | rfl | (simp; done) | (simp [*]; done), by repeat (first | exact Drawn0.refl _ | apply Drawn0.step)⟩
       ·rw [if_neg c7] at H
        have c7b0 : (!(((rd_T31 l0 x5_1).f0) == ((rd_T31 l1 x5_1).f0)) || (!((((rd_T31 l0 x5_1).f1).toList) == (((rd_T31 l1 x5_1).f1).toList)) || (!(((rd_T31 l0 x5_1).f2) == ((rd_T31 l1 x5_1).f2))))) = false := by simpa using c7
        clear c7
        have H' := Aside0.mk H
        clear H
        have p144 : 0 ≤ (x5_1 : Int) := of_decide_eq_true (by first | (with_reducible assumption) | assumption)
        have q144 : x5_1 < (l0.length : Int) := of_decide_eq_true (by first | (with_reducible assumption) | assumption)
        obtain ⟨ad144, e144, hx144_0, hx144_1, hx144_2⟩ := at_T31 HR0.out x5_1 p144 q144
        cases e144
        replace p144 := eq_true p144
        replace q144 := eq_true q144
        have p145 : 0 ≤ (x5_1 : Int) := of_decide_eq_true (by first | (with_reducible assumption) | assumption)
        have q145 : x5_1 < (l1.length : Int) := of_decide_eq_true (by first | (with_reducible assumption) | assumption)
        obtain ⟨ad145, e145, hx145_0, hx145_1, hx145_2⟩ := at_T31 HR1.out x5_1 p145 q145
        cases e145
        replace p145 := eq_true p145
        replace q145 := eq_true q145
        go_wp2
        repeat (go_quiet (fail); try go_wp2)
        go_roundg k1
        case measure => have := HK1.out; omega
        case rel => exact ⟨(wrap64 (x5_1 + 1)), (by first | rfl | (simp; done) | (simp [*]; done)), H', ⟨by have := HK1.out; omega⟩, by repeat (first | exact Drawn0.refl _ | apply Drawn0.step)⟩
      ·rw [if_neg c6] at H
       exact absurd H (by simp)
     ·rw [if_neg c5] at H
      exact absurd H (by simp)
    ·rw [if_neg c4] at H
     have c4b0 : decide (x5_1 < (l0.length : Int)) = false := decide_eq_false c4
     clear c4
     obtain rfl := Option.some.inj H
     go_wp2
     repeat (go_quiet (fail); try go_wp2)
     go_ret
     exact ⟨by first | rfl | (simp; done) | (simp [*]; done), by repeat (first | exact Drawn0.refl _ | apply Drawn0.step)⟩
 ·rw [if_neg c3] at H
  have c3b0 : ((l0.length : Int) == (l1.length : Int)) = false := beq_eq_false_iff_ne.mpr c3
  have c3b1 : ((l0.length : Int) != (l1.length : Int)) = true := bne_iff_ne.mpr c3
  have c3b2 : (l0.length == l1.length) = false := by first | simpa using c3 | (simp at c3 ⊢; omega)
  obtain rfl := Option.some.inj H
  go_enter Tryd.func10, Tryd.ntmps10
  go_wp2
  repeat (go_quiet (fail); try go_wp2)
  go_ret
  exact ⟨by first | rfl | (simp; done) | (simp [*]; done), by repeat (first | exact Drawn0.refl _ | apply Drawn0.step)⟩

/-! ### lex_IsWord: function 12 -/
def lex_IsWord.f (a0 : ByteArray) : Option Bool := some (wordB a0.data.toList)
theorem isLD_lo {r : Int} (h : isLD r = true) : r < 128 := by have := isLD_small h; omega
theorem take_next_byteW (s : ByteArray) (k : Nat) (h : k < s.size) : s.data.toList.take (k + 1) = s.data.toList.take k ++ [s[k]'h] := by
  rw [List.take_succ_eq_append_getElem (by simpa using h)]; rfl
theorem hi_let {r : Int} (h : 128 ≤ r) : isLet r = false ∧ isDig r = false := by
  unfold isLet isDig
  simp
  omega
theorem wordB_no {s : ByteArray} {k : Nat} (h : k < s.size) (hd : isLD ((s[k]'h).toNat : Int) = false ∨ (k = 0 ∧ isLet ((s[k]'h).toNat : Int) = false)) : wordB s.data.toList = false := by
  unfold wordB
  rcases hd with hd | ⟨rfl, hd⟩
  · rw [Bool.and_eq_false_iff, Bool.and_eq_false_iff]
    refine Or.inl (Or.inr ?_)
    rw [List.all_eq_false]
    exact ⟨s[k]'h, List.getElem_mem (by simpa using h), by rw [hd]; decide⟩
  · rw [Bool.and_eq_false_iff]
    refine Or.inr ?_
    have : s.data.toList.headD 0 = s[0]'h := by
      rw [List.headD_eq_head?_getD, List.head?_eq_getElem?, List.getElem?_eq_getElem (by simpa using h)]
      rfl
    rw [this]
    exact hd
set_option maxHeartbeats 8000000 in
set_option maxRecDepth 100000 in
theorem lex_IsWord.calls (a0 : ByteArray) (r0 : Bool) (w : World) (h : lex_IsWord.f a0 = some r0) :
    Calls Tryd.prog 12 #[.string a0] w fun e w' => e = .returned (.bool r0) ∧ Below w.heap.size w w' := by
  obtain rfl := Option.some.inj h
  clear h
  by_cases hz : a0.size = 0
  · have c1 : (a0.toList == ([] : List UInt8)) = true := by
      rw [ByteArray.toList_eq, List.eq_nil_of_length_eq_zero (show a0.data.toList.length = 0 by simpa using hz)]; rfl
    have HE : Aside0 (wordB a0.data.toList = false) := ⟨by rw [List.eq_nil_of_length_eq_zero (show a0.data.toList.length = 0 by simpa using hz)]; rfl⟩
    clear hz
    rw [HE.out]
    go_enter Tryd.func12, Tryd.ntmps12
    go_wp2
    go_ret
    exact ⟨rfl, Below.refl _ _⟩
  · have c1 : (a0.toList == ([] : List UInt8)) = false := by
      rw [ByteArray.toList_eq, beq_eq_false_iff_ne]
      intro e
      have := congrArg List.length e
      simp only [List.length_nil, Array.length_toList] at this
      exact hz this
    by_cases h31 : 31 < a0.size
    · have c2 : decide (31 < (a0.size : Int)) = true := decide_eq_true (by omega)
      have HE : Aside0 (wordB a0.data.toList = false) := ⟨by unfold wordB; rw [decide_eq_false (show ¬ a0.data.toList.length ≤ 31 by simp; omega)]; simp⟩
      clear hz h31
      rw [HE.out]
      go_enter Tryd.func12, Tryd.ntmps12
      go_wp2
      go_ret
      exact ⟨rfl, Below.refl _ _⟩
    · have c2 : decide (31 < (a0.size : Int)) = false := decide_eq_false (by omega)
      have HZ : Aside0 (0 < a0.size ∧ a0.size ≤ 31) := ⟨by omega⟩
      clear hz h31
      generalize hans : wordB a0.data.toList = ans
      have HANS := Aside0.mk hans
      clear hans
      go_enter Tryd.func12, Tryd.ntmps12
      go_wp2
      go_loopg [3, 4] (a0.size + 1) (fun gk _ _ wr => ∃ pos : Nat, Aside0 (a0.size - pos < gk ∧ pos ≤ a0.size) ∧ Aside0 (wr.heap[w.heap.size]? = some (.stringIter a0 pos)) ∧ Aside0 (Below w.heap.size w wr) ∧ Aside0 ((a0.data.toList.take pos).all (fun c => isLD c.toNat) = true) ∧ Aside0 (0 < pos → isLet (a0.data.toList.headD 0).toNat = true))
      case atStart => exact ⟨0, ⟨by omega, Nat.zero_le _⟩, ⟨World.iter_heap w a0 0⟩, ⟨below_alloc (Below.refl _ _) _⟩, ⟨by simp⟩, ⟨fun h => absurd h (Nat.lt_irrefl _)⟩⟩
      case round =>
        obtain ⟨pos, HP, HI, HW, HA, HH⟩ := hrel
        rename World => wr
        by_cases hp : pos < a0.size
        · have hnx : ∀ ty, (Instr.next (.pointer (some ⟨w.heap.size, 0, none⟩)) true ty).run Tryd.prog wr = _ := fun ty => Go.Lib.run_next_any_at wr w.heap.size a0 pos ty HI.out hp
          have HI2 := Aside0.mk (Go.Lib.iterAt_heap wr w.heap.size a0 pos (pos + (Utf8.decode a0 pos).2) HI.out)
          have HW2 := Aside0.mk (Go.Lib.below_iterAt HW.out (Nat.le_refl _) a0 (pos + (Utf8.decode a0 pos).2))
          have HG : Aside0 (isLet ((Utf8.decode a0 pos).1 : Int) = isLet ((a0[pos]'hp).toNat : Int) ∧ isDig ((Utf8.decode a0 pos).1 : Int) = isDig ((a0[pos]'hp).toNat : Int) ∧ (isLD ((a0[pos]'hp).toNat : Int) = true → (Utf8.decode a0 pos).2 = 1) ∧ (Utf8.decode a0 pos).1 ≤ 1114111) := ⟨by
            by_cases ha : (a0[pos]'hp).toNat < 128
            · rw [decode_ascii a0 pos hp ha]
              exact ⟨rfl, rfl, fun _ => rfl, by simp only; omega⟩
            · have h2 := (decode_high a0 pos hp (by omega)).1
              have h3 := hi_let (r := ((Utf8.decode a0 pos).1 : Int)) (by omega)
              have h4 := hi_let (r := ((a0[pos]'hp).toNat : Int)) (by omega)
              refine ⟨h3.1.trans h4.1.symm, h3.2.trans h4.2.symm, fun e => ?_, ?_⟩
              · unfold isLD at e
                rw [h4.1, h4.2] at e
                cases e
              · have := Go.Lib.decodeL_rune (a0.data.toList.drop pos)
                rw [Go.Lib.decodeL_drop] at this
                exact this⟩
          have HNO : Aside0 (isLD ((a0[pos]'hp).toNat : Int) = false ∨ (pos = 0 ∧ isLet ((a0[pos]'hp).toNat : Int) = false) → ans = false) := ⟨fun e => HANS.out.symm.trans (wordB_no hp e)⟩
          have HTK := Aside0.mk (take_next_byteW a0 pos hp)
          have HHD : Aside0 (pos = 0 → a0.data.toList.headD 0 = a0[pos]'hp) := ⟨fun e => by
            subst e
            rw [List.headD_eq_head?_getD, List.head?_eq_getElem?, List.getElem?_eq_getElem (by simpa using hp)]
            rfl⟩
          have HPP := Aside0.mk hp
          generalize a0[pos]'hp = by_ at *
          clear HI HW hp
          obtain ⟨c, hc⟩ : ∃ c : Int, ((Utf8.decode a0 pos).1 : Int) = c := ⟨_, rfl⟩
          obtain ⟨z, hz⟩ : ∃ z : Int, (pos : Int) = z := ⟨_, rfl⟩
          have HZP := Aside0.mk hz
          have HC : Aside0 (0 ≤ c ∧ c ≤ 1114111) := ⟨by have := HG.out.2.2.2; omega⟩
          have hwc : IntKind.i64.wrap c = c := (i64_w _).trans (by have := HC.out; simp only [wrap64]; omega)
          rw [hc, hz] at hnx
          rw [hc] at HG
          generalize hq : pos + (Utf8.decode a0 pos).2 = q at *
          have HQ : Aside0 (isLD by_.toNat = true → q = pos + 1) := ⟨fun e => by rw [← hq, HG.out.2.2.1 e]⟩
          clear hq hc hz
          generalize hwx : wr.iterAt w.heap.size a0 q = wx at *
          clear hwx
          have HLT := Aside0.mk (letter_f c)
          have HDG := Aside0.mk (digit_fx c)
          rw [HG.out.1] at HLT
          rw [HG.out.2.1] at HDG
          have HLD : Aside0 (isLD by_.toNat = (isLet by_.toNat || isDig by_.toNat)) := ⟨rfl⟩
          cases hl : isLet (by_.toNat : Int)
          · rw [hl] at HLT HLD HNO
            by_cases h0 : pos = 0
            · have c3 : (z == 0) = true := by rw [beq_iff_eq]; have := HZP.out; omega
              have HE : Aside0 (ans = false) := ⟨HNO.out (Or.inr ⟨h0, rfl⟩)⟩
              clear hl h0
              go_wp2_with (fail)
              refine (lex_letter.calls 3 c false _ HLT.out).mono ?_
              rintro e w' ⟨rfl, ⟨⟨nd, rfl⟩⟩⟩
              go_wp2
              go_ret
              rw [HE.out]
              exact ⟨rfl, pw_below_drewN HW2.out _⟩
            · have c3 : (z == 0) = false := by rw [beq_eq_false_iff_ne]; have := HZP.out; omega
              cases hd : isDig (by_.toNat : Int)
              · rw [hd] at HDG HLD
                have HE : Aside0 (ans = false) := ⟨HNO.out (Or.inl HLD.out)⟩
                clear hl h0 hd
                go_wp2_with (fail)
                refine (lex_letter.calls 3 c false _ HLT.out).mono ?_
                rintro e w' ⟨rfl, ⟨⟨nd, rfl⟩⟩⟩
                go_wp2_with (fail)
                refine (lex_digit.calls c false _ HDG.out).mono ?_
                rintro e w' ⟨rfl, ⟨⟨nd2, rfl⟩⟩⟩
                go_wp2
                go_ret
                rw [HE.out]
                exact ⟨rfl, pw_below_drewN HW2.out _⟩
              · rw [hd] at HDG HLD
                have HH2 := Aside0.mk (HH.out (by omega))
                clear hl h0 hd
                go_wp2_with (fail)
                refine (lex_letter.calls 3 c false _ HLT.out).mono ?_
                rintro e w' ⟨rfl, ⟨⟨nd, rfl⟩⟩⟩
                go_wp2_with (fail)
                refine (lex_digit.calls c true _ HDG.out).mono ?_
                rintro e w' ⟨rfl, ⟨⟨nd2, rfl⟩⟩⟩
                go_wp2
                have hq := HQ.out HLD.out
                subst hq
                go_roundg (a0.size - pos)
                case measure => exact HP.out.1
                case rel => exact ⟨pos + 1, ⟨by have := HPP.out; omega⟩, ⟨HI2.out⟩, ⟨pw_below_drewN HW2.out _⟩, ⟨by rw [HTK.out, List.all_append, HA.out, Bool.true_and, List.all_cons, HLD.out]; rfl⟩, ⟨fun _ => HH2.out⟩⟩
          · rw [hl] at HLT HLD
            have HH2 : Aside0 (isLet (a0.data.toList.headD 0).toNat = true) := ⟨by
              rcases Nat.eq_zero_or_pos pos with h0 | h0
              · rw [HHD.out h0]; exact hl
              · exact HH.out h0⟩
            clear hl
            go_wp2_with (fail)
            refine (lex_letter.calls 3 c true _ HLT.out).mono ?_
            rintro e w' ⟨rfl, ⟨⟨nd, rfl⟩⟩⟩
            go_wp2
            have hq := HQ.out HLD.out
            subst hq
            go_roundg (a0.size - pos)
            case measure => exact HP.out.1
            case rel => exact ⟨pos + 1, ⟨by have := HPP.out; omega⟩, ⟨HI2.out⟩, ⟨pw_below_drewN HW2.out _⟩, ⟨by rw [HTK.out, List.all_append, HA.out, Bool.true_and, List.all_cons, HLD.out]; rfl⟩, ⟨fun _ => HH2.out⟩⟩
        · have hnx : ∀ ty, (Instr.next (.pointer (some ⟨w.heap.size, 0, none⟩)) true ty).run Tryd.prog wr = _ := fun ty => Go.Lib.run_next_end_at wr w.heap.size a0 pos ty HI.out hp
          have HE : Aside0 (ans = true) := ⟨by
            have h1 := HA.out
            rw [List.take_of_length_le (by simp; omega)] at h1
            have h2 := HH.out (by have := HZ.out; have := HP.out; omega)
            rw [← HANS.out]
            unfold wordB
            rw [h1, h2, decide_eq_true (show 0 < a0.data.toList.length by have := HZ.out; simp; omega), decide_eq_true (show a0.data.toList.length ≤ 31 by have := HZ.out; simp; omega)]
            rfl⟩
          clear HI HA HH hp
          go_wp2
          go_ret
          rw [HE.out]
          exact ⟨rfl, HW.out⟩

/-! ### cleatref09_Ints: function 17 -/
def cleatref09_Ints.l0 : Nat → List Int → List Int → Int → Option (Bool)
 | 0, _, _, _ => none
 | k + 1, x0, x1, x5 => if x5 < (x0.length : Int) then (if 0 ≤ x5 then (if x5 < (x1.length : Int) then (if (rd x0 x5) = (rd x1 x5) then (cleatref09_Ints.l0 k x0 x1 (wrap64 (x5 + 1))) else (some false)) else (none)) else (none)) else (some true)
def cleatref09_Ints.f (k : Nat) (l0 : List Int) (l1 : List Int) : Option (Bool) := if (l0.length : Int) = (l1.length : Int) then (cleatref09_Ints.l0 k l0 l1 0) else (some false)
theorem cleatref09_Ints.mono_l : ∀ k, (∀ y0 y1 y2, LeO (cleatref09_Ints.l0 k y0 y1 y2) (cleatref09_Ints.l0 (k + 1) y0 y1 y2))
 | 0 => fun _ _ _ r h => by simp [cleatref09_Ints.l0] at h
 | k + 1 => by
  have ih0 := cleatref09_Ints.mono_l k
  ·intro y0 y1 y2
   unfold cleatref09_Ints.l0
   repeat' first
   | (with_reducible exact ih0 _ _ _)
   | (with_reducible exact LeO.refl _)
   | (with_reducible exact LeO.none _)
   | (with_reducible refine LeO.ite ?_ ?_)
   | (with_reducible refine LeO.bind ?_ (fun _ => ?_))
   | exact ih0 _ _ _
   | exact LeO.none _
   | refine LeO.ite ?_ ?_
   | refine LeO.bind ?_ (fun _ => ?_)
theorem cleatref09_Ints.mono : ∀ a0 a1 k, LeO (cleatref09_Ints.f k a0 a1) (cleatref09_Ints.f (k + 1) a0 a1) := by
 intro a0 a1 k
 have ih0 := cleatref09_Ints.mono_l k
 unfold cleatref09_Ints.f
 repeat' first
   | (with_reducible exact ih0 _ _ _)
   | (with_reducible exact LeO.refl _)
   | (with_reducible exact LeO.none _)
   | (with_reducible refine LeO.ite ?_ ?_)
   | (with_reducible refine LeO.bind ?_ (fun _ => ?_))
   | exact ih0 _ _ _
   | exact LeO.none _
   | refine LeO.ite ?_ ?_
   | refine LeO.bind ?_ (fun _ => ?_)
set_option maxHeartbeats 8000000 in
set_option maxRecDepth 100000 in
theorem cleatref09_Ints.calls (k : Nat) (A0 : Option Addr) (c0 : Nat) (l0 : List Int) (A1 : Option Addr) (c1 : Nat) (l1 : List Int) (r : Bool) (w : World) (hr0 : Kd.C (Kd.int .i64) w A0 l0.length l0) (hc0 : l0.length ≤ c0) (hr1 : Kd.C (Kd.int .i64) w A1 l1.length l1) (hc1 : l1.length ≤ c1) (h : cleatref09_Ints.f k l0 l1 = some r) :
  Calls Tryd.prog 17 #[.slice A0 l0.length c0, .slice A1 l1.length c1] w fun e w' => e = .returned (.bool r) ∧ Drawn0 w w' := by
 have HR0 := Aside0.mk hr0
 have HC0 := Aside0.mk hc0
 clear hr0 hc0
 have HR1 := Aside0.mk hr1
 have HC1 := Aside0.mk hc1
 clear hr1 hc1
 have H : (if (l0.length : Int) = (l1.length : Int) then (cleatref09_Ints.l0 k l0 l1 0) else (some false)) = some r := h
 clear h
 by_cases c3 : (l0.length : Int) = (l1.length : Int)
 ·rw [if_pos c3] at H
  have c3b0 : ((l0.length : Int) == (l1.length : Int)) = true := beq_iff_eq.mpr c3
  have c3b1 : ((l0.length : Int) != (l1.length : Int)) = false := bne_eq_false_iff_eq.mpr c3
  have c3b2 : (l0.length == l1.length) = true := by first | simpa using c3 | (simp at c3 ⊢; omega)
  clear c3
  have H' := Aside0.mk H
  clear H
  go_enter Tryd.func17, Tryd.ntmps17
  go_wp2
  repeat (go_quiet (fail); try go_wp2)
  go_loopg [5] k (fun kq v5 w' => ∃ (x5_1 : Int), v5 = .int .i64 x5_1 ∧ Aside0 (cleatref09_Ints.l0 kq l0 l1 x5_1 = some r) ∧ Aside0 (kq ≤ k) ∧ Drawn0 w w')
  case atStart => exact ⟨(0), (by first | rfl | (simp; done) | (simp [*]; done)), H', ⟨Nat.le_refl _⟩, by repeat (first | exact Drawn0.refl _ | apply Drawn0.step)⟩
  case round =>
   clear H'
   try clear c1
   try clear p2
   try clear c3
   try clear c3b0
   try clear c3b1
   try clear c3b2
   obtain ⟨x5_1, rfl, HA, HK1, ⟨m1, rfl⟩⟩ := hrel
   cases gk with
   | zero => exact absurd HA.out (by simp [cleatref09_Ints.l0])
   | succ k1 =>
    have H := HA.out
    clear HA
    simp only [cleatref09_Ints.l0] at H
    by_cases c4 : x5_1 < (l0.length : Int)
    ·rw [if_pos c4] at H
     have c4b0 : decide (x5_1 < (l0.length : Int)) = true := decide_eq_true c4
     clear c4
     by_cases c5 : 0 ≤ x5_1
     ·rw [if_pos c5] at H
      have c5b0 : decide (0 ≤ x5_1) = true := decide_eq_true c5
      clear c5
      by_cases c6 : x5_1 < (l1.length : Int)
      ·rw [if_pos c6] at H
       have c6b0 : decide (x5_1 < (l1.length : Int)) = true := decide_eq_true c6
       clear c6
       by_cases c7 : (rd l0 x5_1) = (rd l1 x5_1)
       ·rw [if_pos c7] at H
        have c7b0 : ((rd l0 x5_1) == (rd l1 x5_1)) = true := beq_iff_eq.mpr c7
        have c7b1 : ((rd l0 x5_1) != (rd l1 x5_1)) = false := bne_eq_false_iff_eq.mpr c7
        clear c7
        have H' := Aside0.mk H
        clear H
        have p146 : 0 ≤ (x5_1 : Int) := of_decide_eq_true (by first | (with_reducible assumption) | assumption)
        have q146 : x5_1 < (l0.length : Int) := of_decide_eq_true (by first | (with_reducible assumption) | assumption)
        obtain ⟨ad146, e146, hx146_0⟩ := Kd.at_int HR0.out x5_1 p146 q146
        cases e146
        replace p146 := eq_true p146
        replace q146 := eq_true q146
        have p147 : 0 ≤ (x5_1 : Int) := of_decide_eq_true (by first | (with_reducible assumption) | assumption)
        have q147 : x5_1 < (l1.length : Int) := of_decide_eq_true (by first | (with_reducible assumption) | assumption)
        obtain ⟨ad147, e147, hx147_0⟩ := Kd.at_int HR1.out x5_1 p147 q147
        cases e147
        replace p147 := eq_true p147
        replace q147 := eq_true q147
        go_wp2
        repeat (go_quiet (fail); try go_wp2)
        go_roundg k1
        case measure => have := HK1.out; omega
        case rel => exact ⟨(wrap64 (x5_1 + 1)), (by first | rfl | (simp; done) | (simp [*]; done)), H', ⟨by have := HK1.out; omega⟩, by repeat (first | exact Drawn0.refl _ | apply Drawn0.step)⟩
       ·rw [if_neg c7] at H
        have c7b0 : ((rd l0 x5_1) == (rd l1 x5_1)) = false := beq_eq_false_iff_ne.mpr c7
        have c7b1 : ((rd l0 x5_1) != (rd l1 x5_1)) = true := bne_iff_ne.mpr c7
        obtain rfl := Option.some.inj H
        have p146 : 0 ≤ (x5_1 : Int) := of_decide_eq_true (by first | (with_reducible assumption) | assumption)
        have q146 : x5_1 < (l0.length : Int) := of_decide_eq_true (by first | (with_reducible assumption) | assumption)
        obtain ⟨ad146, e146, hx146_0⟩ := Kd.at_int HR0.out x5_1 p146 q146
        cases e146
        replace p146 := eq_true p146
        replace q146 := eq_true q146
        have p147 : 0 ≤ (x5_1 : Int) := of_decide_eq_true (by first | (with_reducible assumption) | assumption)
        have q147 : x5_1 < (l1.length : Int) := of_decide_eq_true (by first | (with_reducible assumption) | assumption)
        obtain ⟨ad147, e147, hx147_0⟩ := Kd.at_int HR1.out x5_1 p147 q147
        cases e147
        replace p147 := eq_true p147
        replace q147 := eq_true q147
        go_wp2
        repeat (go_quiet (fail); try go_wp2)
        go_ret
        exact ⟨by first | rfl | (simp; done) | (simp [*]; done), by repeat (first | exact Drawn0.refl _ | apply Drawn0.step)⟩
      ·rw [if_neg c6] at H
       exact absurd H (by simp)
     ·rw [if_neg c5] at H
      exact absurd H (by simp)
    ·rw [if_neg c4] at H
     have c4b0 : decide (x5_1 < (l0.length : Int)) = false := decide_eq_false c4
     clear c4
     obtain rfl := Option.some.inj H
     go_wp2
     repeat (go_quiet (fail); try go_wp2)
     go_ret
     exact ⟨by first | rfl | (simp; done) | (simp [*]; done), by repeat (first | exact Drawn0.refl _ | apply Drawn0.step)⟩
 ·rw [if_neg c3] at H
  have c3b0 : ((l0.length : Int) == (l1.length : Int)) = false := beq_eq_false_iff_ne.mpr c3
  have c3b1 : ((l0.length : Int) != (l1.length : Int)) = true := bne_iff_ne.mpr c3
  have c3b2 : (l0.length == l1.length) = false := by first | simpa using c3 | (simp at c3 ⊢; omega)
  obtain rfl := Option.some.inj H
  go_enter Tryd.func17, Tryd.ntmps17
  go_wp2
  repeat (go_quiet (fail); try go_wp2)
  go_ret
  exact ⟨by first | rfl | (simp; done) | (simp [*]; done), by repeat (first | exact Drawn0.refl _ | apply Drawn0.step)⟩

/-! ### cleatlaw09_read: function 8 -/
def cleatlaw09_read.f : Option Bool := some true
theorem C_of_blk {α : Type} (d : Kd α) {W : World} {b : Nat} {t : TypeId} {ps : List α} {cs : Array Value} (hb : W.heap[b]? = some (.cells cs t (0, 0))) (hr : Reps (d.K W) d.sz ps cs.toList) (hl : ps.length ≤ 9223372036854775807) : Kd.C d W (some ⟨b, 0, none⟩) ps.length ps := by
  refine ⟨rfl, hl, fun _ => ⟨_, rfl, fun j p hj => ⟨_, ?_, hr.2 j p hj, fun i u hu => ?_⟩⟩⟩
  · have h1 := hr.1
    have h2 : j < ps.length := (List.getElem?_eq_some_iff.1 hj).1
    have h3 : j * d.sz + d.sz ≤ ps.length * d.sz := by rw [← Nat.succ_mul]; exact Nat.mul_le_mul_right _ h2
    rw [List.length_take, List.length_drop]
    omega
  · have hi : i < d.sz := by have := (List.getElem?_eq_some_iff.1 hu).1; rw [List.length_take] at this; omega
    rw [List.getElem?_take, if_pos hi, List.getElem?_drop] at hu
    have := blk_cell hb (j * d.sz + i)
    have e : ∀ n, (⟨b, 0, none⟩ : Addr).add n = ⟨b, n, none⟩ := fun n => by
      by_cases h0 : n = 0
      · subst h0; rfl
      · simp [Addr.add, h0]
    rw [e, this, ← Array.getElem?_toList]
    exact hu
def rdA : List S31 := [⟨1, ⟨#[97, 100, 100]⟩, 0⟩, ⟨1, ⟨#[120, 49]⟩, 0⟩, ⟨4, ⟨#[44]⟩, 0⟩, ⟨4, ⟨#[35]⟩, 0⟩, ⟨5, ⟨#[]⟩, 97⟩]
def rdB : List S31 := [⟨2, ⟨#[49, 102]⟩, 0⟩, ⟨3, ⟨#[97, 10]⟩, 0⟩]
theorem rd1 : lex_Line.f (⟨#[97, 100, 100, 32, 120, 49, 44, 32, 35, 39, 97, 39, 32, 47, 47, 32, 98]⟩ : ByteArray) = some (rdA, 0) := by kernel_rfl
theorem rd2 : lex_Line.f (⟨#[49, 102, 32, 34, 97, 92, 110, 34]⟩ : ByteArray) = some (rdB, 0) := by kernel_rfl
theorem rd3 : lex_Line.f (⟨#[97, 32, 59, 32, 98]⟩ : ByteArray) = some ([], 3) := by kernel_rfl
theorem rd4 : lex_Line.f (⟨#[34, 97]⟩ : ByteArray) = some ([], 3) := by kernel_rfl
theorem rd5 : lex_Quote.f (⟨#[97, 10]⟩ : ByteArray) = some (⟨#[34, 97, 92, 110, 34]⟩, 0) := by kernel_rfl
theorem rd6 : lex_Runes.f (⟨#[97, 195, 164]⟩ : ByteArray) = some ([97, 228], 0) := by kernel_rfl
theorem rd7 : lex_Runes.f (⟨#[255]⟩ : ByteArray) = some ([], 3) := by kernel_rfl
theorem rd8 : cleatref09_Same.f 9 rdA rdA = some true := by kernel_rfl
theorem rd9 : cleatref09_Same.f 9 rdB rdB = some true := by kernel_rfl
theorem rd10 : cleatref09_Ints.f 9 [97, 228] [97, 228] = some true := by kernel_rfl
theorem rd11 : lex_IsWord.f (⟨#[98, 46, 101, 113]⟩ : ByteArray) = some true := by kernel_rfl
theorem rd12 : lex_IsWord.f (⟨#[49, 102]⟩ : ByteArray) = some false := by kernel_rfl
theorem rdA_K (W : World) : Reps (k31.K W) 3 rdA [.int .i64 1, .string ⟨#[97, 100, 100]⟩, .int .u64 0, .int .i64 1, .string ⟨#[120, 49]⟩, .int .u64 0, .int .i64 4, .string ⟨#[44]⟩, .int .u64 0, .int .i64 4, .string ⟨#[35]⟩, .int .u64 0, .int .i64 5, .string ⟨#[]⟩, .int .u64 97] :=
  Reps.c3 ⟨_, _, rfl, rfl, ⟨_, _, rfl, rfl, rfl⟩⟩ (Reps.c3 ⟨_, _, rfl, rfl, ⟨_, _, rfl, rfl, rfl⟩⟩ (Reps.c3 ⟨_, _, rfl, rfl, ⟨_, _, rfl, rfl, rfl⟩⟩ (Reps.c3 ⟨_, _, rfl, rfl, ⟨_, _, rfl, rfl, rfl⟩⟩ (Reps.c3 ⟨_, _, rfl, rfl, ⟨_, _, rfl, rfl, rfl⟩⟩ (Reps.none _ _)))))
theorem rdB_K (W : World) : Reps (k31.K W) 3 rdB [.int .i64 2, .string ⟨#[49, 102]⟩, .int .u64 0, .int .i64 3, .string ⟨#[97, 10]⟩, .int .u64 0] :=
  Reps.c3 ⟨_, _, rfl, rfl, ⟨_, _, rfl, rfl, rfl⟩⟩ (Reps.c3 ⟨_, _, rfl, rfl, ⟨_, _, rfl, rfl, rfl⟩⟩ (Reps.none _ _))
set_option maxHeartbeats 8000000 in
set_option maxRecDepth 100000 in
theorem cleatlaw09_read.calls (r : Bool) (w : World) (h : cleatlaw09_read.f = some r) (HT : Aside0 (Tabs w)) :
    Calls Tryd.prog 8 #[] w fun e w' => e = .returned (.bool r) ∧ Below w.heap.size w w' := by
  obtain rfl := Option.some.inj h
  clear h
  go_enter Tryd.func8, Tryd.ntmps8
  go_wp2_with (fail)
  refine (lex_Line.calls (⟨#[97, 100, 100, 32, 120, 49, 44, 32, 35, 39, 97, 39, 32, 47, 47, 32, 98]⟩ : ByteArray) rdA 0 _ rd1 HT).mono ?_
  rintro e W1 ⟨v, rfl, hR, hB⟩
  obtain ⟨A1, c1, rfl, hc1, hC1⟩ := Kd.R_reads hR
  have HC1 := Aside0.mk hC1
  have Hc1 := Aside0.mk hc1
  have HB1 := Aside0.mk hB
  clear hR hB hC1 hc1
  go_wp2_with (fail)
  refine (lex_Line.calls (⟨#[49, 102, 32, 34, 97, 92, 110, 34]⟩ : ByteArray) rdB 0 _ rd2 (tabs_of HT HB1.out)).mono ?_
  rintro e W2 ⟨v, rfl, hR, hB⟩
  obtain ⟨A2, c2, rfl, hc2, hC2⟩ := Kd.R_reads hR
  have HC2 := Aside0.mk hC2
  have Hc2 := Aside0.mk hc2
  have HC1b := Aside0.mk (Kd.C_below HC1.out hB)
  have HB2 := Aside0.mk (HB1.out.trans (hB.mono HB1.out.size))
  clear hR hB hC2 hc2 HC1 HB1
  go_wp2_with (fail)
  refine (lex_Line.calls (⟨#[97, 32, 59, 32, 98]⟩ : ByteArray) [] 3 _ rd3 (tabs_of HT HB2.out)).mono ?_
  rintro e W3 ⟨v3, rfl, hR, hB⟩
  have HC1 := Aside0.mk (Kd.C_below HC1b.out hB)
  have HC2b := Aside0.mk (Kd.C_below HC2.out hB)
  have HB3 := Aside0.mk (HB2.out.trans (hB.mono HB2.out.size))
  clear hR hB HC1b HC2 HB2
  go_wp2_with (fail)
  refine (lex_Line.calls (⟨#[34, 97]⟩ : ByteArray) [] 3 _ rd4 (tabs_of HT HB3.out)).mono ?_
  rintro e W4 ⟨v4, rfl, hR, hB⟩
  have HC1b := Aside0.mk (Kd.C_below HC1.out hB)
  have HC2 := Aside0.mk (Kd.C_below HC2b.out hB)
  have HB4 := Aside0.mk (HB3.out.trans (hB.mono HB3.out.size))
  clear hR hB HC1 HC2b HB3
  go_wp2_with (fail)
  refine (lex_Quote.calls (⟨#[97, 10]⟩ : ByteArray) ⟨#[34, 97, 92, 110, 34]⟩ 0 _ rd5 (tabs_of HT HB4.out)).mono ?_
  rintro e W5 ⟨rfl, hB⟩
  have HC1 := Aside0.mk (Kd.C_below HC1b.out hB)
  have HC2b := Aside0.mk (Kd.C_below HC2.out hB)
  have HB5 := Aside0.mk (HB4.out.trans (hB.mono HB4.out.size))
  clear hB HC1b HC2 HB4
  go_wp2_with (fail)
  refine (lex_Runes.calls (⟨#[97, 195, 164]⟩ : ByteArray) [97, 228] 0 _ rd6 (tabs_of HT HB5.out)).mono ?_
  rintro e W6 ⟨v, rfl, hR, hB⟩
  obtain ⟨A3, c3, rfl, hc3, hC3⟩ := Kd.R_reads hR
  have HC3 := Aside0.mk hC3
  have Hc3 := Aside0.mk hc3
  have HC1b := Aside0.mk (Kd.C_below HC1.out hB)
  have HC2 := Aside0.mk (Kd.C_below HC2b.out hB)
  have HB6 := Aside0.mk (HB5.out.trans (hB.mono HB5.out.size))
  clear hR hB hC3 hc3 HC1 HC2b HB5
  go_wp2_with (fail)
  refine (lex_Runes.calls (⟨#[255]⟩ : ByteArray) [] 3 _ rd7 (tabs_of HT HB6.out)).mono ?_
  rintro e W7 ⟨v7, rfl, hR, hB⟩
  have HC1 := Aside0.mk (Kd.C_below HC1b.out hB)
  have HC2b := Aside0.mk (Kd.C_below HC2.out hB)
  have HC3b := Aside0.mk (Kd.C_below HC3.out hB)
  have HB7 := Aside0.mk (HB6.out.trans (hB.mono HB6.out.size))
  clear hR hB HC1b HC2 HC3 HB6
  have hz31 := Tryd.zeroValue31
  go_wp2_with (fail)
  refine (cleatref09_Same.calls 9 _ _ rdA _ _ rdA true _ (Kd.C_below HC1.out (below_alloc (Below.refl _ _) _)) Hc1.out (C_of_blk k31 (blk_new _ _) (rdA_K _) (by decide)) (by decide) rd8).mono ?_
  rintro e W8 ⟨rfl, ⟨⟨nd, rfl⟩⟩⟩
  have HB8 : Aside0 (Below w.heap.size w ((W7.alloc (.cells #[.int .i64 1, .string ⟨#[97, 100, 100]⟩, .int .u64 0, .int .i64 1, .string ⟨#[120, 49]⟩, .int .u64 0, .int .i64 4, .string ⟨#[44]⟩, .int .u64 0, .int .i64 4, .string ⟨#[35]⟩, .int .u64 0, .int .i64 5, .string ⟨#[]⟩, .int .u64 97] 31)).drewN nd)) := ⟨pw_below_drewN (below_alloc HB7.out _) _⟩
  have HC2 : Aside0 (Kd.C k31 ((W7.alloc (.cells #[.int .i64 1, .string ⟨#[97, 100, 100]⟩, .int .u64 0, .int .i64 1, .string ⟨#[120, 49]⟩, .int .u64 0, .int .i64 4, .string ⟨#[44]⟩, .int .u64 0, .int .i64 4, .string ⟨#[35]⟩, .int .u64 0, .int .i64 5, .string ⟨#[]⟩, .int .u64 97] 31)).drewN nd) A2 rdB.length rdB) := ⟨Kd.C_below HC2b.out (pw_below_drewN (below_alloc (Below.refl _ _) _) _)⟩
  have HC3 : Aside0 (Kd.C (Kd.int .i64) ((W7.alloc (.cells #[.int .i64 1, .string ⟨#[97, 100, 100]⟩, .int .u64 0, .int .i64 1, .string ⟨#[120, 49]⟩, .int .u64 0, .int .i64 4, .string ⟨#[44]⟩, .int .u64 0, .int .i64 4, .string ⟨#[35]⟩, .int .u64 0, .int .i64 5, .string ⟨#[]⟩, .int .u64 97] 31)).drewN nd) A3 ([97, 228] : List Int).length [97, 228]) := ⟨Kd.C_below HC3b.out (pw_below_drewN (below_alloc (Below.refl _ _) _) _)⟩
  generalize (W7.alloc (.cells #[.int .i64 1, .string ⟨#[97, 100, 100]⟩, .int .u64 0, .int .i64 1, .string ⟨#[120, 49]⟩, .int .u64 0, .int .i64 4, .string ⟨#[44]⟩, .int .u64 0, .int .i64 4, .string ⟨#[35]⟩, .int .u64 0, .int .i64 5, .string ⟨#[]⟩, .int .u64 97] 31)).drewN nd = W8 at *
  clear HC1 HC2b HC3b HB7
  go_wp2_with (fail)
  refine (cleatref09_Same.calls 9 _ _ rdB _ _ rdB true _ (Kd.C_below HC2.out (below_alloc (Below.refl _ _) _)) Hc2.out (C_of_blk k31 (blk_new _ _) (rdB_K _) (by decide)) (by decide) rd9).mono ?_
  rintro e W9 ⟨rfl, ⟨⟨nd2, rfl⟩⟩⟩
  go_wp2_with (fail)
  refine (cleatref09_Ints.calls 9 _ _ [97, 228] _ _ [97, 228] true _ (Kd.C_below HC3.out (below_alloc (pw_below_drewN (below_alloc (Below.refl _ _) _) _) _)) Hc3.out (C_of_blk (Kd.int .i64) (cs := #[.int .i64 97, .int .i64 228]) (t := 3) (by simpa using blk_new ((W8.alloc _).drewN nd2) _) (Reps.one rfl (Reps.one rfl (Reps.none _ _))) (by decide)) (by decide) rd10).mono ?_
  rintro e W10 ⟨rfl, ⟨⟨nd3, rfl⟩⟩⟩
  have HB10 : Aside0 (∀ o1 o2, Below w.heap.size w ((((W8.alloc o1).drewN nd2).alloc o2).drewN nd3)) := ⟨fun _ _ => pw_below_drewN (below_alloc (pw_below_drewN (below_alloc HB8.out _) _) _) _⟩
  go_wp2_with (fail)
  refine (lex_IsWord.calls (⟨#[98, 46, 101, 113]⟩ : ByteArray) true _ rd11).mono ?_
  rintro e W11 ⟨rfl, hB11⟩
  have HB11 : Aside0 (Below w.heap.size w W11) := ⟨(HB10.out _ _).trans (hB11.mono (HB10.out _ _).size)⟩
  clear hB11
  go_wp2_with (fail)
  refine (lex_IsWord.calls (⟨#[49, 102]⟩ : ByteArray) false _ rd12).mono ?_
  rintro e W12 ⟨rfl, hB12⟩
  have HB12 : Aside0 (Below w.heap.size w W12) := ⟨HB11.out.trans (hB12.mono HB11.out.size)⟩
  clear hB12
  go_wp2
  go_ret
  exact ⟨rfl, HB12.out⟩

-- NOT PRINTED: function 3 (cleatlaw09_LexBack)

-- NOT PRINTED: function 4 (cleatlaw09_LexJoins)

end Go.Proofs.YtghpbbdmljobjaaDoor.P
