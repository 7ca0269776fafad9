-- printed by wip/tools/myprint.py out of the translation. Not trusted: Lean checks it.
import Derived.Test.YtpndeninbokjoaaDoorPx0
import Derived.Test.YtpndeninbokjoaaDoorPx2
import Derived.Test.YtpndeninbokjoaaDoorPx4
namespace Go.Proofs.YtpndeninbokjoaaDoor.P
open Go.RowKit Go.Proofs.YtpndeninbokjoaaDoorW.PrintWords Go.Proofs.YtpndeninbokjoaaDoorW.PrintLast Go.Proofs.YtpndeninbokjoaaDoorW.PrintMore
attribute [local go_sem] max2_int min2_int max_two min_two max_three min_three max_four min_four   -- for this text's walks alone
set_option linter.unusedVariables false
set_option linter.unusedSimpArgs false

/-! ### lex_reader_token: function 45 -/
/-! ### the reader -/
theorem q_of {P : Program} {f : FuncId} {args : Array Value} {w : World} {n : Nat} {v : Value} (h : Calls P f args (w.drewN n) fun e w' => e = .returned v ∧ Drawn0 (w.drewN n) w') : Calls P f args (w.drewN n) fun e w'' => e = .returned v ∧ ∃ m, w'' = w.drewN m :=
  h.mono fun _ _ ⟨he, ⟨⟨m, hm⟩⟩⟩ => ⟨he, n + m, by rw [hm, World.drewN_drewN]⟩
theorem q_add {P : Program} {f : FuncId} {args : Array Value} {w : World} {a n : Nat} {v : Value} (h : Calls P f args (w.drewN (a + n)) fun e w' => e = .returned v ∧ Drawn0 (w.drewN (a + n)) w') : Calls P f args (w.drewN (a + n)) fun e w'' => e = .returned v ∧ ∃ m, w'' = w.drewN (a + m) :=
  h.mono fun _ _ ⟨he, ⟨⟨m, hm⟩⟩⟩ => ⟨he, n + m, by rw [hm, World.drewN_drewN, Nat.add_assoc]⟩
theorem white_f (r : Int) : lex_white.f r = some (isWht r) := by
  unfold lex_white.f isWht
  by_cases h1 : r = 32
  · rw [if_pos h1, h1]; rfl
  · rw [if_neg h1, beq_eq_false_iff_ne.2 h1]
    by_cases h2 : r = 9
    · rw [if_pos h2, h2]; rfl
    · rw [if_neg h2, beq_eq_false_iff_ne.2 h2]; rfl
theorem digit_fx (r : Int) : lex_digit.f r = some (isDig r) := by
  unfold lex_digit.f isDig
  by_cases h1 : r ≥ 48
  · rw [if_pos h1, decide_eq_true (show 48 ≤ r from h1), Bool.true_and]
  · rw [if_neg h1, decide_eq_false (show ¬ 48 ≤ r from h1), Bool.false_and]
theorem letter_f (r : Int) : lex_letter.f 3 r = some (isLet r) := by
  have tail : ∀ x : Bool, lex_letter.j0 3 r x = some (x || (decide (65 ≤ r) && decide (r ≤ 90)) || r == 95 || r == 46 || r == 36) := by
    intro x
    simp only [lex_letter.j0]
    cases x
    · rw [if_neg (by decide), Bool.false_or]
      by_cases h2 : r = 95
      · subst h2; rfl
      · by_cases h3 : r = 46
        · subst h3; rfl
        · rw [if_neg h2, if_neg h3, beq_eq_false_iff_ne.2 h2, beq_eq_false_iff_ne.2 h3]
          by_cases h4 : r ≥ 65
          · rw [if_pos h4, decide_eq_true (show 65 ≤ r from h4)]
            by_cases h5 : r ≤ 90
            · rw [if_pos h5, decide_eq_true h5]; rfl
            · rw [if_neg h5, decide_eq_false h5]; rfl
          · rw [if_neg h4, decide_eq_false (show ¬ 65 ≤ r from h4)]; rfl
    · rw [if_pos rfl]; rfl
  unfold lex_letter.f
  unfold isLet
  by_cases h1 : r ≥ 97
  · rw [if_pos h1, tail, decide_eq_true (show 97 ≤ r from h1), Bool.true_and]
  · rw [if_neg h1, tail, decide_eq_false (show ¬ 97 ≤ r from h1), Bool.false_and]
theorem rd_drop (R : List Int) (a j : Nat) (h : a + j < R.length) : (R.drop a)[j]? = some (rd R ((a + j : Nat) : Int)) := by
  rw [List.getElem?_drop, List.getElem?_eq_getElem h]
  show _ = some (R.getD (a + j) 0)
  rw [List.getD_eq_getElem?_getD, List.getElem?_eq_getElem h]
  rfl
set_option maxHeartbeats 4000000 in
set_option maxRecDepth 100000 in
theorem lx_is (g : Nat) (R : List Int) (a j : Nat) (v : Int) (b : Bool) (w0 w : World) (hI : IsS85 w0 w g R a) (hB : Below w0.heap.size w0 w) (hR : R.length ≤ 1000) (ha : a ≤ 1000) (hj : j ≤ 1) (hb : ((R.drop a)[j]? == some v) = b) :
    Calls Tryd.prog 51 #[.pointer (some ⟨g, 0, none⟩), .int .i64 (j : Int), .int .i64 v] w fun e w' => e = .returned (.bool b) ∧ Drawn0 w w' := by
  obtain ⟨A0, c0, HG, hg, HS⟩ := hI
  have hc0 := cellS85_0 HG
  have hc1 := cellS85_1 HG
  clear HG hg
  have HB := Aside0.mk hB
  clear hB
  obtain ⟨z, hz⟩ : ∃ z : Int, ((a + j : Nat) : Int) = z := ⟨_, rfl⟩
  have hw : IntKind.i64.wrap ((a : Int) + (j : Int)) = z := (i64_w _).trans (by rw [← hz]; simp only [wrap64]; omega)
  by_cases hlt : a + j < R.length
  · have c1 : decide (z < (R.length : Int)) = true := decide_eq_true (by omega)
    have p : (0 : Int) ≤ z := by omega
    have q : z < (R.length : Int) := by omega
    obtain ⟨ad, e, hx⟩ := Kd.at_int HS z p q
    cases e
    replace hx := pw_cell_below HB.out hx
    have HV : Aside0 (b = (rd R z == v)) := ⟨by rw [← hb, rd_drop R a j (by omega), hz]; rfl⟩
    replace p := eq_true p
    replace q := eq_true q
    clear HB HS hz hlt ha hj hR hb
    go_enter Tryd.func51, Tryd.ntmps51
    go_wp2
    repeat (go_quiet (fail); try go_wp2)
    go_ret
    exact ⟨by rw [HV.out]; rfl, by repeat (first | exact Drawn0.refl _ | apply Drawn0.step)⟩
  · have c1 : decide (z < (R.length : Int)) = false := decide_eq_false (by omega)
    have HV : Aside0 (b = false) := ⟨by rw [← hb, List.getElem?_drop, List.getElem?_eq_none (by omega)]; rfl⟩
    clear HB HS hz hlt ha hj hR hb
    go_enter Tryd.func51, Tryd.ntmps51
    go_wp2
    repeat (go_quiet (fail); try go_wp2)
    go_ret
    exact ⟨by rw [HV.out]; rfl, by repeat (first | exact Drawn0.refl _ | apply Drawn0.step)⟩
theorem lx_is0 (g : Nat) (R : List Int) (a : Nat) (v : Int) (b : Bool) (w0 w : World) (hI : IsS85 w0 w g R a) (hB : Below w0.heap.size w0 w) (hR : R.length ≤ 1000) (ha : a ≤ 1000) (hb : ((R.drop a)[0]? == some v) = b) :
    Calls Tryd.prog 51 #[.pointer (some ⟨g, 0, none⟩), .int .i64 0, .int .i64 v] w fun e w' => e = .returned (.bool b) ∧ Drawn0 w w' := lx_is g R a 0 v b w0 w hI hB hR ha (by omega) hb
theorem lx_is1 (g : Nat) (R : List Int) (a : Nat) (v : Int) (b : Bool) (w0 w : World) (hI : IsS85 w0 w g R a) (hB : Below w0.heap.size w0 w) (hR : R.length ≤ 1000) (ha : a ≤ 1000) (hb : ((R.drop a)[1]? == some v) = b) :
    Calls Tryd.prog 51 #[.pointer (some ⟨g, 0, none⟩), .int .i64 1, .int .i64 v] w fun e w' => e = .returned (.bool b) ∧ Drawn0 w w' := lx_is g R a 1 v b w0 w hI hB hR ha (by omega) hb
set_option maxHeartbeats 4000000 in
set_option maxRecDepth 100000 in
theorem lx_skip (g : Nat) (R : List Int) (a : Nat) (w0 w : World) (hI : IsS85 w0 w g R a) (hB : Below w0.heap.size w0 w) (hR : R.length ≤ 1000) (ha : a ≤ R.length) :
    Calls Tryd.prog 44 #[.pointer (some ⟨g, 0, none⟩)] w fun e w' => ∃ a' : Nat, e = .returned (.bool (!lineEnd (R.drop a'))) ∧ a ≤ a' ∧ a' ≤ R.length ∧ R.drop a' = (R.drop a).dropWhile isWht ∧ IsS85 w0 w' g R a' ∧ Below w0.heap.size w0 w' ∧ KeepBut w w' g none := by
  have HI := Aside0.mk hI
  have HB := Aside0.mk hB
  have HR := Aside0.mk hR
  clear hI hB hR
  go_enter Tryd.func44, Tryd.ntmps44
  go_wp2
  go_loopg [] (R.length - a) (fun kq w' => ∃ a1 : Nat, Aside0 (R.length - a1 = kq ∧ a ≤ a1 ∧ a1 ≤ R.length ∧ (R.drop a1).dropWhile isWht = (R.drop a).dropWhile isWht) ∧ Aside0 (IsS85 w0 w' g R a1) ∧ Aside0 (Below w0.heap.size w0 w') ∧ Aside0 (KeepBut w w' g none))
  case atStart => exact ⟨a, ⟨rfl, Nat.le_refl _, ha, rfl⟩, HI, HB, ⟨KeepBut.refl _ _ _⟩⟩
  case round =>
    clear HI HB ha
    obtain ⟨a1, HA, HI, HB, HK⟩ := hrel
    rename World => W
    obtain ⟨A0, c0, HG, hg, HS⟩ := HI.out
    have hc0 := cellS85_0 HG
    have hc1 := cellS85_1 HG
    have hfz := blk_frozen HG 1
    clear HG hg
    obtain ⟨z, hz⟩ : ∃ z : Int, (a1 : Int) = z := ⟨_, rfl⟩
    rw [hz] at hc1
    obtain ⟨h1, h2, h3, h4⟩ := HA.out
    have hR := HR.out
    have HF : Aside0 (∀ (n m : Nat) (b : Bool), (!lineEnd (R.drop a1)) = b → R.drop a1 = (R.drop a).dropWhile isWht → ∃ a' : Nat, Ending.returned (.bool b) = .returned (.bool (!lineEnd (R.drop a'))) ∧ a ≤ a' ∧ a' ≤ R.length ∧ R.drop a' = (R.drop a).dropWhile isWht ∧ IsS85 w0 ((W.drewN n).drewN m) g R a' ∧ Below w0.heap.size w0 ((W.drewN n).drewN m) ∧ KeepBut w ((W.drewN n).drewN m) g none) :=
      ⟨fun n m b hb hd => ⟨a1, by rw [hb], h2, h3, hd, (HI.out.drewN n).drewN m, pw_below_drewN (pw_below_drewN HB.out n) m, keep_drewN (keep_drewN HK.out n) m⟩⟩
    by_cases hlt : a1 < R.length
    · have hd := drop_at R a1 hlt
      have c1 : decide (z < (R.length : Int)) = true := decide_eq_true (by omega)
      have p : (0 : Int) ≤ z := by omega
      have q : z < (R.length : Int) := by omega
      obtain ⟨ad, e, hx⟩ := Kd.at_int HS z p q
      cases e
      replace hx := pw_cell_below HB.out hx
      replace p := eq_true p
      replace q := eq_true q
      rw [hz] at hd
      generalize hv : rd R z = v at *
      cases hw : isWht v
      · have HD : Aside0 (R.drop a1 = (R.drop a).dropWhile isWht) := ⟨by rw [← h4, hd, List.dropWhile_cons, hw]; rfl⟩
        have HW := Aside0.mk (white_f v)
        rw [hw] at HW
        cases hb0 : ((R.drop a1)[0]? == some 47)
        · have HE : Aside0 ((!lineEnd (R.drop a1)) = true) := ⟨by rw [hd] at hb0 ⊢; simp [lineEnd] at hb0 ⊢; simp [hb0]⟩
          have HL := Aside0.mk (fun W' hI hB => lx_is0 g R a1 47 false w0 W' hI hB hR (by omega) hb0)
          clear hb0 hd hlt hv hw HA HS h1 h2 h3 h4 hR hz HR
          go_wp2
          go_quiet ((go_at_call 50; exact q_of (lex_white.calls v false _ HW.out)))
          go_wp2
          go_quiet ((go_at_call 51; with_reducible exact q_add (HL.out _ (by repeat (first | exact HI.out | apply IsS85.drewN)) (by repeat (first | exact HB.out | apply pw_below_drewN)))))
          go_wp2
          go_ret
          exact HF.out _ _ true HE.out HD.out
        · obtain ⟨b1, hb1⟩ : ∃ b1, ((R.drop a1)[1]? == some 47) = b1 := ⟨_, rfl⟩
          have HE : Aside0 ((!lineEnd (R.drop a1)) = !b1) := ⟨by
            rw [hd] at hb0 hb1 ⊢
            have e0 : v = 47 := by simpa using hb0
            subst e0
            rw [List.getElem?_cons_succ] at hb1
            rw [← hb1, lineEnd, decide_eq_true rfl, Bool.true_and, List.head?_eq_getElem?]
            refine congrArg (fun x => !x) ?_
            rw [Bool.eq_iff_iff, decide_eq_true_iff, beq_iff_eq]⟩
          have HL := Aside0.mk (fun W' hI hB => lx_is0 g R a1 47 true w0 W' hI hB hR (by omega) hb0)
          have HL1 := Aside0.mk (fun W' hI hB => lx_is1 g R a1 47 b1 w0 W' hI hB hR (by omega) hb1)
          clear hb0 hb1 hd hlt hv hw HA HS h1 h2 h3 h4 hR hz HR
          cases b1
          all_goals
            go_wp2
            go_quiet ((go_at_call 50; exact q_of (lex_white.calls v false _ HW.out)))
            go_wp2
            go_quiet ((first | (go_at_call 51; with_reducible exact q_add (HL.out _ (by repeat (first | exact HI.out | apply IsS85.drewN)) (by repeat (first | exact HB.out | apply pw_below_drewN)))) | (go_at_call 51; with_reducible exact q_add (HL1.out _ (by repeat (first | exact HI.out | apply IsS85.drewN)) (by repeat (first | exact HB.out | apply pw_below_drewN))))))
            go_wp2
            go_ret
            first | exact HF.out _ _ true HE.out HD.out | exact HF.out _ _ false HE.out HD.out
      · have HW := Aside0.mk (white_f v)
        rw [hw] at HW
        have HN : Aside0 (a ≤ a1 + 1 ∧ a1 + 1 ≤ R.length ∧ (R.drop (a1 + 1)).dropWhile isWht = (R.drop a).dropWhile isWht) := ⟨by omega, by omega, by rw [← h4, hd, List.dropWhile_cons, hw]; rfl⟩
        have HZ : Aside0 (IntKind.i64.wrap (z + 1) = ((a1 + 1 : Nat) : Int)) := ⟨(i64_w _).trans (by simp only [wrap64]; omega)⟩
        have HM : Aside0 (R.length - (a1 + 1) < gk) := ⟨by omega⟩
        have hzz : IntKind.i64.wrap (z + 1) = ((a1 + 1 : Nat) : Int) := HZ.out
        clear hd hlt hv hw HA HS h1 h2 h3 h4 hR hz HR HF
        go_wp2
        go_quiet ((go_at_call 50; exact q_of (lex_white.calls v true _ HW.out)))
        go_wp2
        go_roundg (R.length - (a1 + 1))
        case measure => exact HM.out
        case rel => exact ⟨a1 + 1, ⟨rfl, HN.out⟩, ⟨(HI.out.drewN _).set_1 _⟩, ⟨below_set (pw_below_drewN HB.out _) HI.out.ge⟩, ⟨(keep_drewN HK.out _).set_ _ _⟩⟩
    · have c1 : decide (z < (R.length : Int)) = false := decide_eq_false (by omega)
      have ed : R.drop a1 = [] := List.drop_eq_nil_of_le (by omega)
      have HE : Aside0 ((!lineEnd (R.drop a1)) = false) := ⟨by rw [ed]; rfl⟩
      have HD : Aside0 (R.drop a1 = (R.drop a).dropWhile isWht) := ⟨by rw [← h4, ed]; rfl⟩
      clear hlt HA HS h1 h2 h3 h4 hR hz HR ed
      go_wp2
      go_quiet (fail)
      go_wp2
      go_quiet (fail)
      go_wp2
      go_ret
      exact HF.out _ _ false HE.out HD.out
theorem keep_then {w W W1 : World} {g : Nat} (h : KeepBut w W g none) (hb : Below w.heap.size W W1) : KeepBut w W1 g none :=
  ⟨Nat.le_trans h.1 hb.size, fun i hi hg hr => (hb.block i hi).trans (h.2 i hi hg hr)⟩
theorem isr_then {w0 w W W1 : World} {g : Nat} {R : List Int} {a : Int} (h : IsS85 w0 W g R a) (hg : g < w.heap.size) (hb : Below w.heap.size W W1) : IsS85 w0 W1 g R a :=
  h.kept (S := fun k => w.heap.size ≤ k) ⟨hb.size, fun i hi hn => hb.block i (by omega)⟩ (by omega)
theorem below_then {w0 w W W1 : World} (h : Below w0.heap.size w0 W) (h0 : w0.heap.size ≤ w.heap.size) (hb : Below w.heap.size W W1) : Below w0.heap.size w0 W1 := h.trans (hb.mono h0)
theorem encL_snoc (T : List Int) (r : Int) : encL (T ++ [r]) = encL T ++ Go.Lib.encodeRune r := by unfold encL; simp
theorem cells_snoc (T : List Int) (r : Int) : Go.Lib.byteCells (encL (T ++ [r])) = Go.Lib.byteCells (encL T) ++ Go.Lib.runeCells r := by
  rw [encL_snoc, ← Go.Lib.byteCells_encodeRune]
  simp [Go.Lib.byteCells]
theorem encL_len : ∀ T : List Int, (encL T).length ≤ 4 * T.length
  | [] => Nat.le_refl 0
  | r :: T => by
    have h1 := encL_len T
    have h2 := (Go.Lib.runeCells_le r).2
    rw [Go.Lib.runeCells_length] at h2
    show (Go.Lib.encodeRune r ++ encL T).length ≤ _
    rw [List.length_append, List.length_cons]
    omega
theorem cells_len (T : List Int) : (Go.Lib.byteCells (encL T)).length ≤ 4 * T.length := by rw [Go.Lib.byteCells_length]; exact encL_len T
theorem isLD_small {r : Int} (h : isLD r = true) : 36 ≤ r ∧ r ≤ 122 := by
  unfold isLD isLet isDig at h
  simp only [Bool.or_eq_true, Bool.and_eq_true, decide_eq_true_eq, beq_iff_eq] at h
  omega
set_option maxHeartbeats 4000000 in
set_option maxRecDepth 100000 in
theorem lx_run (g : Nat) (R : List Int) (a : Nat) (w0 w : World) (hI : IsS85 w0 w g R a) (hB : Below w0.heap.size w0 w) (hR : R.length ≤ 1000) (ha : a ≤ R.length) :
    Calls Tryd.prog 53 #[.pointer (some ⟨g, 0, none⟩)] w fun e w' => ∃ a' : Nat, e = .returned (.string ⟨(encL ((R.drop a).takeWhile isLD)).toArray⟩) ∧ a ≤ a' ∧ a' ≤ R.length ∧ R.drop a' = (R.drop a).dropWhile isLD ∧ IsS85 w0 w' g R a' ∧ Below w0.heap.size w0 w' ∧ KeepBut w w' g none := by
  have HI := Aside0.mk hI
  have HB := Aside0.mk hB
  have HR := Aside0.mk hR
  have HG := Aside0.mk hI.lt
  have H0 := Aside0.mk hB.size
  clear hI hB hR
  go_enter Tryd.func53, Tryd.ntmps53
  go_wp2
  go_loopg [] (R.length - a) (fun kq w' => ∃ (a1 : Nat) (T : List Int), Aside0 (R.length - a1 = kq ∧ a ≤ a1 ∧ a1 ≤ R.length ∧ T ++ (R.drop a1).takeWhile isLD = (R.drop a).takeWhile isLD ∧ (R.drop a1).dropWhile isLD = (R.drop a).dropWhile isLD ∧ T.length + a = a1) ∧ Aside0 (IsS85 w0 w' g R a1) ∧ Aside0 (Below w0.heap.size w0 w') ∧ Aside0 (KeepBut w w' g none) ∧ Aside0 (Wb w.heap.size w.heap.size (Go.Lib.byteCells (encL T)) w') ∧ Aside0 (w.heap.size ≤ w'.heap.size))
  case atStart => exact ⟨a, [], ⟨rfl, Nat.le_refl _, ha, rfl, rfl, by simp⟩, ⟨HI.out.alloc _⟩, ⟨below_alloc HB.out _⟩, ⟨keep_alloc (KeepBut.refl _ _ _) _⟩, ⟨wb_new w⟩, ⟨by simp⟩⟩
  case round =>
    clear HI HB ha
    obtain ⟨a1, T, HA, HI, HB, HK, HW, HS⟩ := hrel
    rename World => W
    obtain ⟨A0, c0, HGb, hg, HRW⟩ := HI.out
    have hc0 := cellS85_0 HGb
    have hc1 := cellS85_1 HGb
    have hfz := blk_frozen HGb 1
    clear HGb hg
    obtain ⟨z, hz⟩ : ∃ z : Int, (a1 : Int) = z := ⟨_, rfl⟩
    rw [hz] at hc1
    obtain ⟨h1, h2, h3, h4, h5, h6⟩ := HA.out
    have hR := HR.out
    have HEND : Aside0 ((R.drop a1).takeWhile isLD = [] → (R.drop a1).dropWhile isLD = R.drop a1 → ∀ (n : Nat) {W1 : World}, Below w.heap.size (W.drewN n) W1 → ∃ a' : Nat, Ending.returned (.string ⟨(encL T).toArray⟩) = .returned (.string ⟨(encL ((R.drop a).takeWhile isLD)).toArray⟩) ∧ a ≤ a' ∧ a' ≤ R.length ∧ R.drop a' = (R.drop a).dropWhile isLD ∧ IsS85 w0 W1 g R a' ∧ Below w0.heap.size w0 W1 ∧ KeepBut w W1 g none) :=
      ⟨fun e1 e2 n W1 hb => ⟨a1, by rw [← h4, e1, List.append_nil], h2, h3, by rw [← h5, e2], isr_then (HI.out.drewN n) HG.out hb, below_then (pw_below_drewN HB.out n) H0.out hb, keep_then (keep_drewN HK.out n) hb⟩⟩
    by_cases hlt : a1 < R.length
    · have hd := drop_at R a1 hlt
      have c1 : decide (z < (R.length : Int)) = true := decide_eq_true (by omega)
      have p : (0 : Int) ≤ z := by omega
      have q : z < (R.length : Int) := by omega
      obtain ⟨ad, e, hx⟩ := Kd.at_int HRW z p q
      cases e
      have HAD : Aside0 ((ad.add z.toNat).block < w.heap.size) := ⟨Nat.lt_of_lt_of_le (World.block_lt_of_cell? w0 _ hx) H0.out⟩
      replace hx := pw_cell_below HB.out hx
      replace p := eq_true p
      replace q := eq_true q
      rw [hz] at hd
      generalize hv : rd R z = v at *
      cases hw : isLD v
      · have HL := Aside0.mk (letter_f v)
        have HD := Aside0.mk (digit_fx v)
        have hl : isLet v = false := by unfold isLD at hw; rw [Bool.or_eq_false_iff] at hw; exact hw.1
        have hdg : isDig v = false := by unfold isLD at hw; rw [Bool.or_eq_false_iff] at hw; exact hw.2
        rw [hl] at HL
        rw [hdg] at HD
        have HF := HEND.out (by rw [hd, List.takeWhile_cons, hw]; rfl) (by rw [hd, List.dropWhile_cons, hw]; rfl)
        have HF := Aside0.mk HF
        clear HEND hd hlt hv hw HA h1 h2 h3 h4 h5 h6 hR hz HR hl hdg HRW
        go_wp2
        go_quiet ((first | (go_at_call 52; exact q_of (lex_letter.calls 3 v false _ HL.out)) | (go_at_call 54; exact q_of (lex_digit.calls v false _ HD.out))))
        go_wp2_with (fail)
        refine (wb_string_any w.heap.size w.heap.size _ _ (by exact HW.out) (by exact HS.out)).mono ?_
        rintro e W1 ⟨rfl, hB1⟩
        go_wp2
        go_ret
        exact HF.out _ hB1
      · have HN : Aside0 (a ≤ a1 + 1 ∧ a1 + 1 ≤ R.length ∧ (T ++ [v]) ++ (R.drop (a1 + 1)).takeWhile isLD = (R.drop a).takeWhile isLD ∧ (R.drop (a1 + 1)).dropWhile isLD = (R.drop a).dropWhile isLD ∧ (T ++ [v]).length + a = a1 + 1) :=
          ⟨by omega, by omega, by rw [← h4, hd, List.takeWhile_cons, hw]; simp, by rw [← h5, hd, List.dropWhile_cons, hw]; rfl, by simp; omega⟩
        have HZ : Aside0 (IntKind.i64.wrap (z + 1) = ((a1 + 1 : Nat) : Int)) := ⟨(i64_w _).trans (by simp only [wrap64]; omega)⟩
        have HM : Aside0 (R.length - (a1 + 1) < gk) := ⟨by omega⟩
        have hzz : IntKind.i64.wrap (z + 1) = ((a1 + 1 : Nat) : Int) := HZ.out
        have HT : Aside0 (4 * T.length + 4 ≤ 140737488355328) := ⟨by omega⟩
        have HV := Aside0.mk (isLD_small hw)
        have hv32 : IntKind.i32.wrap v = v := by
          have := HV.out
          simp [IntKind.wrap, IntKind.bits, IntKind.signed]
          omega
        have HL := Aside0.mk (letter_f v)
        have HD := Aside0.mk (digit_fx v)
        cases hl : isLet v
        · have hdg : isDig v = true := by unfold isLD at hw; rw [hl, Bool.false_or] at hw; exact hw
          rw [hl] at HL
          rw [hdg] at HD
          clear HEND hd hlt hv hw HA h1 h2 h3 h4 h5 h6 hR hz HR hl hdg HRW
          have HIR := HI
          clear HI
          go_wp2
          go_quiet ((first | (go_at_call 52; exact q_of (lex_letter.calls 3 v false _ HL.out)) | (go_at_call 54; exact q_of (lex_digit.calls v true _ HD.out))))
          go_wp2
          go_region_held3 (fun w' => w'.cell? ⟨g, 0, none⟩ = some (.slice (some ad) R.length c0) ∧ w'.cell? ⟨g, 1, none⟩ = some (.int .i64 z) ∧ w'.cell? (ad.add z.toNat) = some (.int .i64 v)) (first | go_keep | exact ⟨(hB1.cell (p := ⟨g, 0, none⟩) HG.out).trans hc0, (hB1.cell (p := ⟨g, 1, none⟩) HG.out).trans hc1, (hB1.cell (p := ad.add z.toNat) HAD.out).trans hx⟩) ((go_at_call 63; refine (wb_rune w.heap.size w.heap.size (Go.Lib.byteCells (encL T)) v (by have := HV.out; omega) (by have := HV.out; omega) _ (by exact HW.out) (by have := cells_len T; have := HT.out; omega) (by exact HS.out)).mono ?_; rintro e W1 ⟨rfl, hW1, hB1, -⟩))
          have hc1b : W1.cell? ⟨g, 1, none⟩ = some (.int .i64 z) := (hB1.cell (p := ⟨g, 1, none⟩) HG.out).trans hc1
          have hfzb : W1.frozen? ⟨g, 1, none⟩ = false := (hB1.frozen (p := ⟨g, 1, none⟩) HG.out).trans hfz
          have HI1 := Aside0.mk (isr_then (HIR.out.drewN _) HG.out hB1)
          have HB1 := Aside0.mk (below_then (pw_below_drewN HB.out _) H0.out hB1)
          have HK1 := Aside0.mk (keep_then (keep_drewN HK.out _) hB1)
          have HW1 : Aside0 (Wb w.heap.size w.heap.size (Go.Lib.byteCells (encL (T ++ [v]))) W1) := ⟨by rw [cells_snoc]; exact hW1⟩
          have HS1 : Aside0 (w.heap.size ≤ W1.heap.size) := ⟨Nat.le_trans HS.out hB1.size⟩
          clear hB1 hW1
          go_wp2
          go_roundg (R.length - (a1 + 1))
          case measure => exact HM.out
          case rel => exact ⟨a1 + 1, T ++ [v], ⟨rfl, HN.out⟩, ⟨HI1.out.set_1 _⟩, ⟨below_set HB1.out HI1.out.ge⟩, ⟨HK1.out.set_ _ _⟩, ⟨wb_far HW1.out _ HG.out _⟩, ⟨by simpa [World.setCell] using HS1.out⟩⟩
        · rw [hl] at HL
          clear HEND hd hlt hv hw HA h1 h2 h3 h4 h5 h6 hR hz HR hl HRW HD
          have HIR := HI
          clear HI
          go_wp2
          go_quiet ((go_at_call 52; exact q_of (lex_letter.calls 3 v true _ HL.out)))
          go_wp2
          go_region_held3 (fun w' => w'.cell? ⟨g, 0, none⟩ = some (.slice (some ad) R.length c0) ∧ w'.cell? ⟨g, 1, none⟩ = some (.int .i64 z) ∧ w'.cell? (ad.add z.toNat) = some (.int .i64 v)) (first | go_keep | exact ⟨(hB1.cell (p := ⟨g, 0, none⟩) HG.out).trans hc0, (hB1.cell (p := ⟨g, 1, none⟩) HG.out).trans hc1, (hB1.cell (p := ad.add z.toNat) HAD.out).trans hx⟩) ((go_at_call 63; refine (wb_rune w.heap.size w.heap.size (Go.Lib.byteCells (encL T)) v (by have := HV.out; omega) (by have := HV.out; omega) _ (by exact HW.out) (by have := cells_len T; have := HT.out; omega) (by exact HS.out)).mono ?_; rintro e W1 ⟨rfl, hW1, hB1, -⟩))
          have hc1b : W1.cell? ⟨g, 1, none⟩ = some (.int .i64 z) := (hB1.cell (p := ⟨g, 1, none⟩) HG.out).trans hc1
          have hfzb : W1.frozen? ⟨g, 1, none⟩ = false := (hB1.frozen (p := ⟨g, 1, none⟩) HG.out).trans hfz
          have HI1 := Aside0.mk (isr_then (HIR.out.drewN _) HG.out hB1)
          have HB1 := Aside0.mk (below_then (pw_below_drewN HB.out _) H0.out hB1)
          have HK1 := Aside0.mk (keep_then (keep_drewN HK.out _) hB1)
          have HW1 : Aside0 (Wb w.heap.size w.heap.size (Go.Lib.byteCells (encL (T ++ [v]))) W1) := ⟨by rw [cells_snoc]; exact hW1⟩
          have HS1 : Aside0 (w.heap.size ≤ W1.heap.size) := ⟨Nat.le_trans HS.out hB1.size⟩
          clear hB1 hW1
          go_wp2
          go_roundg (R.length - (a1 + 1))
          case measure => exact HM.out
          case rel => exact ⟨a1 + 1, T ++ [v], ⟨rfl, HN.out⟩, ⟨HI1.out.set_1 _⟩, ⟨below_set HB1.out HI1.out.ge⟩, ⟨HK1.out.set_ _ _⟩, ⟨wb_far HW1.out _ HG.out _⟩, ⟨by simpa [World.setCell] using HS1.out⟩⟩
    · have c1 : decide (z < (R.length : Int)) = false := decide_eq_false (by omega)
      have ed : R.drop a1 = [] := List.drop_eq_nil_of_le (by omega)
      have HF := HEND.out (by rw [ed]; rfl) (by rw [ed]; rfl)
      have HF := Aside0.mk HF
      clear HEND hlt HA h1 h2 h3 h4 h5 h6 hR hz HR HRW ed
      go_wp2
      go_quiet (fail)
      go_wp2_with (fail)
      refine (wb_string_any w.heap.size w.heap.size _ _ (by exact HW.out) (by exact HS.out)).mono ?_
      rintro e W1 ⟨rfl, hB1⟩
      go_wp2
      go_ret
      exact HF.out _ hB1
/-! ### the map of escapes -/
def escD : LD := (((((((DataW.map [] : LD).put (.int .i64 110) (litI 10)).put (.int .i64 116) (litI 9)).put (.int .i64 48) (litI 0)).put (.int .i64 92) (litI 92)).put (.int .i64 34) (litI 34)).put (.int .i64 39) (litI 39))
set_option maxHeartbeats 4000000 in
set_option maxRecDepth 100000 in
theorem lx_escapes (w : World) : Calls Tryd.prog 74 #[] w fun e w' => e = .returned (.map (some w.heap.size)) ∧ w'.ownsMap Tryd.prog 3 (plainElem Tryd.prog 3) w.heap.size 6 escD ∧ Below w.heap.size w w' := by
  have hmm := @run_makeMap Tryd.prog
  go_enter Tryd.func74, Tryd.ntmps74
  have hown0 : (w.alloc (.map #[] 0)).ownsMap Tryd.prog 3 (plainElem Tryd.prog 3) w.heap.size 0 (DataW.map [] : LD) := World.ownsMap_made _ _ _ _
  go_wp2_with (refine wpList_insert_own _ rfl _ _ _ 125 rfl 3 3 keyI Tryd.underlying125 _ w.heap.size _ _ rfl (by assumption) (by unfold maxLen; omega) _ _ _ rfl rfl (Maps.keyOf_int_mk Tryd.underlying3 (by decide)) _ [] (plainElem_int Tryd.underlying3 (by decide)) ?_; intro w1 hown1 hgrow1)
  go_ret
  refine ⟨rfl, by assumption, ?_⟩
  repeat (first | exact (Below.refl _ _).alloc (Nat.le_refl _) _ | refine below_own ?_ (by assumption) (Nat.le_refl _))
theorem esc_has (z : Int) : Go.Maps.has escD (.int .i64 z) = (escO z).isSome := by
  unfold escD escO
  by_cases h1 : z = 39
  · subst h1; rfl
  rw [Go.Maps.has_put_other (by simp; omega)]
  by_cases h2 : z = 34
  · subst h2; rfl
  rw [Go.Maps.has_put_other (by simp; omega)]
  by_cases h3 : z = 92
  · subst h3; rfl
  rw [Go.Maps.has_put_other (by simp; omega)]
  by_cases h4 : z = 48
  · subst h4; rfl
  rw [Go.Maps.has_put_other (by simp; omega)]
  by_cases h5 : z = 116
  · subst h5; rfl
  rw [Go.Maps.has_put_other (by simp; omega)]
  by_cases h6 : z = 110
  · subst h6; rfl
  rw [Go.Maps.has_put_other (by simp; omega), if_neg h6, if_neg h5, if_neg h4, if_neg h3, if_neg h2, if_neg h1]
  rfl
theorem esc_at (z : Int) : escD.atKey (.int .i64 z) (litI 0) = litI ((escO z).getD 0) := by
  unfold escD escO
  by_cases h1 : z = 39
  · subst h1; rfl
  rw [Go.Maps.atKey_put_other (by simp; omega)]
  by_cases h2 : z = 34
  · subst h2; rfl
  rw [Go.Maps.atKey_put_other (by simp; omega)]
  by_cases h3 : z = 92
  · subst h3; rfl
  rw [Go.Maps.atKey_put_other (by simp; omega)]
  by_cases h4 : z = 48
  · subst h4; rfl
  rw [Go.Maps.atKey_put_other (by simp; omega)]
  by_cases h5 : z = 116
  · subst h5; rfl
  rw [Go.Maps.atKey_put_other (by simp; omega)]
  by_cases h6 : z = 110
  · subst h6; rfl
  rw [Go.Maps.atKey_put_other (by simp; omega), if_neg h6, if_neg h5, if_neg h4, if_neg h3, if_neg h2, if_neg h1]
  rfl
set_option maxRecDepth 100000 in
theorem esc_look (W : World) (b : Nat) (h : W.ownsMap Tryd.prog 3 (plainElem Tryd.prog 3) b 6 escD) (z : Int) (hz : (Lit.int .i64 z).wf = true) :
    (Instr.lookup 125 (.map (some b)) (.int .i64 z) true).run Tryd.prog W = .ok (.tuple #[.int .i64 ((escO z).getD 0), .bool (escO z).isSome]) W := by
  obtain ⟨v, ps, hrun, hv⟩ := h.look_ok keyI Tryd.underlying125 (zeroI W) (plainElem_int Tryd.underlying3 (by decide)) (Maps.keyOf_int_mk Tryd.underlying3 hz)
  obtain ⟨c, rfl, hc, hwc⟩ := plainElem_int_inv Tryd.underlying3 hv
  have e := congrArg Prod.fst hc
  rw [show (DataW.lit (.int .i64 0) : LD) = litI 0 from rfl, esc_at] at e
  have e2 : (escO z).getD 0 = c := by
    unfold litI at e
    injection e with e
    injection e
  rw [hrun, esc_has, e2]
/-- What one hands back. -/
def OneP (w0 : World) (g : Nat) (R : List Int) (a : Nat) (q : Int) (w : World) (e : Ending) (w' : World) : Prop :=
  ∃ a' : Nat, a' ≤ R.length ∧ IsS85 w0 w' g R a' ∧ Below w0.heap.size w0 w' ∧ KeepBut w w' g none ∧ match oneL q (R.drop a) with
    | some (v, r) => e = .returned (.tuple #[.int .i64 v, .bool true]) ∧ R.drop a' = r ∧ a < a'
    | none => ∃ x, e = .returned (.tuple #[.int .i64 x, .bool false])
theorem onep_no {w0 : World} {g : Nat} {R : List Int} {a : Nat} {q : Int} {w w' : World} {x : Int} {a' : Nat} (h : oneL q (R.drop a) = none) (ha : a' ≤ R.length) (hI : IsS85 w0 w' g R a') (hB : Below w0.heap.size w0 w') (hK : KeepBut w w' g none) : OneP w0 g R a q w (.returned (.tuple #[.int .i64 x, .bool false])) w' :=
  ⟨a', ha, hI, hB, hK, by rw [h]; exact ⟨x, rfl⟩⟩
theorem onep_yes {w0 : World} {g : Nat} {R : List Int} {a : Nat} {q : Int} {w w' : World} {v : Int} {r : List Int} {a' : Nat} (h : oneL q (R.drop a) = some (v, r)) (hr : R.drop a' = r) (hlt : a < a') (ha : a' ≤ R.length) (hI : IsS85 w0 w' g R a') (hB : Below w0.heap.size w0 w') (hK : KeepBut w w' g none) : OneP w0 g R a q w (.returned (.tuple #[.int .i64 v, .bool true])) w' :=
  ⟨a', ha, hI, hB, hK, by rw [h]; exact ⟨rfl, hr, hlt⟩⟩
set_option maxHeartbeats 4000000 in
set_option maxRecDepth 100000 in
theorem lx_one (g : Nat) (R : List Int) (a : Nat) (q : Int) (w0 w : World) (hI : IsS85 w0 w g R a) (hB : Below w0.heap.size w0 w) (hR : R.length ≤ 1000) (ha : a ≤ R.length) (hwf : ∀ x ∈ R, 0 ≤ x ∧ x ≤ 1114111) :
    Calls Tryd.prog 65 #[.pointer (some ⟨g, 0, none⟩), .int .i64 q] w fun e w' => OneP w0 g R a q w e w' := by
  obtain ⟨A0, c0, HGb, hg, HRW⟩ := hI
  have hc0 := cellS85_0 HGb
  have hc1 := cellS85_1 HGb
  have hfz := blk_frozen HGb 1
  have HI : Aside0 (IsS85 w0 w g R a) := ⟨⟨A0, c0, HGb, hg, HRW⟩⟩
  clear HGb
  have HB := Aside0.mk hB
  have HG := Aside0.mk hg
  clear hB hg
  obtain ⟨z, hz⟩ : ∃ z : Int, (a : Int) = z := ⟨_, rfl⟩
  rw [hz] at hc1
  have HK0 := Aside0.mk (KeepBut.refl w g none)
  by_cases hlt : a < R.length
  · have hd := drop_at R a hlt
    have c1 : decide ((R.length : Int) ≤ z) = false := decide_eq_false (by omega)
    have p : (0 : Int) ≤ z := by omega
    have qq : z < (R.length : Int) := by omega
    obtain ⟨ad, e, hx⟩ := Kd.at_int HRW z p qq
    cases e
    replace hx := pw_cell_below HB.out hx
    have hwf1 := hwf (rd R z) (by have := List.getElem_mem hlt; rw [← hz]; show R.getD a 0 ∈ R; rw [List.getD_eq_getElem?_getD, List.getElem?_eq_getElem hlt]; exact this)
    replace p := eq_true p
    replace qq := eq_true qq
    rw [hz] at hd
    generalize hv : rd R z = v at *
    obtain ⟨z1, hz1⟩ : ∃ z1 : Int, ((a + 1 : Nat) : Int) = z1 := ⟨_, rfl⟩
    have hzz : IntKind.i64.wrap (z + 1) = z1 := (i64_w _).trans (by simp only [wrap64]; omega)
    -- the world behind the rune
    have HI1 : Aside0 (∀ n, IsS85 w0 ((w.drewN n).setCell ⟨g, 1, none⟩ (.int .i64 z1)) g R ((a + 1 : Nat) : Int)) := ⟨fun n => by rw [hz1]; exact (HI.out.drewN n).set_1 _⟩
    have HB1 : Aside0 (∀ n, Below w0.heap.size w0 ((w.drewN n).setCell ⟨g, 1, none⟩ (.int .i64 z1))) := ⟨fun n => below_set (pw_below_drewN HB.out n) HG.out⟩
    have HK1 : Aside0 (∀ n, KeepBut w ((w.drewN n).setCell ⟨g, 1, none⟩ (.int .i64 z1)) g none) := ⟨fun n => (keep_drewN HK0.out n).set_ _ _⟩
    have HL1 : Aside0 (a + 1 ≤ R.length) := ⟨hlt⟩
    by_cases hq : v = q ∨ v < 32
    · have HN : Aside0 (oneL q (R.drop a) = none) := ⟨by rw [hd, oneL_cons, if_pos hq]⟩
      have hcc : ((v == q) = true) ∨ ((v == q) = false ∧ decide (v < 32) = true) := by
        by_cases h1 : v = q
        · exact Or.inl (beq_iff_eq.2 h1)
        · exact Or.inr ⟨beq_eq_false_iff_ne.2 h1, decide_eq_true (by omega)⟩
      clear hd hlt hv hq hz hR ha hwf HRW HI hwf1 hz1
      rcases hcc with c2 | ⟨c2, c3⟩
      all_goals
        go_enter Tryd.func65, Tryd.ntmps65
        go_wp2
        repeat (go_quiet (fail); try go_wp2)
        go_ret2
        exact onep_no HN.out HL1.out (HI1.out _) (HB1.out _) (HK1.out _)
    · have c2 : (v == q) = false := beq_eq_false_iff_ne.2 (by omega)
      have c3 : decide (v < 32) = false := decide_eq_false (by omega)
      by_cases h92 : v = 92
      · subst h92
        have hne : ¬ ((92 : Int) = q ∨ (92 : Int) < 32) := hq
        by_cases hl1 : a + 1 < R.length
        · have hd1 := drop_at R (a + 1) hl1
          have c4 : decide ((R.length : Int) ≤ z1) = false := decide_eq_false (by omega)
          have p1 : (0 : Int) ≤ z1 := by omega
          have q1 : z1 < (R.length : Int) := by omega
          obtain ⟨ad1, e1, hx1⟩ := Kd.at_int HRW z1 p1 q1
          cases e1
          have HAD : Aside0 ((ad.add z1.toNat).block < w0.heap.size) := ⟨World.block_lt_of_cell? w0 _ hx1⟩
          replace hx1 := pw_cell_below HB.out hx1
          have hwf2 := hwf (rd R z1) (by have := List.getElem_mem hl1; rw [← hz1]; show R.getD (a + 1) 0 ∈ R; rw [List.getD_eq_getElem?_getD, List.getElem?_eq_getElem hl1]; exact this)
          replace p1 := eq_true p1
          replace q1 := eq_true q1
          rw [hz1] at hd1
          generalize hv1 : rd R z1 = v1 at *
          have HW1 : Aside0 ((Lit.int .i64 v1).wf = true) := ⟨WalkArith.wf_i64 (by omega)⟩
          have HN : Aside0 (oneL q (R.drop a) = (match escO v1 with | some x => some (x, R.drop (a + 1 + 1)) | none => none)) := ⟨by rw [hd, oneL_cons, if_neg hq, if_pos rfl, hd1]; exact (by cases h : escO v1 <;> simp [h])⟩
          have HL2 : Aside0 (a + 1 + 1 ≤ R.length) := ⟨hl1⟩
          obtain ⟨z2, hz2⟩ : ∃ z2 : Int, ((a + 1 + 1 : Nat) : Int) = z2 := ⟨_, rfl⟩
          have hzz2 : IntKind.i64.wrap (z1 + 1) = z2 := (i64_w _).trans (by simp only [wrap64]; omega)
          have HZ2 := Aside0.mk hz2
          clear hd hd1 hlt hv hq hz hR ha hwf HRW HI hwf1 hz1 hl1 hne hwf2 hv1 hz2
          go_enter Tryd.func65, Tryd.ntmps65
          go_wp2
          repeat (go_quiet (fail); try go_wp2)
          go_name_world W2 hW2
          have d0 : W2.cell? ⟨g, 0, none⟩ = some (.slice (some ad) R.length c0) := by rw [← hW2, World.cell?_drewN, World.cell?_setCell_other _ _ _ _ (by simp), World.cell?_drewN]; exact hc0
          have d1 : W2.cell? ⟨g, 1, none⟩ = some (.int .i64 z1) := by rw [← hW2, World.cell?_drewN, World.cell?_setCell_same _ _ _ (by rw [World.cell?_drewN]; exact hc1)]
          have dx : W2.cell? (ad.add z1.toNat) = some (.int .i64 v1) := by
            rw [← hW2, World.cell?_drewN, World.cell?_setCell_other _ _ _ _ (fun e => by have h1 := HAD.out; have h2 := HG.out; rw [← e] at h1; exact absurd h1 (by simp; omega)), World.cell?_drewN]; exact hx1
          have HI2 : Aside0 (IsS85 w0 W2 g R ((a + 1 : Nat) : Int)) := ⟨by rw [← hW2]; exact (HI1.out _).drewN _⟩
          have HB2 : Aside0 (Below w0.heap.size w0 W2) := ⟨by rw [← hW2]; exact pw_below_drewN (HB1.out _) _⟩
          have HK2 : Aside0 (KeepBut w W2 g none) := ⟨by rw [← hW2]; exact keep_drewN (HK1.out _) _⟩
          have HGL := Aside0.mk HI2.out.lt
          have HAL : Aside0 ((ad.add z1.toNat).block < W2.heap.size) := ⟨Nat.lt_of_lt_of_le HAD.out HB2.out.size⟩
          clear hW2 hc0 hc1 hx hx1 hfz HI1 HB1 HK1
          go_region_held3 (fun w' => w'.cell? ⟨g, 0, none⟩ = some (.slice (some ad) R.length c0) ∧ w'.cell? ⟨g, 1, none⟩ = some (.int .i64 z1) ∧ w'.cell? (ad.add z1.toNat) = some (.int .i64 v1)) (first | go_keep | exact ⟨(hB3.cell (p := ⟨g, 0, none⟩) HGL.out).trans d0, (hB3.cell (p := ⟨g, 1, none⟩) HGL.out).trans d1, (hB3.cell (p := ad.add z1.toNat) HAL.out).trans dx⟩) ((go_at_call 74; refine (lx_escapes _).mono ?_; rintro e W3 ⟨rfl, hown, hB3⟩; have hlk := esc_look W3 W2.heap.size hown v1 HW1.out))
          have e1 : W3.cell? ⟨g, 1, none⟩ = some (.int .i64 z1) := (hB3.cell (p := ⟨g, 1, none⟩) HGL.out).trans d1
          have ef : W3.frozen? ⟨g, 1, none⟩ = false := (hB3.frozen (p := ⟨g, 1, none⟩) HGL.out).trans (by obtain ⟨_, _, hq1, _, _⟩ := HI2.out; exact blk_frozen hq1 1)
          have HI3 := Aside0.mk (isr_then (w := W2) (HI2.out.drewN _) HGL.out hB3)
          have HB3 := Aside0.mk (below_then (w := W2) (pw_below_drewN HB2.out _) HB2.out.size hB3)
          have HK3 : Aside0 (KeepBut w W3 g none) := ⟨⟨Nat.le_trans HK2.out.1 hB3.size, fun i hi hg hr => (hB3.block i (Nat.lt_of_lt_of_le hi HK2.out.1)).trans (HK2.out.2 i hi hg hr)⟩⟩
          clear hB3 hown hlk
          go_wp2
          go_ret2
          have HQ : Aside0 (IsS85 w0 (W3.setCell ⟨g, 1, none⟩ (.int .i64 z2)) g R ((a + 1 + 1 : Nat) : Int) ∧ Below w0.heap.size w0 (W3.setCell ⟨g, 1, none⟩ (.int .i64 z2)) ∧ KeepBut w (W3.setCell ⟨g, 1, none⟩ (.int .i64 z2)) g none) := ⟨by rw [HZ2.out]; exact HI3.out.set_1 _, below_set HB3.out HG.out, HK3.out.set_ _ _⟩
          cases he : escO v1 with
          | none => exact onep_no (by rw [HN.out, he]) HL2.out HQ.out.1 HQ.out.2.1 HQ.out.2.2
          | some x => exact onep_yes (by rw [HN.out, he]; rfl) rfl (by omega) HL2.out HQ.out.1 HQ.out.2.1 HQ.out.2.2
        · have HN : Aside0 (oneL q (R.drop a) = none) := ⟨by rw [hd, oneL_cons, if_neg hq, if_pos rfl, List.drop_eq_nil_of_le (by omega)]⟩
          have c4 : decide ((R.length : Int) ≤ z1) = true := decide_eq_true (by omega)
          clear hd hlt hv hq hz hR ha hwf HRW HI hwf1 hz1 hl1 hne
          go_enter Tryd.func65, Tryd.ntmps65
          go_wp2
          repeat (go_quiet (fail); try go_wp2)
          go_ret2
          exact onep_no HN.out HL1.out ((HI1.out _).drewN _) (pw_below_drewN (HB1.out _) _) (keep_drewN (HK1.out _) _)
      · have HN : Aside0 (oneL q (R.drop a) = some (v, R.drop (a + 1))) := ⟨by rw [hd, oneL_cons, if_neg hq, if_neg h92]⟩
        have c4 : (v != 92) = true := bne_iff_ne.2 h92
        clear hd hlt hv hq hz hR ha hwf HRW HI hwf1 hz1 h92
        go_enter Tryd.func65, Tryd.ntmps65
        go_wp2
        repeat (go_quiet (fail); try go_wp2)
        go_ret2
        exact onep_yes HN.out rfl (Nat.lt_succ_self a) HL1.out (HI1.out _) (HB1.out _) (HK1.out _)
  · have HN : Aside0 (oneL q (R.drop a) = none) := ⟨by rw [List.drop_eq_nil_of_le (by omega)]; rfl⟩
    have c1 : decide ((R.length : Int) ≤ z) = true := decide_eq_true (by omega)
    have HL := Aside0.mk ha
    clear hlt hz hR ha hwf HRW
    go_enter Tryd.func65, Tryd.ntmps65
    go_wp2
    repeat (go_quiet (fail); try go_wp2)
    go_ret2
    exact onep_no HN.out HL.out (HI.out.drewN _) (pw_below_drewN HB.out _) (keep_drewN HK0.out _)
theorem res_tok {fn : Func} (h : fn.results = #[.cell 2 29, .tmp 3]) (tmps : Array Value) (w : World) (b : Nat) (x0 x1 x2 : Value) (ok : Value)
    (hp : tmps.getD 2 undef = .pointer (some ⟨b, 0, none⟩)) (hg : w.heap[b]? = some (.cells #[x0, x1, x2] 29 (0, 0))) (h3 : tmps.getD 3 undef = ok) :
    (results fn tmps).run Tryd.prog w = .ok (.tuple #[.agg #[x0, x1, x2], ok]) w := by
  rw [results_cell_tmp h, hp, h3]
  simp only [asAddr, Sem.run_pure, Result.andThen_ok]
  rw [run_loadVar_row w b 29 29 #[x0, x1, x2] (0, 0) _ hg Tryd.underlying29 rfl (by kernel_rfl)]
  rfl
/-- What text, char and token hand back. -/
def TokP (w0 : World) (g : Nat) (R : List Int) (ans : Option ((Int × List UInt8 × Int) × List Int)) (w : World) (e : Ending) (w' : World) : Prop :=
  ∃ a' : Nat, a' ≤ R.length ∧ IsS85 w0 w' g R a' ∧ Below w0.heap.size w0 w' ∧ KeepBut w w' g none ∧ match ans with
    | some (t, r) => e = .returned (.tuple #[.agg #[.int .i64 t.1, .string ⟨t.2.1.toArray⟩, .int .u64 t.2.2], .bool true]) ∧ R.drop a' = r
    | none => ∃ k s v, e = .returned (.tuple #[.agg #[.int .i64 k, .string s, .int .u64 v], .bool false])
theorem tokp_no {w0 : World} {g : Nat} {R : List Int} {ans : Option ((Int × List UInt8 × Int) × List Int)} {w w' : World} {k v : Int} {s : ByteArray} {a' : Nat} (h : ans = none) (ha : a' ≤ R.length) (hI : IsS85 w0 w' g R a') (hB : Below w0.heap.size w0 w') (hK : KeepBut w w' g none) : TokP w0 g R ans w (.returned (.tuple #[.agg #[.int .i64 k, .string s, .int .u64 v], .bool false])) w' :=
  ⟨a', ha, hI, hB, hK, by rw [h]; exact ⟨k, s, v, rfl⟩⟩
theorem tokp_yes {w0 : World} {g : Nat} {R : List Int} {ans : Option ((Int × List UInt8 × Int) × List Int)} {w w' : World} {k v : Int} {s : List UInt8} {r : List Int} {a' : Nat} (h : ans = some ((k, s, v), r)) (hr : R.drop a' = r) (ha : a' ≤ R.length) (hI : IsS85 w0 w' g R a') (hB : Below w0.heap.size w0 w') (hK : KeepBut w w' g none) : TokP w0 g R ans w (.returned (.tuple #[.agg #[.int .i64 k, .string ⟨s.toArray⟩, .int .u64 v], .bool true])) w' :=
  ⟨a', ha, hI, hB, hK, by rw [h]; exact ⟨rfl, hr⟩⟩
/-- A token is stored where the results lie. -/
theorem tok_store {w0 w W : World} {g b : Nat} {R : List Int} {a : Int} {x0 x1 x2 : Value} (y0 y1 y2 : Value) (hb : w.heap.size ≤ b) (hgb : g ≠ b) (h0 : w0.heap.size ≤ b) (hX : W.heap[b]? = some (.cells #[x0, x1, x2] 29 (0, 0)))
    (hI : IsS85 w0 W g R a) (hB : Below w0.heap.size w0 W) (hK : KeepBut w W g none) :
    (((W.setCell ⟨b, 0, none⟩ y0).setCell ⟨b, 1, none⟩ y1).setCell ⟨b, 2, none⟩ y2).heap[b]? = some (.cells #[y0, y1, y2] 29 (0, 0)) ∧
    IsS85 w0 (((W.setCell ⟨b, 0, none⟩ y0).setCell ⟨b, 1, none⟩ y1).setCell ⟨b, 2, none⟩ y2) g R a ∧
    Below w0.heap.size w0 (((W.setCell ⟨b, 0, none⟩ y0).setCell ⟨b, 1, none⟩ y1).setCell ⟨b, 2, none⟩ y2) ∧
    KeepBut w (((W.setCell ⟨b, 0, none⟩ y0).setCell ⟨b, 1, none⟩ y1).setCell ⟨b, 2, none⟩ y2) g none :=
  ⟨blk_put (cs' := #[y0, y1, y2]) (blk_put (cs' := #[y0, y1, x2]) (blk_put (cs' := #[y0, x1, x2]) hX 0 _ rfl) 1 _ rfl) 2 _ rfl,
    ((hI.far (p := ⟨b, 0, none⟩) hgb _).far (p := ⟨b, 1, none⟩) hgb _).far (p := ⟨b, 2, none⟩) hgb _,
    below_set (below_set (below_set hB h0) h0) h0,
    keep_far (p := ⟨b, 2, none⟩) (keep_far (p := ⟨b, 1, none⟩) (keep_far (p := ⟨b, 0, none⟩) hK hb _) hb _) hb _⟩
def charA (l : List Int) : Option ((Int × List UInt8 × Int) × List Int) := match charL l with | none => none | some (c, r') => some ((5, [], c), r')
def textA (l : List Int) : Option ((Int × List UInt8 × Int) × List Int) := match textL (l.length + 1) l with | none => none | some (a, r') => some ((3, encL a, 0), r')
def cmb (T : List Int) : Option (List Int × List Int) → Option (List Int × List Int)
  | none => none
  | some (t, r) => some (T ++ t, r)
set_option maxHeartbeats 4000000 in
set_option maxRecDepth 100000 in
theorem lx_char (g : Nat) (R : List Int) (a : Nat) (w0 w : World) (hI : IsS85 w0 w g R a) (hB : Below w0.heap.size w0 w) (hR : R.length ≤ 1000) (ha : a < R.length) (hwf : ∀ x ∈ R, 0 ≤ x ∧ x ≤ 1114111) :
    Calls Tryd.prog 56 #[.pointer (some ⟨g, 0, none⟩)] w fun e w' => TokP w0 g R (charA (R.drop (a + 1))) w e w' := by
  have HGL := Aside0.mk hI.lt
  have HGE := Aside0.mk hI.ge
  obtain ⟨A0, c0, HGb, hg, HRW⟩ := hI
  have hc1 : (w.alloc (.cells #[.int .i64 0, .string ⟨#[]⟩, .int .u64 0] 29)).cell? ⟨g, 1, none⟩ = some (.int .i64 (a : Int)) := cellS85_1 (blk_alloc HGb _)
  have hfz := blk_frozen (blk_alloc HGb (.cells #[.int .i64 0, .string ⟨#[]⟩, .int .u64 0] 29)) 1
  have HI1 : Aside0 (IsS85 w0 ((w.alloc (.cells #[.int .i64 0, .string ⟨#[]⟩, .int .u64 0] 29)).setCell ⟨g, 1, none⟩ (.int .i64 ((a + 1 : Nat) : Int))) g R ((a + 1 : Nat) : Int)) := ⟨IsS85.set_1 (IsS85.alloc ⟨A0, c0, HGb, hg, HRW⟩ _) _⟩
  have HB1 : Aside0 (Below w0.heap.size w0 ((w.alloc (.cells #[.int .i64 0, .string ⟨#[]⟩, .int .u64 0] 29)).setCell ⟨g, 1, none⟩ (.int .i64 ((a + 1 : Nat) : Int)))) := ⟨below_set (below_alloc hB _) hg⟩
  have HK1 : Aside0 (KeepBut w ((w.alloc (.cells #[.int .i64 0, .string ⟨#[]⟩, .int .u64 0] 29)).setCell ⟨g, 1, none⟩ (.int .i64 ((a + 1 : Nat) : Int))) g none) := ⟨(keep_alloc (KeepBut.refl _ _ _) _).set_ _ _⟩
  have HX1 : Aside0 (((w.alloc (.cells #[.int .i64 0, .string ⟨#[]⟩, .int .u64 0] 29)).setCell ⟨g, 1, none⟩ (.int .i64 ((a + 1 : Nat) : Int))).heap[w.heap.size]? = some (.cells #[.int .i64 0, .string ⟨#[]⟩, .int .u64 0] 29 (0, 0))) := ⟨blk_far (by simpa using blk_new w _) (by have := HGL.out; simp; omega) _⟩
  have hzz : IntKind.i64.wrap ((a : Int) + 1) = ((a + 1 : Nat) : Int) := (i64_w _).trans (by simp only [wrap64]; omega)
  have HO := Aside0.mk (lx_one g R (a + 1) 39 w0 _ HI1.out HB1.out hR ha hwf)
  have HR := Aside0.mk hR
  have HW := Aside0.mk hwf
  clear hB HGb hg HRW hwf HI1 HB1 hR
  go_enter Tryd.func56, Tryd.ntmps56
  go_wp2_with (fail)
  refine HO.out.mono ?_
  rintro e W1 ⟨a1, ha1, hI1, hB1, hK1, hans⟩
  have HBX : Aside0 (W1.heap[w.heap.size]? = some (.cells #[.int .i64 0, .string ⟨#[]⟩, .int .u64 0] 29 (0, 0))) := ⟨(hK1.2 w.heap.size (blk_lt HX1.out) (by have := HGL.out; omega) (by simp)).trans HX1.out⟩
  have HI2 := Aside0.mk hI1
  have HB2 := Aside0.mk hB1
  have HK2 := Aside0.mk (HK1.out.trans hK1 (Or.inl rfl))
  have HA := Aside0.mk ha1
  have hx0 : W1.cell? ⟨w.heap.size, 0, none⟩ = some (.int .i64 0) := (blk_cell HBX.out 0).trans rfl
  have hx1 : W1.cell? ⟨w.heap.size, 1, none⟩ = some (.string ⟨#[]⟩) := (blk_cell HBX.out 1).trans rfl
  have hx2 : W1.cell? ⟨w.heap.size, 2, none⟩ = some (.int .u64 0) := (blk_cell HBX.out 2).trans rfl
  have hf0 := blk_frozen HBX.out 0
  have hf1 := blk_frozen HBX.out 1
  have hf2 := blk_frozen HBX.out 2
  have HNE : Aside0 (g ≠ w.heap.size ∧ w0.heap.size ≤ w.heap.size) := ⟨by have := HGL.out; omega, by have := HGE.out; have := HGL.out; omega⟩
  clear hI1 hB1 hK1 ha1 HX1 HK1 HO hc1 hfz hzz
  cases ho : oneL 39 (R.drop (a + 1)) with
  | none =>
    rw [ho] at hans
    obtain ⟨x, rfl⟩ := hans
    have HN : Aside0 (charA (R.drop (a + 1)) = none) := ⟨by unfold charA charL; rw [ho]⟩
    clear ho ha
    go_wp2
    obtain ⟨q1, q2, q3, q4⟩ := tok_store (.int .i64 0) (.string ⟨#[]⟩) (.int .u64 0) (Nat.le_refl _) HNE.out.1 HNE.out.2 HBX.out HI2.out HB2.out HK2.out
    refine bodyPost_ret (res_tok rfl _ _ w.heap.size _ _ _ (.bool false) rfl q1 rfl) rfl ?_; exact tokp_no HN.out HA.out q2 q3 q4
  | some p =>
    obtain ⟨v, r⟩ := p
    rw [ho] at hans
    obtain ⟨rfl, hr, hlt⟩ := hans
    obtain ⟨b, hb⟩ : ∃ b, ((R.drop a1)[0]? == some 39) = b := ⟨_, rfl⟩
    have HV := Aside0.mk (oneL_bd ho (fun x hx => HW.out x (List.mem_of_mem_drop hx)))
    have HL := Aside0.mk (fun W' hI hB => lx_is0 g R a1 39 b w0 W' hI hB HR.out (by have := HA.out; have := HR.out; omega) hb)
    have h39 : (r.head? = some 39 ↔ b = true) := by rw [← hb, ← hr, List.head?_eq_getElem?, beq_iff_eq]
    obtain ⟨A1, cc1, HGb1, hg1, _⟩ := HI2.out
    have hc1 : W1.cell? ⟨g, 1, none⟩ = some (.int .i64 (a1 : Int)) := cellS85_1 HGb1
    have hfz := blk_frozen HGb1 1
    clear HGb1 hg1
    cases b
    · have HN : Aside0 (charA (R.drop (a + 1)) = none) := ⟨by unfold charA charL; rw [ho]; simp only; rw [if_neg (fun e => by have := h39.1 e; cases this)]⟩
      clear ho ha hb h39 hr hlt
      go_wp2_with (fail)
      refine (HL.out _ (by exact HI2.out) (by exact HB2.out)).mono ?_
      rintro e w' ⟨rfl, ⟨⟨nd, rfl⟩⟩⟩
      go_wp2
      obtain ⟨q1, q2, q3, q4⟩ := tok_store (.int .i64 0) (.string ⟨#[]⟩) (.int .u64 0) (Nat.le_refl _) HNE.out.1 HNE.out.2 (blk_drewN HBX.out nd) (HI2.out.drewN nd) (pw_below_drewN HB2.out nd) (keep_drewN HK2.out nd)
      refine bodyPost_ret (res_tok rfl _ _ w.heap.size _ _ _ (.bool false) rfl q1 rfl) rfl ?_; exact tokp_no HN.out HA.out q2 q3 q4
    · have hr39 : R.drop a1 = r := hr
      have h0 : r.head? = some 39 := h39.2 rfl
      have hd1 : r.drop 1 = R.drop (a1 + 1) := by rw [← hr39, List.drop_drop]
      have HN : Aside0 (charA (R.drop (a + 1)) = some ((5, [], v), R.drop (a1 + 1))) := ⟨by unfold charA charL; rw [ho]; simp only; rw [if_pos h0, hd1]⟩
      have HA2 : Aside0 (a1 + 1 ≤ R.length) := ⟨by
        rcases Nat.lt_or_ge a1 R.length with h | h
        · exact h
        · rw [List.drop_eq_nil_of_le h] at hr39; rw [← hr39] at h0; cases h0⟩
      have hzz : IntKind.i64.wrap ((a1 : Int) + 1) = ((a1 + 1 : Nat) : Int) := (i64_w _).trans (by have := HA.out; have := HR.out; simp only [wrap64]; omega)
      have hv64 : IntKind.u64.wrap v = v := by have := HV.out; rw [Go.Proofs.YtpndeninbokjoaaDoor.K.wu64]; omega
      clear ho ha hb h39 hr hlt hr39 h0 hd1
      have hne1 : (w.heap.size = g) = False := eq_false (fun e => HNE.out.1 e.symm)
      have hne2 : (g = w.heap.size) = False := eq_false HNE.out.1
      go_wp2_with (fail)
      refine (HL.out _ (by exact HI2.out) (by exact HB2.out)).mono ?_
      rintro e w' ⟨rfl, ⟨⟨nd, rfl⟩⟩⟩
      go_wp2
      obtain ⟨q1, q2, q3, q4⟩ := tok_store (.int .i64 5) (.string ⟨#[]⟩) (.int .u64 v) (Nat.le_refl _) HNE.out.1 HNE.out.2 (blk_far (blk_drewN HBX.out nd) (p := ⟨g, 1, none⟩) (fun e => HNE.out.1 e.symm) (.int .i64 ((a1 + 1 : Nat) : Int))) ((HI2.out.drewN nd).set_1 _) (below_set (pw_below_drewN HB2.out nd) (by exact HGE.out)) ((keep_drewN HK2.out nd).set_ _ _)
      refine bodyPost_ret (res_tok rfl _ _ w.heap.size _ _ _ (.bool true) rfl q1 rfl) rfl ?_; exact tokp_yes HN.out rfl HA2.out q2 q3 q4
theorem wb_keep {B b : Nat} {bs : List Value} {W W1 : World} {g : Nat} (h : Wb B b bs W) (hk : KeepBut W W1 g none) (hg : g < B) : Wb B b bs W1 := by
  have aux : ∀ q, Lib.BuilderAtF 109 5 B b q bs W → Lib.BuilderAtF 109 5 B b q bs W1 := by
    rintro q ⟨hB, v, hb, hown, hne⟩
    refine ⟨hB, v, (hk.2 b (blk_lt hb) (by omega) (by simp)).trans hb, ⟨hown.1, ?_⟩, hne⟩
    rcases hown.2 with hn | ⟨r, cap, cur, fz, hv, hbg, hg2, rest⟩
    · exact .inl hn
    · exact .inr ⟨r, cap, cur, fz, hv, hbg, (hk.2 r (blk_lt hg2) (by omega) (by simp)).trans hg2, rest⟩
  exact h.elim (fun x => .inl (aux _ x)) (fun x => .inr (aux _ x))
theorem keep_below2 {w W W1 : World} {g B : Nat} (h : KeepBut w W g none) (hB : w.heap.size ≤ B) (hb : Below B W W1) : KeepBut w W1 g none :=
  ⟨Nat.le_trans h.1 hb.size, fun i hi hg hr => (hb.block i (Nat.lt_of_lt_of_le hi hB)).trans (h.2 i hi hg hr)⟩
theorem isr_below2 {w0 W W1 : World} {g B : Nat} {R : List Int} {a : Int} (h : IsS85 w0 W g R a) (hg : g < B) (hb : Below B W W1) : IsS85 w0 W1 g R a :=
  h.kept (S := fun k => B ≤ k) ⟨hb.size, fun i _ hn => hb.block i (by omega)⟩ (by omega)
set_option maxHeartbeats 8000000 in
set_option maxRecDepth 100000 in
theorem lx_text (g : Nat) (R : List Int) (a : Nat) (w0 w : World) (hI : IsS85 w0 w g R a) (hB : Below w0.heap.size w0 w) (hR : R.length ≤ 1000) (ha : a < R.length) (hwf : ∀ x ∈ R, 0 ≤ x ∧ x ≤ 1114111) :
    Calls Tryd.prog 55 #[.pointer (some ⟨g, 0, none⟩)] w fun e w' => TokP w0 g R (textA (R.drop (a + 1))) w e w' := by
  have HGL := Aside0.mk hI.lt
  have HGE := Aside0.mk hI.ge
  have HNE : Aside0 (g ≠ w.heap.size ∧ w0.heap.size ≤ w.heap.size) := ⟨by have := HGL.out; omega, by have := HGE.out; have := HGL.out; omega⟩
  have HI0 := Aside0.mk hI
  have HB0 := Aside0.mk hB
  obtain ⟨A0, c0, HGb, hg, HRW⟩ := hI
  have hc1 : ((w.alloc (.cells #[.int .i64 0, .string ⟨#[]⟩, .int .u64 0] 29)).alloc (.cells #[.pointer none, .slice none 0 0] 109)).cell? ⟨g, 1, none⟩ = some (.int .i64 (a : Int)) := cellS85_1 (blk_alloc (blk_alloc HGb _) _)
  have hfz := blk_frozen (blk_alloc (blk_alloc HGb (.cells #[.int .i64 0, .string ⟨#[]⟩, .int .u64 0] 29)) (.cells #[.pointer none, .slice none 0 0] 109)) 1
  have hzz : IntKind.i64.wrap ((a : Int) + 1) = ((a + 1 : Nat) : Int) := (i64_w _).trans (by simp only [wrap64]; omega)
  have HR := Aside0.mk hR
  have HW := Aside0.mk hwf
  have HA0 := Aside0.mk ha
  have hne1 : (w.heap.size = g) = False := eq_false (fun e => HNE.out.1 e.symm)
  have hne2 : (g = w.heap.size) = False := eq_false HNE.out.1
  clear hB HGb hg HRW hwf hR ha
  go_enter Tryd.func55, Tryd.ntmps55
  go_wp2
  go_loopg [] (R.length - a) (fun kq W => ∃ (a1 : Nat) (T : List Int), Aside0 (R.length + 1 - a1 = kq ∧ a + 1 ≤ a1 ∧ a1 ≤ R.length ∧ cmb T (textL kq (R.drop a1)) = textL ((R.drop (a + 1)).length + 1) (R.drop (a + 1)) ∧ T.length + (a + 1) ≤ a1) ∧ Aside0 (IsS85 w0 W g R a1) ∧ Aside0 (Below w0.heap.size w0 W) ∧ Aside0 (KeepBut w W g none) ∧ Aside0 (Wb (w.heap.size + 1) (w.heap.size + 1) (Go.Lib.byteCells (encL T)) W) ∧ Aside0 (w.heap.size + 1 ≤ W.heap.size) ∧ Aside0 (W.heap[w.heap.size]? = some (.cells #[.int .i64 0, .string ⟨#[]⟩, .int .u64 0] 29 (0, 0))))
  case atStart =>
    have hW := wb_new (w.alloc (.cells #[.int .i64 0, .string ⟨#[]⟩, .int .u64 0] 29))
    have es : (w.alloc (.cells #[.int .i64 0, .string ⟨#[]⟩, .int .u64 0] 29)).heap.size = w.heap.size + 1 := by simp
    rw [es] at hW
    refine ⟨a + 1, [], ⟨by have := HA0.out; omega, Nat.le_refl _, HA0.out, ?_, by simp⟩, ⟨((HI0.out.alloc _).alloc _).set_1 _⟩, ⟨below_set (below_alloc (below_alloc HB0.out _) _) HGE.out⟩, ⟨(keep_alloc (keep_alloc (KeepBut.refl _ _ _) _) _).set_ _ _⟩, ⟨wb_far hW _ (by have := HGL.out; show g < _; omega) _⟩, ⟨by simp [World.setCell]⟩, ⟨blk_far (blk_alloc (by simpa using blk_new w _) _) (by have := HGL.out; simp; omega) _⟩⟩
    rw [textL_fuel (R.length - a) ((R.drop (a + 1)).length + 1) _ (by have := HA0.out; simp; omega) (by omega)]
    cases textL ((R.drop (a + 1)).length + 1) (R.drop (a + 1)) with
    | none => rfl
    | some p => rfl
  case round =>
    clear HI0 HB0 hc1 hfz hzz
    obtain ⟨a1, T, HA, HI, HB, HK, HWB, HS, HX⟩ := hrel
    rename World => W
    obtain ⟨h1, h2, h3, h4, h5⟩ := HA.out
    have hR := HR.out
    obtain ⟨A1, cc1, HGb1, hg1, _⟩ := HI.out
    have hc1 : W.cell? ⟨g, 1, none⟩ = some (.int .i64 (a1 : Int)) := cellS85_1 HGb1
    have hfz := blk_frozen HGb1 1
    clear HGb1 hg1
    obtain ⟨b, hb⟩ : ∃ b, ((R.drop a1)[0]? == some 34) = b := ⟨_, rfl⟩
    have HL := Aside0.mk (fun W' hI hB => lx_is0 g R a1 34 b w0 W' hI hB HR.out (by omega) hb)
    have h34 : ((R.drop a1).head? = some 34 ↔ b = true) := by rw [← hb, List.head?_eq_getElem?, beq_iff_eq]
    obtain ⟨k1, hk1⟩ : ∃ k1, gk = k1 + 1 := ⟨R.length - a1, by omega⟩
    rw [← h1] at hk1
    cases b
    · have hne34 : ¬ ((R.drop a1).head? = some 34) := fun e => by have := h34.1 e; cases this
      have HO' := Aside0.mk (fun n => lx_one g R a1 34 w0 (W.drewN n) (HI.out.drewN n) (pw_below_drewN HB.out n) hR h3 HW.out)
      cases ho : oneL 34 (R.drop a1) with
      | none =>
        have HN : Aside0 (textA (R.drop (a + 1)) = none) := ⟨by
          unfold textA
          rw [← h4, ← h1, hk1, textL, if_neg hne34, ho]
          rfl⟩
        have HO2 : Aside0 (oneL 34 (R.drop a1) = none) := ⟨ho⟩
        clear hb h34 h1 h2 h3 h4 h5 hR hk1 hne34 HA ho
        go_wp2_with (fail)
        refine (HL.out _ (by exact HI.out) (by exact HB.out)).mono ?_
        rintro e w' ⟨rfl, ⟨⟨nd, rfl⟩⟩⟩
        go_wp2_with (fail)
        refine (HO'.out nd).mono ?_
        rintro e W1 ⟨a2, ha2, hI1, hB1, hK1, hans⟩
        rw [HO2.out] at hans
        obtain ⟨x, rfl⟩ := hans
        have HX1 : Aside0 (W1.heap[w.heap.size]? = some (.cells #[.int .i64 0, .string ⟨#[]⟩, .int .u64 0] 29 (0, 0))) := ⟨(hK1.2 _ (blk_lt (blk_drewN HX.out nd)) (fun e => HNE.out.1 e.symm) (by simp)).trans (blk_drewN HX.out nd)⟩
        have HK1 := Aside0.mk ((keep_drewN HK.out nd).trans hK1 (Or.inl rfl))
        have HI1 := Aside0.mk hI1
        have HB1 := Aside0.mk hB1
        have HA1 := Aside0.mk ha2
        have hx0 : W1.cell? ⟨w.heap.size, 0, none⟩ = some (.int .i64 0) := (blk_cell HX1.out 0).trans rfl
        have hx1 : W1.cell? ⟨w.heap.size, 1, none⟩ = some (.string ⟨#[]⟩) := (blk_cell HX1.out 1).trans rfl
        have hx2 : W1.cell? ⟨w.heap.size, 2, none⟩ = some (.int .u64 0) := (blk_cell HX1.out 2).trans rfl
        have hf0 := blk_frozen HX1.out 0
        have hf1 := blk_frozen HX1.out 1
        have hf2 := blk_frozen HX1.out 2
        clear hK1 hI1 hB1 ha2
        go_wp2
        obtain ⟨q1, q2, q3, q4⟩ := tok_store (.int .i64 0) (.string ⟨#[]⟩) (.int .u64 0) (Nat.le_refl _) HNE.out.1 HNE.out.2 HX1.out HI1.out HB1.out HK1.out
        refine bodyPost_ret (res_tok rfl _ _ w.heap.size _ _ _ (.bool false) rfl q1 rfl) rfl ?_
        exact tokp_no HN.out HA1.out q2 q3 q4
      | some p =>
        obtain ⟨v, r⟩ := p
        have HO2 : Aside0 (oneL 34 (R.drop a1) = some (v, r)) := ⟨ho⟩
        have HV := Aside0.mk (oneL_bd ho (fun x hx => HW.out x (List.mem_of_mem_drop hx)))
        have hv32 : IntKind.i32.wrap v = v := i32_rune HV.out
        have HT : Aside0 (4 * T.length + 4 ≤ 140737488355328) := ⟨by omega⟩
        have HNX : Aside0 (∀ a2 : Nat, a2 ≤ R.length → R.drop a2 = r → a1 < a2 → a + 1 ≤ a2 ∧ a2 ≤ R.length ∧ cmb (T ++ [v]) (textL (R.length + 1 - a2) (R.drop a2)) = textL ((R.drop (a + 1)).length + 1) (R.drop (a + 1)) ∧ (T ++ [v]).length + (a + 1) ≤ a2) := ⟨fun a2 e1 e2 e3 => by
          refine ⟨by omega, e1, ?_, by simp; omega⟩
          rw [← h4, ← h1, hk1, textL, if_neg hne34, ho]
          simp only
          rw [e2, textL_fuel (R.length + 1 - a2) k1 r (by rw [← e2]; simp; omega) (by rw [← e2]; simp; omega)]
          cases textL k1 r with
          | none => rfl
          | some p => simp [cmb]⟩
        have HM : Aside0 (∀ a2 : Nat, a1 < a2 → R.length + 1 - a2 < gk) := ⟨fun a2 e3 => by omega⟩
        clear hb h34 h1 h2 h3 h4 h5 hR hk1 hne34 HA ho
        go_wp2_with (fail)
        refine (HL.out _ (by exact HI.out) (by exact HB.out)).mono ?_
        rintro e w' ⟨rfl, ⟨⟨nd, rfl⟩⟩⟩
        go_wp2_with (fail)
        refine (HO'.out nd).mono ?_
        rintro e W1 ⟨a2, ha2, hI1, hB1, hK1, hans⟩
        rw [HO2.out] at hans
        obtain ⟨rfl, hr, hlt⟩ := hans
        have HX1 : Aside0 (W1.heap[w.heap.size]? = some (.cells #[.int .i64 0, .string ⟨#[]⟩, .int .u64 0] 29 (0, 0))) := ⟨(hK1.2 _ (blk_lt (blk_drewN HX.out nd)) (fun e => HNE.out.1 e.symm) (by simp)).trans (blk_drewN HX.out nd)⟩
        have HWB1 : Aside0 (Wb (w.heap.size + 1) (w.heap.size + 1) (Go.Lib.byteCells (encL T)) W1) := ⟨wb_keep (W := W.drewN nd) (by exact HWB.out) hK1 (by have := HGL.out; omega)⟩
        have HS1 : Aside0 (w.heap.size + 1 ≤ W1.heap.size) := ⟨Nat.le_trans HS.out hK1.1⟩
        have HK1 := Aside0.mk ((keep_drewN HK.out nd).trans hK1 (Or.inl rfl))
        have HI1 := Aside0.mk hI1
        have HB1 := Aside0.mk hB1
        have HNX1 := Aside0.mk (HNX.out a2 ha2 hr hlt)
        have HM1 := Aside0.mk (HM.out a2 hlt)
        clear hK1 hI1 hB1 ha2 hr hlt HNX HM
        go_wp2_with (fail)
        refine (wb_rune (w.heap.size + 1) (w.heap.size + 1) (Go.Lib.byteCells (encL T)) v (by have := HV.out; omega) (by have := HV.out; omega) _ (by exact HWB1.out) (by have := cells_len T; have := HT.out; omega) (by exact HS1.out)).mono ?_
        rintro e W2 ⟨rfl, hW2, hB2, -⟩
        have HI2 := Aside0.mk (isr_below2 (B := w.heap.size + 1) HI1.out (by have := HGL.out; omega) hB2)
        have HB2 := Aside0.mk (HB1.out.trans (hB2.mono (by have := HNE.out.2; omega)))
        have HK2 := Aside0.mk (keep_below2 (B := w.heap.size + 1) HK1.out (by omega) hB2)
        have HX2 := Aside0.mk ((hB2.block _ (by omega)).trans HX1.out)
        have HS2 : Aside0 (w.heap.size + 1 ≤ W2.heap.size) := ⟨Nat.le_trans HS1.out hB2.size⟩
        have HWB2 : Aside0 (Wb (w.heap.size + 1) (w.heap.size + 1) (Go.Lib.byteCells (encL (T ++ [v]))) W2) := ⟨by rw [cells_snoc]; exact hW2⟩
        clear hW2 hB2
        go_wp2
        go_roundg (R.length + 1 - a2)
        case measure => exact HM1.out
        case rel => exact ⟨a2, T ++ [v], ⟨rfl, HNX1.out⟩, HI2, HB2, HK2, HWB2, HS2, HX2⟩
    · have hd34 : (R.drop a1).head? = some 34 := h34.2 rfl
      have HA2 : Aside0 (a1 + 1 ≤ R.length) := ⟨by
        rcases Nat.lt_or_ge a1 R.length with h | h
        · exact h
        · rw [List.drop_eq_nil_of_le h] at hd34; cases hd34⟩
      have HN : Aside0 (textA (R.drop (a + 1)) = some ((3, encL T, 0), R.drop (a1 + 1))) := ⟨by
        unfold textA
        rw [← h4, ← h1, hk1, textL, if_pos hd34, List.drop_drop]
        simp [cmb]⟩
      have hzz : IntKind.i64.wrap ((a1 : Int) + 1) = ((a1 + 1 : Nat) : Int) := (i64_w _).trans (by simp only [wrap64]; omega)
      clear hb h34 h1 h2 h3 h4 h5 hR hk1 hd34 HA
      go_wp2_with (fail)
      refine (HL.out _ (by exact HI.out) (by exact HB.out)).mono ?_
      rintro e w' ⟨rfl, ⟨⟨nd, rfl⟩⟩⟩
      go_wp2_with (fail)
      refine (wb_string_any (w.heap.size + 1) (w.heap.size + 1) _ _ (wb_far (by exact HWB.out) _ (by have := HGL.out; show g < _; omega) _) (by have := HS.out; simpa [World.setCell] using this)).mono ?_
      rintro e W1 ⟨rfl, hB1⟩
      have HX1 : Aside0 (W1.heap[w.heap.size]? = some (.cells #[.int .i64 0, .string ⟨#[]⟩, .int .u64 0] 29 (0, 0))) := ⟨(hB1.block _ (by omega)).trans (blk_far (blk_drewN HX.out nd) (p := ⟨g, 1, none⟩) (fun e => HNE.out.1 e.symm) _)⟩
      have HI1 := Aside0.mk (isr_below2 (B := w.heap.size + 1) ((HI.out.drewN nd).set_1 ((a1 + 1 : Nat) : Int)) (by have := HGL.out; omega) hB1)
      have HB1 := Aside0.mk ((below_set (pw_below_drewN HB.out nd) HGE.out).trans (hB1.mono (by have := HNE.out.2; omega)))
      have HK1 := Aside0.mk (keep_below2 (B := w.heap.size + 1) ((keep_drewN HK.out nd).set_ 1 (.int .i64 ((a1 + 1 : Nat) : Int))) (by omega) hB1)
      have hx0 : W1.cell? ⟨w.heap.size, 0, none⟩ = some (.int .i64 0) := (blk_cell HX1.out 0).trans rfl
      have hx1 : W1.cell? ⟨w.heap.size, 1, none⟩ = some (.string ⟨#[]⟩) := (blk_cell HX1.out 1).trans rfl
      have hx2 : W1.cell? ⟨w.heap.size, 2, none⟩ = some (.int .u64 0) := (blk_cell HX1.out 2).trans rfl
      have hf0 := blk_frozen HX1.out 0
      have hf1 := blk_frozen HX1.out 1
      have hf2 := blk_frozen HX1.out 2
      clear hB1
      go_wp2
      obtain ⟨q1, q2, q3, q4⟩ := tok_store (.int .i64 3) (.string ⟨(encL T).toArray⟩) (.int .u64 0) (Nat.le_refl _) HNE.out.1 HNE.out.2 HX1.out HI1.out HB1.out HK1.out
      refine bodyPost_ret (res_tok rfl _ _ w.heap.size _ _ _ (.bool true) rfl q1 rfl) rfl ?_
      exact tokp_yes HN.out rfl HA2.out q2 q3 q4
/-! ### is a rune one of the signs? -/
theorem indexByte_no : ∀ (l : List UInt8) (c : UInt8), (∀ b ∈ l, b ≠ c) → Go.Lib.indexByte l c = -1
  | [], _, _ => rfl
  | b :: l, c, h => by
    have h1 : (b == c) = false := beq_eq_false_iff_ne.2 (h b List.mem_cons_self)
    have h2 := indexByte_no l c (fun x hx => h x (List.mem_cons_of_mem _ hx))
    rw [Go.Lib.indexByte, h1, h2]
    rfl
theorem sign_no (k : Nat) (c : Int) (h0 : 128 ≤ c) (h1 : c < 256) : Go.Lib.indexByte ((⟨#[44, 91, 93, 35, 58, 61, 43, 45]⟩ : ByteArray).extract k 8).data.toList c.toNat.toUInt8 = -1 := by
  refine indexByte_no _ _ (fun b hb e => ?_)
  have hall : ∀ x ∈ (⟨#[44, 91, 93, 35, 58, 61, 43, 45]⟩ : ByteArray).data.toList, x.toNat < 128 := by decide
  have hmem : b ∈ (⟨#[44, 91, 93, 35, 58, 61, 43, 45]⟩ : ByteArray).data.toList := by
    rw [Go.Lib.extract_data] at hb
    exact List.mem_of_mem_drop (List.mem_of_mem_take hb)
  have h3 := hall b hmem
  have h4 : (c.toNat.toUInt8).toNat = c.toNat := by
    rw [show c.toNat.toUInt8 = UInt8.ofNat c.toNat from rfl, UInt8.toNat_ofNat']
    omega
  rw [e, h4] at h3
  omega
set_option maxHeartbeats 4000000 in
set_option maxRecDepth 100000 in
theorem lx_index_hi (r : Int) (w : World) (h0 : 128 ≤ r) (h1 : r ≤ 1114111) (hne : r ≠ 65533) :
    Calls Tryd.prog 66 #[.string ⟨#[44, 91, 93, 35, 58, 61, 43, 45]⟩, .int .i32 r] w fun e w' => e = .returned (.int .i64 (-1)) ∧ ∃ n, w' = w.drewN n := by
  have c1 : decide (r < 128) = false := decide_eq_false (by omega)
  have c0 : decide (0 ≤ r) = true := decide_eq_true (by omega)
  have c2 : (r == 65533) = false := beq_eq_false_iff_ne.2 hne
  obtain ⟨vb, hvb⟩ : ∃ vb, Go.Lib.validRune r = vb := ⟨_, rfl⟩
  have HVR := Aside0.mk (fun w => (Tryd.utf8_ValidRune r w))
  rw [hvb] at HVR
  cases vb
  · clear h0 h1 hne hvb
    go_enter Tryd.func66, Tryd.ntmps66
    go_wp2_with (fail)
    refine (HVR.out _).mono ?_
    rintro e w' ⟨rfl, rfl⟩
    go_wp2
    go_ret
    exact ⟨rfl, 0, rfl⟩
  · have hval : Utf8.valid r = true := by
      unfold Go.Lib.validRune at hvb
      have := of_decide_eq_true hvb
      unfold Utf8.valid
      rcases this with ⟨a, b⟩ | ⟨a, b⟩
      · rw [decide_eq_true a, decide_eq_true b]; rfl
      · rw [Bool.or_eq_true]
        right
        rw [Bool.and_eq_true, decide_eq_true_eq, decide_eq_true_eq]
        omega
    obtain ⟨f1, f2, f3⟩ := encode_facts r hval h0
    obtain ⟨S, hS⟩ : ∃ S, Utf8.encode r = S := ⟨_, rfl⟩
    rw [hS] at f1 f2
    have hlast : ∃ c : Int, 128 ≤ c ∧ c < 256 ∧ ∀ h : S.size - 1 < S.size, ((S[S.size - 1]'h).toNat : Int) = c := by
      subst hS
      exact ⟨(((Utf8.encode r)[(Utf8.encode r).size - 1]'(by omega)).toNat : Int), by have := f3 (by omega); omega, by have := UInt8.toNat_lt ((Utf8.encode r)[(Utf8.encode r).size - 1]'(by omega)); omega, fun h => rfl⟩
    obtain ⟨c, hc0, hc1, hc⟩ := hlast
    have hcv : ∀ W, (convert 21 9 (.int .i32 r)).run Tryd.prog W = .ok (.string S) W := fun W => by rw [run_convert_int_string W _ _ _ _ (by kernel_rfl) Tryd.underlying9, hS]
    have hix : ∀ W (k : Nat), k + 1 = S.size → (Instr.index 9 (.string S) (.int .i64 (k : Int))).run Tryd.prog W = .ok (.int .u8 c) W := fun W k hk => by
      rw [run_index_string W 9 S .i64 _ Tryd.underlying9, dif_pos ⟨by omega, by omega⟩]
      have e : ((k : Int)).toNat = S.size - 1 := by omega
      simp only [e]
      rw [hc (by omega)]
    have n1 : (((((⟨#[44, 91, 93, 35, 58, 61, 43, 45]⟩ : ByteArray)[1]'(by decide)).toNat : Int)) != c) = true := bne_iff_ne.2 (by show (91 : Int) ≠ c; omega)
    have n2 : (((((⟨#[44, 91, 93, 35, 58, 61, 43, 45]⟩ : ByteArray)[2]'(by decide)).toNat : Int)) != c) = true := bne_iff_ne.2 (by show (93 : Int) ≠ c; omega)
    have n3 : (((((⟨#[44, 91, 93, 35, 58, 61, 43, 45]⟩ : ByteArray)[3]'(by decide)).toNat : Int)) != c) = true := bne_iff_ne.2 (by show (35 : Int) ≠ c; omega)
    have HSG := Aside0.mk (fun k => sign_no k c hc0 hc1)
    have IB : Aside0 (∀ (k : Nat) (W : World), Calls Tryd.prog 75 #[.string ((⟨#[44, 91, 93, 35, 58, 61, 43, 45]⟩ : ByteArray).extract k 8), .int .u8 c] W fun e w' => e = .returned (.int .i64 (-1)) ∧ Drawn0 W w') := ⟨fun k W => (Tryd.strings_IndexByte ((⟨#[44, 91, 93, 35, 58, 61, 43, 45]⟩ : ByteArray).extract k 8) c W).mono fun e w' ⟨he, hw⟩ => ⟨by rw [he, sign_no k c hc0 hc1], by rw [hw]; exact Drawn0.refl _⟩⟩
    have hsz : S.size = 2 ∨ S.size = 3 ∨ S.size = 4 := by omega
    clear hS f1 f2 f3 hc hval hvb h0 h1 hne
    rcases hsz with hsz | hsz | hsz
    · have hx : ∀ W, (Instr.index 9 (.string S) (.int .i64 1)).run Tryd.prog W = .ok (.int .u8 c) W := fun W => hix W 1 (by omega)
      have HS := Aside0.mk hix
      clear hix
      go_enter Tryd.func66, Tryd.ntmps66
      go_wp2_with (fail)
      refine (HVR.out _).mono ?_
      rintro e w' ⟨rfl, rfl⟩
      go_wp2_with (fail)
      first | refine wp_scope_jumps 1 (fun _ _ => False) (fun _ _ => 0) rfl ?_ ?_ | refine wp_scope_jumps 2 (fun _ _ => False) (fun _ _ => 0) rfl ?_ ?_ | refine wp_scope_jumps 3 (fun _ _ => False) (fun _ _ => 0) rfl ?_ ?_ | refine wp_scope_jumps 4 (fun _ _ => False) (fun _ _ => 0) rfl ?_ ?_
      rotate_left
      · intro _ _ h; exact h.elim
      · go_wp2
        refine wp_loop_rounds 1 ?_
        rw [rounds_succ]
        go_wp2
        first | refine wp_scope_jumps 0 (fun _ _ => False) (fun _ _ => 0) rfl ?_ ?_ | refine wp_scope_jumps 1 (fun _ _ => False) (fun _ _ => 0) rfl ?_ ?_ | refine wp_scope_jumps 2 (fun _ _ => False) (fun _ _ => 0) rfl ?_ ?_ | refine wp_scope_jumps 3 (fun _ _ => False) (fun _ _ => 0) rfl ?_ ?_ | refine wp_scope_jumps 4 (fun _ _ => False) (fun _ _ => 0) rfl ?_ ?_
        rotate_left
        · intro _ _ h; exact h.elim
        · go_wp2
          go_quiet (fail)
          go_wp2
          go_quiet ((go_at_call 75; first | exact q_add (IB.out _ _) | exact q_of (IB.out _ _)))
          go_wp2
          simp only [Exit.jump]
          go_wp2
          simp only [Exit.jump]
          go_ret
          exact ⟨rfl, _, rfl⟩
    · have hx : ∀ W, (Instr.index 9 (.string S) (.int .i64 2)).run Tryd.prog W = .ok (.int .u8 c) W := fun W => hix W 2 (by omega)
      have HS := Aside0.mk hix
      clear hix
      go_enter Tryd.func66, Tryd.ntmps66
      go_wp2_with (fail)
      refine (HVR.out _).mono ?_
      rintro e w' ⟨rfl, rfl⟩
      go_wp2_with (fail)
      first | refine wp_scope_jumps 1 (fun _ _ => False) (fun _ _ => 0) rfl ?_ ?_ | refine wp_scope_jumps 2 (fun _ _ => False) (fun _ _ => 0) rfl ?_ ?_ | refine wp_scope_jumps 3 (fun _ _ => False) (fun _ _ => 0) rfl ?_ ?_ | refine wp_scope_jumps 4 (fun _ _ => False) (fun _ _ => 0) rfl ?_ ?_
      rotate_left
      · intro _ _ h; exact h.elim
      · go_wp2
        refine wp_loop_rounds 1 ?_
        rw [rounds_succ]
        go_wp2
        first | refine wp_scope_jumps 0 (fun _ _ => False) (fun _ _ => 0) rfl ?_ ?_ | refine wp_scope_jumps 1 (fun _ _ => False) (fun _ _ => 0) rfl ?_ ?_ | refine wp_scope_jumps 2 (fun _ _ => False) (fun _ _ => 0) rfl ?_ ?_ | refine wp_scope_jumps 3 (fun _ _ => False) (fun _ _ => 0) rfl ?_ ?_ | refine wp_scope_jumps 4 (fun _ _ => False) (fun _ _ => 0) rfl ?_ ?_
        rotate_left
        · intro _ _ h; exact h.elim
        · go_wp2
          go_quiet (fail)
          go_wp2
          go_quiet ((go_at_call 75; first | exact q_add (IB.out _ _) | exact q_of (IB.out _ _)))
          go_wp2
          simp only [Exit.jump]
          go_wp2
          simp only [Exit.jump]
          go_ret
          exact ⟨rfl, _, rfl⟩
    · have hx : ∀ W, (Instr.index 9 (.string S) (.int .i64 3)).run Tryd.prog W = .ok (.int .u8 c) W := fun W => hix W 3 (by omega)
      have HS := Aside0.mk hix
      clear hix
      go_enter Tryd.func66, Tryd.ntmps66
      go_wp2_with (fail)
      refine (HVR.out _).mono ?_
      rintro e w' ⟨rfl, rfl⟩
      go_wp2_with (fail)
      first | refine wp_scope_jumps 1 (fun _ _ => False) (fun _ _ => 0) rfl ?_ ?_ | refine wp_scope_jumps 2 (fun _ _ => False) (fun _ _ => 0) rfl ?_ ?_ | refine wp_scope_jumps 3 (fun _ _ => False) (fun _ _ => 0) rfl ?_ ?_ | refine wp_scope_jumps 4 (fun _ _ => False) (fun _ _ => 0) rfl ?_ ?_
      rotate_left
      · intro _ _ h; exact h.elim
      · go_wp2
        refine wp_loop_rounds 1 ?_
        rw [rounds_succ]
        go_wp2
        first | refine wp_scope_jumps 0 (fun _ _ => False) (fun _ _ => 0) rfl ?_ ?_ | refine wp_scope_jumps 1 (fun _ _ => False) (fun _ _ => 0) rfl ?_ ?_ | refine wp_scope_jumps 2 (fun _ _ => False) (fun _ _ => 0) rfl ?_ ?_ | refine wp_scope_jumps 3 (fun _ _ => False) (fun _ _ => 0) rfl ?_ ?_ | refine wp_scope_jumps 4 (fun _ _ => False) (fun _ _ => 0) rfl ?_ ?_
        rotate_left
        · intro _ _ h; exact h.elim
        · go_wp2
          go_quiet (fail)
          go_wp2
          go_quiet ((go_at_call 75; first | exact q_add (IB.out _ _) | exact q_of (IB.out _ _)))
          go_wp2
          simp only [Exit.jump]
          go_wp2
          simp only [Exit.jump]
          go_ret
          exact ⟨rfl, _, rfl⟩
theorem sign_asc (pos : Nat) (hp : pos < (⟨#[44, 91, 93, 35, 58, 61, 43, 45]⟩ : ByteArray).size) : ((⟨#[44, 91, 93, 35, 58, 61, 43, 45]⟩ : ByteArray)[pos]'hp).toNat < 128 := by
  have h8 : pos < 8 := hp
  have : ∀ p : Fin 8, ((⟨#[44, 91, 93, 35, 58, 61, 43, 45]⟩ : ByteArray)[p.val]'p.isLt).toNat < 128 := by decide
  exact this ⟨pos, h8⟩
set_option maxHeartbeats 4000000 in
set_option maxRecDepth 100000 in
theorem lx_index_err (w : World) :
    Calls Tryd.prog 66 #[.string ⟨#[44, 91, 93, 35, 58, 61, 43, 45]⟩, .int .i32 65533] w fun e w' => e = .returned (.int .i64 (-1)) ∧ Below w.heap.size w w' := by
  go_enter Tryd.func66, Tryd.ntmps66
  go_wp2
  go_loopw [176] (fun _ wr => ∃ pos : Nat, pos ≤ 8 ∧ Aside0 (wr.heap[w.heap.size]? = some (.stringIter ⟨#[44, 91, 93, 35, 58, 61, 43, 45]⟩ pos)) ∧ Aside0 (Below w.heap.size w wr)) (fun _ wr => 8 - wr.iterPos w.heap.size)
  case atStart => exact ⟨0, by omega, ⟨World.iter_heap w _ 0⟩, ⟨below_alloc (Below.refl _ _) _⟩⟩
  case round =>
    obtain ⟨pos, hle, HI, HB⟩ := hrel
    by_cases hp : pos < (⟨#[44, 91, 93, 35, 58, 61, 43, 45]⟩ : ByteArray).size
    · have hp8 : pos < 8 := hp
      have hnx : ∀ ty, (Instr.next (.pointer (some ⟨w.heap.size, 0, none⟩)) true ty).run Tryd.prog wr = _ := fun ty => Go.Lib.run_next_ascii_at wr w.heap.size ⟨#[44, 91, 93, 35, 58, 61, 43, 45]⟩ pos ty HI.out hp (sign_asc pos hp)
      have HI2 := Aside0.mk (Go.Lib.iterAt_heap wr w.heap.size ⟨#[44, 91, 93, 35, 58, 61, 43, 45]⟩ pos (pos + 1) HI.out)
      have HB2 := Aside0.mk (Go.Lib.below_iterAt HB.out (Nat.le_refl _) ⟨#[44, 91, 93, 35, 58, 61, 43, 45]⟩ (pos + 1))
      have HIP : Aside0 (wr.iterPos w.heap.size = pos) := ⟨by unfold World.iterPos; rw [HI.out]⟩
      have hv := sign_asc pos hp
      generalize ((⟨#[44, 91, 93, 35, 58, 61, 43, 45]⟩ : ByteArray)[pos]'hp).toNat = v at *
      have c2 : ((v : Int) == 65533) = false := beq_eq_false_iff_ne.2 (by omega)
      have HP := Aside0.mk hp8
      clear hp hp8 HI HB hv hle
      generalize hwx : wr.iterAt w.heap.size ⟨#[44, 91, 93, 35, 58, 61, 43, 45]⟩ (pos + 1) = wx at *
      clear hwx
      go_wp2
      refine ⟨⟨pos + 1, HP.out, HI2, HB2⟩, ?_⟩
      rw [HIP.out]
      unfold World.iterPos
      rw [HI2.out]
      have := HP.out
      show 8 - (pos + 1) < 8 - pos
      omega
    · have hnx : ∀ ty, (Instr.next (.pointer (some ⟨w.heap.size, 0, none⟩)) true ty).run Tryd.prog wr = _ := fun ty => Go.Lib.run_next_end_at wr w.heap.size ⟨#[44, 91, 93, 35, 58, 61, 43, 45]⟩ pos ty HI.out hp
      clear HI hp hle
      go_wp2
      go_ret
      exact ⟨rfl, HB.out⟩
theorem sign_at : ∀ n : Nat, n < 128 → decide (0 ≤ Go.Lib.indexByte (⟨#[44, 91, 93, 35, 58, 61, 43, 45]⟩ : ByteArray).data.toList (n : Int).toNat.toUInt8) = isSign (n : Int) := by decide +kernel
set_option maxHeartbeats 4000000 in
set_option maxRecDepth 100000 in
theorem lx_contains (r : Int) (w : World) (h0 : 0 ≤ r) (h1 : r ≤ 1114111) :
    Calls Tryd.prog 57 #[.string ⟨#[44, 91, 93, 35, 58, 61, 43, 45]⟩, .int .i32 r] w fun e w' => e = .returned (.bool (isSign r)) ∧ Below w.heap.size w w' := by
  by_cases h : r < 128
  · refine (Tryd.strings_ContainsRune_ascii _ r w h0 h).mono ?_
    rintro e w' ⟨rfl, rfl⟩
    obtain ⟨n, rfl⟩ := Int.eq_ofNat_of_zero_le h0
    exact ⟨by rw [← sign_at n (by omega)], Below.refl _ _⟩
  · have hs : isSign r = false := by
      unfold isSign
      rw [List.contains_eq_any_beq]
      simp
      omega
    rw [hs]
    have HC : Aside0 (∀ W : World, Calls Tryd.prog 66 #[.string ⟨#[44, 91, 93, 35, 58, 61, 43, 45]⟩, .int .i32 r] W fun e w' => e = .returned (.int .i64 (-1)) ∧ Below W.heap.size W w') := ⟨fun W => by
      by_cases he : r = 65533
      · subst he; exact lx_index_err W
      · exact (lx_index_hi r W (by omega) h1 he).mono fun e w' ⟨a, n, b⟩ => ⟨a, by rw [b]; exact pw_below_drewN (Below.refl _ _) n⟩⟩
    clear h h0 h1 hs
    go_enter Tryd.func57, Tryd.ntmps57
    go_wp2_with (fail)
    refine (HC.out _).mono ?_
    rintro e w' ⟨rfl, hb⟩
    have HB := Aside0.mk hb
    clear hb
    go_wp2
    go_ret
    exact ⟨rfl, HB.out⟩
theorem enc_asc : ∀ n : Nat, n < 128 → Utf8.encode (n : Int) = ⟨(Go.Lib.encodeRune (n : Int)).toArray⟩ := by decide +kernel
theorem isSign_asc {r : Int} (h : isSign r = true) : 0 ≤ r ∧ r < 128 := by
  unfold isSign at h
  simp at h
  omega
set_option maxHeartbeats 8000000 in
set_option maxRecDepth 100000 in
theorem lx_token (g : Nat) (R : List Int) (a : Nat) (w0 w : World) (hI : IsS85 w0 w g R a) (hB : Below w0.heap.size w0 w) (hR : R.length ≤ 1000) (ha : a < R.length) (hwf : ∀ x ∈ R, 0 ≤ x ∧ x ≤ 1114111) :
    Calls Tryd.prog 45 #[.pointer (some ⟨g, 0, none⟩)] w fun e w' => TokP w0 g R (tokL (R.drop a)) w e w' := by
  have HGL := Aside0.mk hI.lt
  have HGE := Aside0.mk hI.ge
  have HNE : Aside0 (g ≠ w.heap.size ∧ w0.heap.size ≤ w.heap.size) := ⟨by have := HGL.out; omega, by have := HGE.out; have := HGL.out; omega⟩
  have HI0 := Aside0.mk hI
  have HB0 := Aside0.mk hB
  obtain ⟨A0, c0, HGb, hg, HRW⟩ := hI
  have hc0 : (w.alloc (.cells #[.int .i64 0, .string ⟨#[]⟩, .int .u64 0] 29)).cell? ⟨g, 0, none⟩ = some (.slice A0 R.length c0) := cellS85_0 (blk_alloc HGb _)
  have hc1 : (w.alloc (.cells #[.int .i64 0, .string ⟨#[]⟩, .int .u64 0] 29)).cell? ⟨g, 1, none⟩ = some (.int .i64 (a : Int)) := cellS85_1 (blk_alloc HGb _)
  have hfz := blk_frozen (blk_alloc HGb (.cells #[.int .i64 0, .string ⟨#[]⟩, .int .u64 0] 29)) 1
  obtain ⟨z, hz⟩ : ∃ z : Int, (a : Int) = z := ⟨_, rfl⟩
  rw [hz] at hc1
  have p : (0 : Int) ≤ z := by omega
  have q : z < (R.length : Int) := by omega
  obtain ⟨ad, e, hx0⟩ := Kd.at_int HRW z p q
  cases e
  have hx := pw_cell_below (below_alloc hB (.cells #[.int .i64 0, .string ⟨#[]⟩, .int .u64 0] 29)) hx0
  clear hx0
  replace p := eq_true p
  replace q := eq_true q
  have hd := drop_at R a ha
  rw [hz] at hd
  have hwf1 := hwf (rd R z) (by have := List.getElem_mem ha; rw [← hz]; show R.getD a 0 ∈ R; rw [List.getD_eq_getElem?_getD, List.getElem?_eq_getElem ha]; exact this)
  generalize hv : rd R z = v at *
  have HV := Aside0.mk hwf1
  have HR := Aside0.mk hR
  have HW := Aside0.mk hwf
  have HA0 := Aside0.mk ha
  have HD := Aside0.mk hd
  have hne1 : (w.heap.size = g) = False := eq_false (fun e => HNE.out.1 e.symm)
  have hne2 : (g = w.heap.size) = False := eq_false HNE.out.1
  have HT : Aside0 (tokL (R.drop a) = tokL (v :: R.drop (a + 1))) := ⟨by rw [hd]⟩
  have HV0 : Aside0 (∀ n, IsS85 w0 ((w.alloc (.cells #[.int .i64 0, .string ⟨#[]⟩, .int .u64 0] 29)).drewN n) g R a ∧ Below w0.heap.size w0 ((w.alloc (.cells #[.int .i64 0, .string ⟨#[]⟩, .int .u64 0] 29)).drewN n) ∧ KeepBut w ((w.alloc (.cells #[.int .i64 0, .string ⟨#[]⟩, .int .u64 0] 29)).drewN n) g none ∧ ((w.alloc (.cells #[.int .i64 0, .string ⟨#[]⟩, .int .u64 0] 29)).drewN n).heap[w.heap.size]? = some (.cells #[.int .i64 0, .string ⟨#[]⟩, .int .u64 0] 29 (0, 0))) :=
    ⟨fun n => ⟨(HI0.out.alloc _).drewN n, pw_below_drewN (below_alloc HB0.out _) n, keep_drewN (keep_alloc (KeepBut.refl _ _ _) _) n, blk_drewN (by simpa using blk_new w _) n⟩⟩
  have HLT := Aside0.mk (letter_f v)
  have HDG := Aside0.mk (digit_fx v)
  clear hB HGb hg HRW hwf hR hz hd hv hwf1 HI0 HB0
  cases hl : isLet v
  · cases hg2 : isDig v
    · by_cases h34 : v = 34
      · subst h34
        rw [hl] at HLT
        rw [hg2] at HDG
        go_enter Tryd.func45, Tryd.ntmps45
        go_wp2
        go_quiet (fail)
        go_wp2_with (fail)
        refine (lex_letter.calls 3 34 false _ HLT.out).mono ?_
        rintro e w' ⟨rfl, ⟨⟨nd, rfl⟩⟩⟩
        go_wp2_with (fail)
        refine (lex_digit.calls 34 false _ HDG.out).mono ?_
        rintro e w' ⟨rfl, ⟨⟨nd2, rfl⟩⟩⟩
        go_wp2_with (fail)
        refine (lx_text g R a w0 _ (by exact (HV0.out _).1) (by exact (HV0.out _).2.1) HR.out HA0.out HW.out).mono ?_
        rintro e W1 ⟨a1, ha1, hI1, hB1, hK1, hans⟩
        have HX1 : Aside0 (W1.heap[w.heap.size]? = some (.cells #[.int .i64 0, .string ⟨#[]⟩, .int .u64 0] 29 (0, 0))) := ⟨(hK1.2 _ (blk_lt (HV0.out _).2.2.2) (fun e => HNE.out.1 e.symm) (by simp)).trans (HV0.out _).2.2.2⟩
        have HK1 := Aside0.mk ((HV0.out _).2.2.1.trans hK1 (Or.inl rfl))
        have HI1 := Aside0.mk hI1
        have HB1 := Aside0.mk hB1
        have HA1 := Aside0.mk ha1
        have hx0 : W1.cell? ⟨w.heap.size, 0, none⟩ = some (.int .i64 0) := (blk_cell HX1.out 0).trans rfl
        have hx1 : W1.cell? ⟨w.heap.size, 1, none⟩ = some (.string ⟨#[]⟩) := (blk_cell HX1.out 1).trans rfl
        have hx2 : W1.cell? ⟨w.heap.size, 2, none⟩ = some (.int .u64 0) := (blk_cell HX1.out 2).trans rfl
        have hf0 := blk_frozen HX1.out 0
        have hf1 := blk_frozen HX1.out 1
        have hf2 := blk_frozen HX1.out 2
        clear hK1 hI1 hB1 ha1 hc0 hc1 hfz hx
        have HN : Aside0 (tokL (R.drop a) = textA (R.drop (a + 1))) := ⟨by rw [HT.out, tokL_cons, if_neg (by decide), if_neg (by decide), if_pos rfl]; rfl⟩
        cases ho : textA (R.drop (a + 1)) with
        | none =>
          rw [ho] at hans
          obtain ⟨k, s, x, rfl⟩ := hans
          have HN2 : Aside0 (tokL (R.drop a) = none) := ⟨HN.out.trans ho⟩
          clear ho
          go_wp2
          obtain ⟨q1, q2, q3, q4⟩ := tok_store (.int .i64 k) (.string s) (.int .u64 x) (Nat.le_refl _) HNE.out.1 HNE.out.2 HX1.out HI1.out HB1.out HK1.out
          refine bodyPost_ret (res_tok rfl _ _ w.heap.size _ _ _ (.bool false) rfl q1 rfl) rfl ?_
          exact tokp_no HN2.out HA1.out q2 q3 q4
        | some pp =>
          obtain ⟨⟨k, s, x⟩, r⟩ := pp
          rw [ho] at hans
          obtain ⟨rfl, hr⟩ := hans
          have HN2 : Aside0 (tokL (R.drop a) = some ((k, s, x), R.drop a1)) := ⟨by rw [HN.out, ho, hr]⟩
          clear ho hr
          go_wp2
          obtain ⟨q1, q2, q3, q4⟩ := tok_store (.int .i64 k) (.string ⟨s.toArray⟩) (.int .u64 x) (Nat.le_refl _) HNE.out.1 HNE.out.2 HX1.out HI1.out HB1.out HK1.out
          refine bodyPost_ret (res_tok rfl _ _ w.heap.size _ _ _ (.bool true) rfl q1 rfl) rfl ?_
          exact tokp_yes HN2.out rfl HA1.out q2 q3 q4
      · by_cases h39 : v = 39
        · subst h39
          rw [hl] at HLT
          rw [hg2] at HDG
          go_enter Tryd.func45, Tryd.ntmps45
          go_wp2
          go_quiet (fail)
          go_wp2_with (fail)
          refine (lex_letter.calls 3 39 false _ HLT.out).mono ?_
          rintro e w' ⟨rfl, ⟨⟨nd, rfl⟩⟩⟩
          go_wp2_with (fail)
          refine (lex_digit.calls 39 false _ HDG.out).mono ?_
          rintro e w' ⟨rfl, ⟨⟨nd2, rfl⟩⟩⟩
          go_wp2_with (fail)
          refine (lx_char g R a w0 _ (by exact (HV0.out _).1) (by exact (HV0.out _).2.1) HR.out HA0.out HW.out).mono ?_
          rintro e W1 ⟨a1, ha1, hI1, hB1, hK1, hans⟩
          have HX1 : Aside0 (W1.heap[w.heap.size]? = some (.cells #[.int .i64 0, .string ⟨#[]⟩, .int .u64 0] 29 (0, 0))) := ⟨(hK1.2 _ (blk_lt (HV0.out _).2.2.2) (fun e => HNE.out.1 e.symm) (by simp)).trans (HV0.out _).2.2.2⟩
          have HK1 := Aside0.mk ((HV0.out _).2.2.1.trans hK1 (Or.inl rfl))
          have HI1 := Aside0.mk hI1
          have HB1 := Aside0.mk hB1
          have HA1 := Aside0.mk ha1
          have hx0 : W1.cell? ⟨w.heap.size, 0, none⟩ = some (.int .i64 0) := (blk_cell HX1.out 0).trans rfl
          have hx1 : W1.cell? ⟨w.heap.size, 1, none⟩ = some (.string ⟨#[]⟩) := (blk_cell HX1.out 1).trans rfl
          have hx2 : W1.cell? ⟨w.heap.size, 2, none⟩ = some (.int .u64 0) := (blk_cell HX1.out 2).trans rfl
          have hf0 := blk_frozen HX1.out 0
          have hf1 := blk_frozen HX1.out 1
          have hf2 := blk_frozen HX1.out 2
          clear hK1 hI1 hB1 ha1 hc0 hc1 hfz hx
          have HN : Aside0 (tokL (R.drop a) = charA (R.drop (a + 1))) := ⟨by rw [HT.out, tokL_cons, if_neg (by decide), if_neg (by decide), if_neg (by decide), if_pos rfl]; rfl⟩
          cases ho : charA (R.drop (a + 1)) with
          | none =>
            rw [ho] at hans
            obtain ⟨k, s, x, rfl⟩ := hans
            have HN2 : Aside0 (tokL (R.drop a) = none) := ⟨HN.out.trans ho⟩
            clear ho
            go_wp2
            obtain ⟨q1, q2, q3, q4⟩ := tok_store (.int .i64 k) (.string s) (.int .u64 x) (Nat.le_refl _) HNE.out.1 HNE.out.2 HX1.out HI1.out HB1.out HK1.out
            refine bodyPost_ret (res_tok rfl _ _ w.heap.size _ _ _ (.bool false) rfl q1 rfl) rfl ?_
            exact tokp_no HN2.out HA1.out q2 q3 q4
          | some pp =>
            obtain ⟨⟨k, s, x⟩, r⟩ := pp
            rw [ho] at hans
            obtain ⟨rfl, hr⟩ := hans
            have HN2 : Aside0 (tokL (R.drop a) = some ((k, s, x), R.drop a1)) := ⟨by rw [HN.out, ho, hr]⟩
            clear ho hr
            go_wp2
            obtain ⟨q1, q2, q3, q4⟩ := tok_store (.int .i64 k) (.string ⟨s.toArray⟩) (.int .u64 x) (Nat.le_refl _) HNE.out.1 HNE.out.2 HX1.out HI1.out HB1.out HK1.out
            refine bodyPost_ret (res_tok rfl _ _ w.heap.size _ _ _ (.bool true) rfl q1 rfl) rfl ?_
            exact tokp_yes HN2.out rfl HA1.out q2 q3 q4
        · have n34 : (v == 34) = false := beq_eq_false_iff_ne.2 h34
          have n39 : (v == 39) = false := beq_eq_false_iff_ne.2 h39
          have hv32 : IntKind.i32.wrap v = v := i32_rune HV.out
          have HC := Aside0.mk (fun W => lx_contains v W HV.out.1 HV.out.2)
          cases hs : isSign v
          · rw [hs] at HC
            rw [hl] at HLT
            rw [hg2] at HDG
            have HN : Aside0 (tokL (R.drop a) = none) := ⟨by rw [HT.out, tokL_cons, hl, hg2, hs, if_neg (by decide), if_neg (by decide), if_neg h34, if_neg h39, if_neg (by decide)]⟩
            clear hl hg2 hs h34 h39
            go_enter Tryd.func45, Tryd.ntmps45
            go_wp2
            go_quiet (fail)
            go_wp2_with (fail)
            refine (lex_letter.calls 3 v false _ HLT.out).mono ?_
            rintro e w' ⟨rfl, ⟨⟨nd, rfl⟩⟩⟩
            go_wp2_with (fail)
            refine (lex_digit.calls v false _ HDG.out).mono ?_
            rintro e w' ⟨rfl, ⟨⟨nd2, rfl⟩⟩⟩
            go_wp2_with (fail)
            refine (HC.out _).mono ?_
            rintro e W1 ⟨rfl, hbb⟩
            have hK1 := KeepBut.of_below hbb g none
            have hI1 := (HV0.out _).1.below hbb
            have hB1 := below_then (w := w) (HV0.out _).2.1 HNE.out.2 (hbb.mono (by simp))
            have ha1 : a ≤ R.length := Nat.le_of_lt HA0.out
            clear hbb
            have HX1 : Aside0 (W1.heap[w.heap.size]? = some (.cells #[.int .i64 0, .string ⟨#[]⟩, .int .u64 0] 29 (0, 0))) := ⟨(hK1.2 _ (blk_lt (HV0.out _).2.2.2) (fun e => HNE.out.1 e.symm) (by simp)).trans (HV0.out _).2.2.2⟩
            have HK1 := Aside0.mk ((HV0.out _).2.2.1.trans hK1 (Or.inl rfl))
            have HI1 := Aside0.mk hI1
            have HB1 := Aside0.mk hB1
            have HA1 := Aside0.mk ha1
            have hx0 : W1.cell? ⟨w.heap.size, 0, none⟩ = some (.int .i64 0) := (blk_cell HX1.out 0).trans rfl
            have hx1 : W1.cell? ⟨w.heap.size, 1, none⟩ = some (.string ⟨#[]⟩) := (blk_cell HX1.out 1).trans rfl
            have hx2 : W1.cell? ⟨w.heap.size, 2, none⟩ = some (.int .u64 0) := (blk_cell HX1.out 2).trans rfl
            have hf0 := blk_frozen HX1.out 0
            have hf1 := blk_frozen HX1.out 1
            have hf2 := blk_frozen HX1.out 2
            clear hK1 hI1 hB1 ha1 hc0 hc1 hfz hx
            go_wp2
            obtain ⟨q1, q2, q3, q4⟩ := tok_store (.int .i64 0) (.string ⟨#[]⟩) (.int .u64 0) (Nat.le_refl _) HNE.out.1 HNE.out.2 HX1.out HI1.out HB1.out HK1.out
            refine bodyPost_ret (res_tok rfl _ _ w.heap.size _ _ _ (.bool false) rfl q1 rfl) rfl ?_
            exact tokp_no HN.out HA1.out q2 q3 q4
          · rw [hs] at HC
            rw [hl] at HLT
            rw [hg2] at HDG
            have HN : Aside0 (tokL (R.drop a) = some ((4, Go.Lib.encodeRune v, 0), R.drop (a + 1))) := ⟨by rw [HT.out, tokL_cons, hl, hg2, hs, if_neg (by decide), if_neg (by decide), if_neg h34, if_neg h39, if_pos rfl]⟩
            have hcv : ∀ W, (convert 21 9 (.int .i32 v)).run Tryd.prog W = .ok (.string ⟨(Go.Lib.encodeRune v).toArray⟩) W := fun W => by
              have hb := isSign_asc hs
              obtain ⟨n, rfl⟩ := Int.eq_ofNat_of_zero_le hb.1
              rw [run_convert_int_string W _ _ _ _ (by kernel_rfl) Tryd.underlying9, enc_asc n (by omega)]
            clear hl hg2 hs h34 h39
            go_enter Tryd.func45, Tryd.ntmps45
            go_wp2
            go_quiet (fail)
            go_wp2_with (fail)
            refine (lex_letter.calls 3 v false _ HLT.out).mono ?_
            rintro e w' ⟨rfl, ⟨⟨nd, rfl⟩⟩⟩
            go_wp2_with (fail)
            refine (lex_digit.calls v false _ HDG.out).mono ?_
            rintro e w' ⟨rfl, ⟨⟨nd2, rfl⟩⟩⟩
            go_wp2_with (fail)
            refine (HC.out _).mono ?_
            rintro e W1 ⟨rfl, hbb⟩
            have hK1 := KeepBut.of_below hbb g none
            have hI1 := (HV0.out _).1.below hbb
            have hB1 := below_then (w := w) (HV0.out _).2.1 HNE.out.2 (hbb.mono (by simp))
            have ha1 : a ≤ R.length := Nat.le_of_lt HA0.out
            clear hbb
            have HX1 : Aside0 (W1.heap[w.heap.size]? = some (.cells #[.int .i64 0, .string ⟨#[]⟩, .int .u64 0] 29 (0, 0))) := ⟨(hK1.2 _ (blk_lt (HV0.out _).2.2.2) (fun e => HNE.out.1 e.symm) (by simp)).trans (HV0.out _).2.2.2⟩
            have HK1 := Aside0.mk ((HV0.out _).2.2.1.trans hK1 (Or.inl rfl))
            have HI1 := Aside0.mk hI1
            have HB1 := Aside0.mk hB1
            have HA1 := Aside0.mk ha1
            have hx0 : W1.cell? ⟨w.heap.size, 0, none⟩ = some (.int .i64 0) := (blk_cell HX1.out 0).trans rfl
            have hx1 : W1.cell? ⟨w.heap.size, 1, none⟩ = some (.string ⟨#[]⟩) := (blk_cell HX1.out 1).trans rfl
            have hx2 : W1.cell? ⟨w.heap.size, 2, none⟩ = some (.int .u64 0) := (blk_cell HX1.out 2).trans rfl
            have hf0 := blk_frozen HX1.out 0
            have hf1 := blk_frozen HX1.out 1
            have hf2 := blk_frozen HX1.out 2
            clear hK1 hI1 hB1 ha1 hc0 hc1 hfz hx
            obtain ⟨A1, cc1, HGb1, hg1, _⟩ := HI1.out
            have hc1 : W1.cell? ⟨g, 1, none⟩ = some (.int .i64 (a : Int)) := cellS85_1 HGb1
            have hfz := blk_frozen HGb1 1
            clear HGb1 hg1
            have hzz : IntKind.i64.wrap ((a : Int) + 1) = ((a + 1 : Nat) : Int) := (i64_w _).trans (by have := HA0.out; have := HR.out; simp only [wrap64]; omega)
            go_wp2
            obtain ⟨q1, q2, q3, q4⟩ := tok_store (.int .i64 4) (.string ⟨(Go.Lib.encodeRune v).toArray⟩) (.int .u64 0) (Nat.le_refl _) HNE.out.1 HNE.out.2 (blk_far HX1.out (p := ⟨g, 1, none⟩) (fun e => HNE.out.1 e.symm) (.int .i64 ((a + 1 : Nat) : Int))) (HI1.out.set_1 _) (below_set HB1.out HGE.out) (HK1.out.set_ _ _)
            refine bodyPost_ret (res_tok rfl _ _ w.heap.size _ _ _ (.bool true) rfl q1 rfl) rfl ?_
            exact tokp_yes HN.out rfl HA0.out q2 q3 q4
    · rw [hl] at HLT
      rw [hg2] at HDG
      go_enter Tryd.func45, Tryd.ntmps45
      go_wp2
      go_quiet (fail)
      go_wp2_with (fail)
      refine (lex_letter.calls 3 v false _ HLT.out).mono ?_
      rintro e w' ⟨rfl, ⟨⟨nd, rfl⟩⟩⟩
      go_wp2_with (fail)
      refine (lex_digit.calls v true _ HDG.out).mono ?_
      rintro e w' ⟨rfl, ⟨⟨nd2, rfl⟩⟩⟩
      go_wp2_with (fail)
      refine (lx_run g R a w0 _ (by exact (HV0.out _).1) (by exact (HV0.out _).2.1) HR.out (Nat.le_of_lt HA0.out)).mono ?_
      rintro e W1 ⟨a1, rfl, ha0, ha1, hd1, hI1, hB1, hK1⟩
      have HX1 : Aside0 (W1.heap[w.heap.size]? = some (.cells #[.int .i64 0, .string ⟨#[]⟩, .int .u64 0] 29 (0, 0))) := ⟨(hK1.2 _ (blk_lt (HV0.out _).2.2.2) (fun e => HNE.out.1 e.symm) (by simp)).trans (HV0.out _).2.2.2⟩
      have HK1 := Aside0.mk ((HV0.out _).2.2.1.trans hK1 (Or.inl rfl))
      have HI1 := Aside0.mk hI1
      have HB1 := Aside0.mk hB1
      have HA1 := Aside0.mk ha1
      have hx0 : W1.cell? ⟨w.heap.size, 0, none⟩ = some (.int .i64 0) := (blk_cell HX1.out 0).trans rfl
      have hx1 : W1.cell? ⟨w.heap.size, 1, none⟩ = some (.string ⟨#[]⟩) := (blk_cell HX1.out 1).trans rfl
      have hx2 : W1.cell? ⟨w.heap.size, 2, none⟩ = some (.int .u64 0) := (blk_cell HX1.out 2).trans rfl
      have hf0 := blk_frozen HX1.out 0
      have hf1 := blk_frozen HX1.out 1
      have hf2 := blk_frozen HX1.out 2
      clear hK1 hI1 hB1 ha1 hc0 hc1 hfz hx
      have HN : Aside0 (tokL (R.drop a) = some ((2, encL ((R.drop a).takeWhile isLD), 0), R.drop a1)) := ⟨by rw [hd1, HT.out, tokL_cons, hl, hg2, if_neg (by decide), if_pos rfl, ← HD.out]⟩
      clear hd1 ha0
      go_wp2
      obtain ⟨q1, q2, q3, q4⟩ := tok_store (.int .i64 2) (.string ⟨(encL ((R.drop a).takeWhile isLD)).toArray⟩) (.int .u64 0) (Nat.le_refl _) HNE.out.1 HNE.out.2 HX1.out HI1.out HB1.out HK1.out
      refine bodyPost_ret (res_tok rfl _ _ w.heap.size _ _ _ (.bool true) rfl q1 rfl) rfl ?_
      exact tokp_yes HN.out rfl HA1.out q2 q3 q4
  · rw [hl] at HLT
    go_enter Tryd.func45, Tryd.ntmps45
    go_wp2
    go_quiet (fail)
    go_wp2_with (fail)
    refine (lex_letter.calls 3 v true _ HLT.out).mono ?_
    rintro e w' ⟨rfl, ⟨⟨nd, rfl⟩⟩⟩
    go_wp2_with (fail)
    refine (lx_run g R a w0 _ (by exact (HV0.out _).1) (by exact (HV0.out _).2.1) HR.out (Nat.le_of_lt HA0.out)).mono ?_
    rintro e W1 ⟨a1, rfl, ha0, ha1, hd1, hI1, hB1, hK1⟩
    have HX1 : Aside0 (W1.heap[w.heap.size]? = some (.cells #[.int .i64 0, .string ⟨#[]⟩, .int .u64 0] 29 (0, 0))) := ⟨(hK1.2 _ (blk_lt (HV0.out _).2.2.2) (fun e => HNE.out.1 e.symm) (by simp)).trans (HV0.out _).2.2.2⟩
    have HK1 := Aside0.mk ((HV0.out _).2.2.1.trans hK1 (Or.inl rfl))
    have HI1 := Aside0.mk hI1
    have HB1 := Aside0.mk hB1
    have HA1 := Aside0.mk ha1
    have hx0 : W1.cell? ⟨w.heap.size, 0, none⟩ = some (.int .i64 0) := (blk_cell HX1.out 0).trans rfl
    have hx1 : W1.cell? ⟨w.heap.size, 1, none⟩ = some (.string ⟨#[]⟩) := (blk_cell HX1.out 1).trans rfl
    have hx2 : W1.cell? ⟨w.heap.size, 2, none⟩ = some (.int .u64 0) := (blk_cell HX1.out 2).trans rfl
    have hf0 := blk_frozen HX1.out 0
    have hf1 := blk_frozen HX1.out 1
    have hf2 := blk_frozen HX1.out 2
    clear hK1 hI1 hB1 ha1 hc0 hc1 hfz hx
    have HN : Aside0 (tokL (R.drop a) = some ((1, encL ((R.drop a).takeWhile isLD), 0), R.drop a1)) := ⟨by rw [hd1, HT.out, tokL_cons, hl, if_pos rfl, ← HD.out]⟩
    clear hd1 ha0
    go_wp2
    obtain ⟨q1, q2, q3, q4⟩ := tok_store (.int .i64 1) (.string ⟨(encL ((R.drop a).takeWhile isLD)).toArray⟩) (.int .u64 0) (Nat.le_refl _) HNE.out.1 HNE.out.2 HX1.out HI1.out HB1.out HK1.out
    refine bodyPost_ret (res_tok rfl _ _ w.heap.size _ _ _ (.bool true) rfl q1 rfl) rfl ?_
    exact tokp_yes HN.out rfl HA1.out q2 q3 q4

end Go.Proofs.YtpndeninbokjoaaDoor.P
