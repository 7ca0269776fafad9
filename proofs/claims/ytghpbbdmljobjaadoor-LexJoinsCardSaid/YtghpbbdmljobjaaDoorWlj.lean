/- LexJoins, walked by hand over the plain laws of lines. -/
import Derived.Test.YtghpbbdmljobjaaDoorLf
import Derived.Test.YtghpbbdmljobjaaDoorPx4
namespace Go.Proofs.YtghpbbdmljobjaaDoor.P
open Go.Lib Go.RowKit Go.Proofs.YtghpbbdmljobjaaDoorW.PrintWords Go.Proofs.YtghpbbdmljobjaaDoorW.PrintLast Go.Proofs.YtghpbbdmljobjaaDoorW.PrintMore
set_option linter.unusedVariables false
set_option linter.unusedSimpArgs false
theorem bt_list {s : ByteArray} {i : Nat} (h : i < s.size) : bt s (i : Int) = ((s.data.toList.getD i 0).toNat : Int) := by
  unfold bt
  rw [dif_pos (show ((i : Int).toNat) < s.size by omega)]
  rw [List.getD_eq_getElem?_getD, List.getElem?_eq_getElem (by simpa using h)]
  rfl
set_option maxHeartbeats 8000000 in
set_option maxRecDepth 100000 in
theorem joins_walk (a0 a1 : ByteArray) (w : World) (w0 : a0.size ≤ 140737488351232) (w1 : a1.size ≤ 140737488351232) (HT : Aside0 (Tabs w)) :
    Calls Tryd.prog 4 #[.string a0, .string a1] w fun e w' => e = .returned (.bool true) ∧ Below w.heap.size w w' := by
  have hadd : IntKind.i64.wrap ((a0.size : Int) + (a1.size : Int)) = (a0.size : Int) + (a1.size : Int) := (i64_w _).trans (by simp only [wrap64]; omega)
  by_cases h190 : (a0.size : Int) + (a1.size : Int) > 190
  · have c1 : decide ((190 : Int) < (a0.size : Int) + (a1.size : Int)) = true := decide_eq_true (by omega)
    clear h190 w0 w1
    go_enter Tryd.func4, Tryd.ntmps4
    go_wp2
    go_ret
    exact ⟨rfl, Below.refl _ _⟩
  · have c1 : decide ((190 : Int) < (a0.size : Int) + (a1.size : Int)) = false := decide_eq_false (by omega)
    have HL : Aside0 (a0.size + a1.size ≤ 190) := ⟨by omega⟩
    have HB0 := Aside0.mk (Below.refl w.heap.size w)
    clear h190 w0 w1
    go_enter Tryd.func4, Tryd.ntmps4
    go_wp2
    go_loopg [5] (a0.size + 1) (fun gk v5 wr => ∃ (i : Nat) (z : Int), v5 = .int .i64 z ∧ Aside0 ((i : Int) = z ∧ a0.size - i < gk ∧ i ≤ a0.size ∧ ∀ j, j < i → ¬ (a0.data.toList.getD j 0 = 47 ∧ a0.data.toList.getD (j + 1) 0 = 47)) ∧ Aside0 (Below w.heap.size w wr))
    case atStart => exact ⟨0, 0, rfl, ⟨rfl, by omega, Nat.zero_le _, fun j h => absurd h (Nat.not_lt_zero _)⟩, HB0⟩
    case round =>
      clear HB0
      obtain ⟨i, z, rfl, HA, HB⟩ := hrel
      rename World => wr
      obtain ⟨h1, h2, h3, h4⟩ := HA.out
      have hzz : IntKind.i64.wrap (z + 1) = z + 1 := (i64_w _).trans (by have := HL.out; simp only [wrap64]; omega)
      by_cases hlt : i + 1 < a0.size
      · have c2 : decide (z + 1 < (a0.size : Int)) = true := decide_eq_true (by omega)
        have b1 := bt_list (s := a0) (i := i) (by omega)
        have b2 := bt_list (s := a0) (i := i + 1) hlt
        rw [h1] at b1
        rw [show ((i + 1 : Nat) : Int) = z + 1 by omega] at b2
        have e1 := bt_at a0 z
        have e2 := bt_at a0 (z + 1)
        have p0 : (0 ≤ z) = True := eq_true (by omega)
        have p1 : (z < (a0.size : Int)) = True := eq_true (by omega)
        have p2 : (0 ≤ z + 1) = True := eq_true (by omega)
        have p3 : (z + 1 < (a0.size : Int)) = True := eq_true (by omega)
        have hnew : Aside0 (¬ (a0.data.toList.getD i 0 = 47 ∧ a0.data.toList.getD (i + 1) 0 = 47) → ∀ j, j < i + 1 → ¬ (a0.data.toList.getD j 0 = 47 ∧ a0.data.toList.getD (j + 1) 0 = 47)) := ⟨fun hn j hj => by
          rcases Nat.lt_or_ge j i with h | h
          · exact h4 j h
          · obtain rfl : j = i := by omega
            exact hn⟩
        have HI : Aside0 ((i + 1 : Nat) = z + 1 ∧ a0.size - (i + 1) < a0.size - i ∧ a0.size - i < gk ∧ i + 1 ≤ a0.size) := ⟨by omega⟩
        by_cases hy : bt a0 z = 47
        · have c3 : (bt a0 z == 47) = true := beq_iff_eq.2 hy
          by_cases hy2 : bt a0 (z + 1) = 47
          · have c4 : (bt a0 (z + 1) == 47) = true := beq_iff_eq.2 hy2
            clear h1 h2 h3 h4 hlt b1 b2 hy hy2
            go_wp2_with (fail)
            refine (cleatlaw09_read.calls true _ rfl (tabs_of HT HB.out)).mono ?_
            rintro e V1 ⟨rfl, hb⟩
            have HB1 := Aside0.mk (HB.out.trans (hb.mono HB.out.size))
            clear hb
            go_wp2
            go_ret
            exact ⟨rfl, HB1.out⟩
          · have c4 : (bt a0 (z + 1) == 47) = false := beq_eq_false_iff_ne.2 hy2
            have HN := Aside0.mk (hnew.out (fun h => hy2 (by rw [b2, h.2]; rfl)))
            clear h1 h2 h3 h4 hlt b1 b2 hy hy2
            go_wp2
            go_roundg (a0.size - i)
            case measure => exact HI.out.2.2.1
            case rel => exact ⟨i + 1, z + 1, rfl, ⟨HI.out.1, HI.out.2.1, HI.out.2.2.2, HN.out⟩, HB⟩
        · have c3 : (bt a0 z == 47) = false := beq_eq_false_iff_ne.2 hy
          have HN := Aside0.mk (hnew.out (fun h => hy (by rw [b1, h.1]; rfl)))
          clear h1 h2 h3 h4 hlt b1 b2 hy
          go_wp2
          go_roundg (a0.size - i)
          case measure => exact HI.out.2.2.1
          case rel => exact ⟨i + 1, z + 1, rfl, ⟨HI.out.1, HI.out.2.1, HI.out.2.2.2, HN.out⟩, HB⟩
      · have c2 : decide (z + 1 < (a0.size : Int)) = false := decide_eq_false (by omega)
        have HNP : Aside0 (¬ ∃ a b, a0.data.toList = a ++ 47 :: 47 :: b) := ⟨by
          rintro ⟨a, b, e⟩
          have hl := congrArg List.length e
          rw [len_list, List.length_append, List.length_cons, List.length_cons] at hl
          refine h4 a.length (by omega) ⟨?_, ?_⟩ <;> rw [e] <;> simp [List.getD_eq_getElem?_getD]⟩
        have hcat1 : 1 + a0.size ≤ 9223372036854775807 := by have := HL.out; omega
        have hcat2 : ((⟨#[32]⟩ : ByteArray) ++ a0).size + 3 ≤ 9223372036854775807 := by have := HL.out; rw [ByteArray.size_append]; show 1 + a0.size + 3 ≤ _; omega
        have hcat3 : (((⟨#[32]⟩ : ByteArray) ++ a0) ++ (⟨#[32, 9, 13]⟩ : ByteArray)).size + a1.size ≤ 9223372036854775807 := by have := HL.out; rw [ByteArray.size_append, ByteArray.size_append]; show 1 + a0.size + 3 + a1.size ≤ _; omega
        have hcat4 : 1 + a0.size ≤ 9223372036854775804 := by have := HL.out; omega
        have hcat5 : 1 + a0.size + 3 + a1.size ≤ 9223372036854775807 := by have := HL.out; omega
        have HL0 := Aside0.mk (line_f a0)
        have HL1 := Aside0.mk (line_f a1)
        have HL2 := Aside0.mk (line_f ((((⟨#[32]⟩ : ByteArray) ++ a0) ++ (⟨#[32, 9, 13]⟩ : ByteArray)) ++ a1))
        have HJ : Aside0 ((linB a0.data.toList).2 = 0 → (linB a1.data.toList).2 = 0 → linB ((((⟨#[32]⟩ : ByteArray) ++ a0) ++ (⟨#[32, 9, 13]⟩ : ByteArray)) ++ a1).data.toList = ((linB a0.data.toList).1 ++ (linB a1.data.toList).1, 0)) := ⟨fun he hf => by
          rw [app_list, app_list, app_list]
          exact joins_ok (by rw [len_list, len_list]; exact HL.out) he hf HNP.out⟩
        have HN0 := Aside0.mk (lin_len a0.data.toList)
        have HN1 := Aside0.mk (lin_len a1.data.toList)
        clear h1 h2 h3 h4 hlt HA HNP
        by_cases he : (linB a0.data.toList).2 = 0
        · by_cases hf : (linB a1.data.toList).2 = 0
          · have ej := HJ.out he hf
            rw [ej] at HL2
            rw [he] at HL0
            rw [hf] at HL1
            clear ej HJ he hf
            rw [List.map_append] at HL2
            obtain ⟨M, hM⟩ : ∃ M, (linB a0.data.toList).1.map toTok = M := ⟨_, rfl⟩
            obtain ⟨M1, hM1⟩ : ∃ M1, (linB a1.data.toList).1.map toTok = M1 := ⟨_, rfl⟩
            have HML : Aside0 (M.length ≤ 201 ∧ M1.length ≤ 201) := ⟨by rw [← hM, ← hM1]; simpa using ⟨HN0.out, HN1.out⟩⟩
            rw [hM] at HL0 HL2
            rw [hM1] at HL1 HL2
            obtain ⟨L, hL⟩ : ∃ L, M ++ M1 = L := ⟨_, rfl⟩
            rw [hL] at HL2
            have HEL := Aside0.mk hL
            have HS : Aside0 (cleatref09_Same.f 500 L L = some true) := ⟨same_refl _ 500 (by have := HML.out; rw [← hL]; simp; omega) (by have := HML.out; rw [← hL]; simp; omega)⟩
            clear hL
            clear hM hM1 HN0 HN1
            go_wp2_with (fail)
            refine (lex_Line.calls a0 _ _ _ HL0.out (tabs_of HT HB.out)).mono ?_
            rintro e V1 ⟨v1, rfl, hR0, hb1⟩
            have HB1 := Aside0.mk (HB.out.trans (hb1.mono HB.out.size))
            clear hb1
            go_wp2_with (fail)
            refine (lex_Line.calls a1 _ _ _ HL1.out (tabs_of HT HB1.out)).mono ?_
            rintro e V2 ⟨v2, rfl, hR1, hb2⟩
            have HB2 := Aside0.mk (HB1.out.trans (hb2.mono HB1.out.size))
            go_wp2_with (fail)
            refine (lex_Line.calls ((((⟨#[32]⟩ : ByteArray) ++ a0) ++ (⟨#[32, 9, 13]⟩ : ByteArray)) ++ a1) _ _ _ HL2.out (tabs_of HT HB2.out)).mono ?_
            rintro e V3 ⟨v3, rfl, hR2, hb3⟩
            have HB3 := Aside0.mk (HB2.out.trans (hb3.mono HB2.out.size))
            obtain ⟨X0, x0, rfl, hx0, hc0⟩ := Kd.R_reads hR0
            obtain ⟨X1, x1, rfl, hx1, hc1⟩ := Kd.R_reads hR1
            obtain ⟨X2, x2, rfl, hx2, hc2⟩ := Kd.R_reads hR2
            have HC0 := Aside0.mk (Kd.C_below (Kd.C_below hc0 hb2) hb3)
            have HC1 := Aside0.mk (Kd.C_below hc1 hb3)
            have HC2 := Aside0.mk hc2
            have Hx2 := Aside0.mk hx2
            clear hb2 hb3 hR0 hR1 hR2 hx0 hx1 hx2 hc0 hc1 hc2 HB1 HB2
            have HBr := Aside0.mk (Below.refl V3.heap.size V3)
            go_wp2_with (first | ((with_reducible refine gate_builtin (b := .append) (xs := #[.tmp 64, .tmp 65]) rfl ?_); at_builtin; refine Kd.R_append_rows k31 (w0 := V3) V3.heap.size rfl (.tmp 64) (.tmp 65) 26 31 (.agg #[(.int .i64 0), (.string ⟨#[]⟩), (.int .u64 0)]) 32 rfl Tryd.underlying26 info_tok rfl (by decide) (by omega) (.slice none 0 0) ([] : List (S31)) M _ _ _ (fun _ => True) (fun _ => False) rfl rfl (Kd.R_nil _ _ _ _ _) HC0.out (fun _ _ h => h) (fun _ h => h.elim) (fun _ _ => trivial) HBr.out (Nat.le_refl _) (by have := HML.out; simp; omega) ?_; intro v4 V4 ho4 hb4 hg4 hat4; have HO4 : Aside0 (Kd.R k31 31 V4 V3.heap.size (fun _ => True) v4 M) := ⟨ho4⟩; have HB4 := Aside0.mk hb4; have HC1b := Aside0.mk (Kd.C_below HC1.out hb4); have HS4 := Aside0.mk hb4.size; clear ho4 hb4 hg4 hat4) | ((with_reducible refine gate_builtin (b := .append) (xs := #[.tmp 67, .tmp 68]) rfl ?_); at_builtin; refine Kd.R_append_rows k31 (w0 := V3) V3.heap.size rfl (.tmp 67) (.tmp 68) 26 31 (.agg #[(.int .i64 0), (.string ⟨#[]⟩), (.int .u64 0)]) 32 rfl Tryd.underlying26 info_tok rfl (by decide) (by omega) v4 M M1 _ _ _ (fun _ => True) (fun _ => False) rfl rfl HO4.out HC1b.out (fun _ _ h => h) (fun _ h => h.elim) (fun _ _ => trivial) HB4.out HS4.out (by have := HML.out; omega) ?_; intro v5 V5 ho5 hb5 hg5 hat5; rw [HEL.out] at ho5; have HO5 := Aside0.mk ho5; have HB5 := Aside0.mk hb5; clear ho5 hb5 hg5 hat5))
            obtain ⟨Y, y, rfl, hy, hcy⟩ := Kd.R_reads HO5.out
            have HBB := Aside0.mk (HB3.out.trans (HB5.out.mono HB3.out.size))
            have HC2b := Aside0.mk (Kd.C_below HC2.out HB5.out)
            refine (cleatlaw09_read.calls true _ rfl (tabs_of HT HBB.out)).mono ?_
            rintro e V6 ⟨rfl, hb6⟩
            have HB6 := Aside0.mk (HBB.out.trans (hb6.mono HBB.out.size))
            have HCY := Aside0.mk (Kd.C_below hcy hb6)
            have HCX := Aside0.mk (Kd.C_below HC2b.out hb6)
            have HY := Aside0.mk hy
            clear hb6 hcy hy HO5 HO4 HC0 HC1 HC1b HC2 HC2b
            go_wp2_with (fail)
            refine (cleatref09_Same.calls 500 _ _ L _ _ L true _ HCX.out Hx2.out HCY.out HY.out HS.out).mono ?_
            rintro e V7 ⟨rfl, ⟨⟨nd, rfl⟩⟩⟩
            go_wp2
            go_ret
            exact ⟨rfl, pw_below_drewN HB6.out _⟩
          · have c5 : ((linB a1.data.toList).2 != 0) = true := bne_iff_ne.2 hf
            rw [he] at HL0
            clear HJ he hf
            generalize (linB a0.data.toList).1.map toTok = M at *
            generalize (linB a1.data.toList).1.map toTok = M1 at *
            generalize (linB a1.data.toList).2 = f1 at *
            generalize (linB ((((⟨#[32]⟩ : ByteArray) ++ a0) ++ (⟨#[32, 9, 13]⟩ : ByteArray)) ++ a1).data.toList).1.map toTok = M2 at *
            generalize (linB ((((⟨#[32]⟩ : ByteArray) ++ a0) ++ (⟨#[32, 9, 13]⟩ : ByteArray)) ++ a1).data.toList).2 = f2 at *
            clear HN0 HN1
            go_wp2_with (fail)
            refine (lex_Line.calls a0 _ _ _ HL0.out (tabs_of HT HB.out)).mono ?_
            rintro e V1 ⟨v1, rfl, hR0, hb1⟩
            have HB1 := Aside0.mk (HB.out.trans (hb1.mono HB.out.size))
            clear hb1
            go_wp2_with (fail)
            refine (lex_Line.calls a1 _ _ _ HL1.out (tabs_of HT HB1.out)).mono ?_
            rintro e V2 ⟨v2, rfl, hR1, hb2⟩
            have HB2 := Aside0.mk (HB1.out.trans (hb2.mono HB1.out.size))
            go_wp2_with (fail)
            refine (lex_Line.calls ((((⟨#[32]⟩ : ByteArray) ++ a0) ++ (⟨#[32, 9, 13]⟩ : ByteArray)) ++ a1) _ _ _ HL2.out (tabs_of HT HB2.out)).mono ?_
            rintro e V3 ⟨v3, rfl, hR2, hb3⟩
            have HB3 := Aside0.mk (HB2.out.trans (hb3.mono HB2.out.size))
            clear hR0 hR1 hR2 hb2 hb3
            go_wp2_with (fail)
            refine (cleatlaw09_read.calls true _ rfl (tabs_of HT HB3.out)).mono ?_
            rintro e V4 ⟨rfl, hb⟩
            have HB4 := Aside0.mk (HB3.out.trans (hb.mono HB3.out.size))
            clear hb
            go_wp2
            go_ret
            exact ⟨rfl, HB4.out⟩
        · have c5 : ((linB a0.data.toList).2 != 0) = true := bne_iff_ne.2 he
          clear HJ he
          generalize (linB a0.data.toList).1.map toTok = M at *
          generalize (linB a0.data.toList).2 = f0 at *
          generalize (linB a1.data.toList).1.map toTok = M1 at *
          generalize (linB a1.data.toList).2 = f1 at *
          generalize (linB ((((⟨#[32]⟩ : ByteArray) ++ a0) ++ (⟨#[32, 9, 13]⟩ : ByteArray)) ++ a1).data.toList).1.map toTok = M2 at *
          generalize (linB ((((⟨#[32]⟩ : ByteArray) ++ a0) ++ (⟨#[32, 9, 13]⟩ : ByteArray)) ++ a1).data.toList).2 = f2 at *
          clear HN0 HN1
          go_wp2_with (fail)
          refine (lex_Line.calls a0 _ _ _ HL0.out (tabs_of HT HB.out)).mono ?_
          rintro e V1 ⟨v1, rfl, hR0, hb1⟩
          have HB1 := Aside0.mk (HB.out.trans (hb1.mono HB.out.size))
          clear hb1
          go_wp2_with (fail)
          refine (lex_Line.calls a1 _ _ _ HL1.out (tabs_of HT HB1.out)).mono ?_
          rintro e V2 ⟨v2, rfl, hR1, hb2⟩
          have HB2 := Aside0.mk (HB1.out.trans (hb2.mono HB1.out.size))
          go_wp2_with (fail)
          refine (lex_Line.calls ((((⟨#[32]⟩ : ByteArray) ++ a0) ++ (⟨#[32, 9, 13]⟩ : ByteArray)) ++ a1) _ _ _ HL2.out (tabs_of HT HB2.out)).mono ?_
          rintro e V3 ⟨v3, rfl, hR2, hb3⟩
          have HB3 := Aside0.mk (HB2.out.trans (hb3.mono HB2.out.size))
          clear hR0 hR1 hR2 hb2 hb3
          go_wp2_with (fail)
          refine (cleatlaw09_read.calls true _ rfl (tabs_of HT HB3.out)).mono ?_
          rintro e V4 ⟨rfl, hb⟩
          have HB4 := Aside0.mk (HB3.out.trans (hb.mono HB3.out.size))
          clear hb
          go_wp2
          go_ret
          exact ⟨rfl, HB4.out⟩
end Go.Proofs.YtghpbbdmljobjaaDoor.P
