/- LexWord, walked by hand over the plain laws of words. -/
import Derived.Test.YtghpbbdmljobjaaDoorLf
import Derived.Test.YtghpbbdmljobjaaDoorPx4
namespace Go.Proofs.YtghpbbdmljobjaaDoor.P
open Go.Lib Go.RowKit Go.Proofs.YtghpbbdmljobjaaDoorW.PrintWords Go.Proofs.YtghpbbdmljobjaaDoorW.PrintLast Go.Proofs.YtghpbbdmljobjaaDoorW.PrintMore
set_option linter.unusedVariables false
set_option linter.unusedSimpArgs false
set_option maxHeartbeats 8000000 in
set_option maxRecDepth 100000 in
theorem word_walk (a0 a1 : ByteArray) (w : World) (w0 : a0.size ≤ 140737488351232) (w1 : a1.size ≤ 140737488351232) (HT : Aside0 (Tabs w)) :
    Calls Tryd.prog 6 #[.string a0, .string a1] w fun e w' => e = .returned (.bool true) ∧ Below w.heap.size w w' := by
  have hadd : IntKind.i64.wrap ((a0.size : Int) + (a1.size : Int)) = (a0.size : Int) + (a1.size : Int) := (i64_w _).trans (by simp only [wrap64]; omega)
  have hz31 := Tryd.zeroValue31
  have hu31 := Tryd.underlying31
  have W0 := Aside0.mk w0
  have W1 := Aside0.mk w1
  by_cases h150 : (a0.size : Int) + (a1.size : Int) > 150
  · have c1 : decide ((150 : Int) < (a0.size : Int) + (a1.size : Int)) = true := decide_eq_true (by omega)
    clear h150 w0 w1
    go_enter Tryd.func6, Tryd.ntmps6
    go_wp2
    go_ret
    exact ⟨rfl, Below.refl _ _⟩
  · have c1 : decide ((150 : Int) < (a0.size : Int) + (a1.size : Int)) = false := decide_eq_false (by omega)
    have HL : Aside0 (a0.size + a1.size ≤ 150) := ⟨by omega⟩
    clear h150 w0 w1
    cases hw : wordB a0.data.toList
    · have HW := Aside0.mk hw
      clear hw
      go_enter Tryd.func6, Tryd.ntmps6
      go_wp2_with (fail)
      refine (lex_IsWord.calls a0 false _ (isword_f a0 HW.out)).mono ?_
      rintro e V1 ⟨rfl, hb⟩
      have HB1 := Aside0.mk hb
      clear hb
      go_wp2_with (fail)
      refine (cleatlaw09_read.calls true _ rfl (tabs_of HT HB1.out)).mono ?_
      rintro e V2 ⟨rfl, hb⟩
      have HB2 := Aside0.mk (HB1.out.trans (hb.mono HB1.out.size))
      clear hb
      go_wp2
      go_ret
      exact ⟨rfl, HB2.out⟩
    · obtain ⟨p0, p1, p2, p3⟩ := word_parts hw
      have HLN := Aside0.mk (line_is a0 (word_line (by omega) p0 p2 p3))
      have HSP : Aside0 (lex_IsWord.f (a0 ++ (⟨#[32]⟩ : ByteArray)) = some false) := ⟨isword_f _ (by rw [app_list]; exact word_space _)⟩
      have HEM : Aside0 (lex_IsWord.f (⟨#[]⟩ : ByteArray) = some false) := ⟨rfl⟩
      have HW := Aside0.mk (isword_f a0 hw)
      have ctk : (toTok (1, a0.data.toList, 0)) = (⟨1, a0, 0⟩ : S31) := by unfold toTok; rw [mk_list]
      have HLN : Aside0 (lex_Line.f a0 = some ([⟨1, a0, 0⟩], 0)) := ⟨by rw [HLN.out, ← ctk]; rfl⟩
      have hc32 : a0.size + 1 ≤ 9223372036854775807 := by have := W0.out; omega
      clear p0 p1 p2 p3 ctk
      cases hw2 : wordB a1.data.toList
      · have HW2 := Aside0.mk (isword_f a1 hw2)
        clear hw hw2
        go_enter Tryd.func6, Tryd.ntmps6
        go_wp2_with (fail)
        refine (lex_IsWord.calls a0 true _ HW.out).mono ?_
        rintro e V1 ⟨rfl, hb⟩
        have HB1 := Aside0.mk hb
        clear hb
        go_wp2_with (fail)
        refine (lex_Line.calls a0 _ _ _ HLN.out (tabs_of HT HB1.out)).mono ?_
        rintro e V2 ⟨v, rfl, hR, hb⟩
        have HB2 := Aside0.mk (HB1.out.trans (hb.mono HB1.out.size))
        obtain ⟨A1, k1, rfl, hk1, hC1⟩ := Kd.R_reads hR
        obtain ⟨ad, rfl, q0, q1, q2⟩ := one_tok hC1
        clear hb hR hk1 hC1 HB1
        go_wp2_with (fail)
        refine (lex_IsWord.calls (a0 ++ (⟨#[32]⟩ : ByteArray)) false _ HSP.out).mono ?_
        rintro e V3 ⟨rfl, hb⟩
        have HB3 := Aside0.mk (HB2.out.trans (hb.mono HB2.out.size))
        clear hb HB2 q0 q1 q2
        go_wp2_with (fail)
        refine (lex_IsWord.calls (⟨#[]⟩ : ByteArray) false _ HEM.out).mono ?_
        rintro e V4 ⟨rfl, hb⟩
        have HB4 := Aside0.mk (HB3.out.trans (hb.mono HB3.out.size))
        clear hb HB3
        go_wp2_with (fail)
        refine (lex_IsWord.calls a1 false _ HW2.out).mono ?_
        rintro e V5 ⟨rfl, hb⟩
        have HB5 := Aside0.mk (HB4.out.trans (hb.mono HB4.out.size))
        clear hb HB4
        go_wp2_with (fail)
        refine (cleatlaw09_read.calls true _ rfl (tabs_of HT HB5.out)).mono ?_
        rintro e V6 ⟨rfl, hb⟩
        have HB6 := Aside0.mk (HB5.out.trans (hb.mono HB5.out.size))
        clear hb
        go_wp2
        go_ret
        exact ⟨rfl, HB6.out⟩
      · have HW2 := Aside0.mk (isword_f a1 hw2)
        obtain ⟨u1, u2, x, y, z, u3⟩ := word_app hw hw2
        have HL1 : Aside0 (lex_Line.f (a0 ++ a1) = some ([⟨1, a0 ++ a1, 0⟩], 0)) := ⟨by
          rw [line_is (a0 ++ a1) (ts := [(1, a0.data.toList ++ a1.data.toList, 0)]) (e := 0) (by rw [app_list]; exact u1)]
          have : toTok (1, a0.data.toList ++ a1.data.toList, 0) = (⟨1, a0 ++ a1, 0⟩ : S31) := by unfold toTok; rw [show ((1 : Int), a0.data.toList ++ a1.data.toList, (0 : Int)) = (1, (a0 ++ a1).data.toList, 0) by rw [app_list], mk_list]
          rw [← this]; rfl⟩
        have HL2 : Aside0 (lex_Line.f ((a0 ++ (⟨#[44]⟩ : ByteArray)) ++ a1) = some ([toTok x, toTok y, toTok z], 0)) := ⟨line_is ((a0 ++ (⟨#[44]⟩ : ByteArray)) ++ a1) (ts := [x, y, z]) (e := 0) (by rw [app_list, app_list]; exact u3)⟩
        obtain ⟨b, hb⟩ : ∃ b, decide ((a0.size : Int) + (a1.size : Int) ≤ 31) = b := ⟨_, rfl⟩
        have HL3 : Aside0 (lex_IsWord.f (a0 ++ a1) = some b) := ⟨isword_f _ (by rw [app_list, u2, len_list, len_list, ← hb]; exact decide_eq_decide.2 (by omega))⟩
        have hcat1 : a0.size + a1.size ≤ 9223372036854775807 := by have := HL.out; omega
        have hcat2 : (a0 ++ (⟨#[44]⟩ : ByteArray)).size + a1.size ≤ 9223372036854775807 := by have := HL.out; rw [ByteArray.size_append]; show a0.size + 1 + a1.size ≤ _; omega
        have hbb : (b == b) = true := by cases b <;> rfl
        clear hw hw2 u1 u2 u3
        go_enter Tryd.func6, Tryd.ntmps6
        go_wp2_with (fail)
        refine (lex_IsWord.calls a0 true _ HW.out).mono ?_
        rintro e V1 ⟨rfl, hb⟩
        have HB1 := Aside0.mk hb
        clear hb
        go_wp2_with (fail)
        refine (lex_Line.calls a0 _ _ _ HLN.out (tabs_of HT HB1.out)).mono ?_
        rintro e V2 ⟨v, rfl, hR, hb⟩
        have HB2 := Aside0.mk (HB1.out.trans (hb.mono HB1.out.size))
        obtain ⟨A1, k1, rfl, hk1, hC1⟩ := Kd.R_reads hR
        obtain ⟨ad, rfl, q0, q1, q2⟩ := one_tok hC1
        clear hb hR hk1 hC1 HB1
        go_wp2_with (fail)
        refine (lex_IsWord.calls (a0 ++ (⟨#[32]⟩ : ByteArray)) false _ HSP.out).mono ?_
        rintro e V3 ⟨rfl, hb⟩
        have HB3 := Aside0.mk (HB2.out.trans (hb.mono HB2.out.size))
        clear hb HB2 q0 q1 q2
        go_wp2_with (fail)
        refine (lex_IsWord.calls (⟨#[]⟩ : ByteArray) false _ HEM.out).mono ?_
        rintro e V4 ⟨rfl, hb⟩
        have HB4 := Aside0.mk (HB3.out.trans (hb.mono HB3.out.size))
        clear hb HB3
        go_wp2_with (fail)
        refine (lex_IsWord.calls a1 true _ HW2.out).mono ?_
        rintro e V5 ⟨rfl, hb⟩
        have HB5 := Aside0.mk (HB4.out.trans (hb.mono HB4.out.size))
        clear hb HB4
        go_wp2_with (fail)
        refine (lex_Line.calls (a0 ++ a1) _ _ _ HL1.out (tabs_of HT HB5.out)).mono ?_
        rintro e V6 ⟨v, rfl, hR, hb6⟩
        have HB6 := Aside0.mk (HB5.out.trans (hb6.mono HB5.out.size))
        obtain ⟨A2, k2, rfl, hk2, hC2⟩ := Kd.R_reads hR
        have HC2 := Aside0.mk hC2
        clear hb6 hR hk2 hC2 HB5
        go_wp2_with (fail)
        refine (lex_Line.calls ((a0 ++ (⟨#[44]⟩ : ByteArray)) ++ a1) _ _ _ HL2.out (tabs_of HT HB6.out)).mono ?_
        rintro e V7 ⟨v, rfl, hR, hb7⟩
        have HB7 := Aside0.mk (HB6.out.trans (hb7.mono HB6.out.size))
        obtain ⟨A3, k3, rfl, hk3, hC3⟩ := Kd.R_reads hR
        have HC2b := Aside0.mk (Kd.C_below HC2.out hb7)
        clear hb7 hR hk3 hC3 HB6 HC2
        go_wp2_with (fail)
        refine (cleatlaw09_read.calls true _ rfl (tabs_of HT HB7.out)).mono ?_
        rintro e V8 ⟨rfl, hb8⟩
        have HB8 := Aside0.mk (HB7.out.trans (hb8.mono HB7.out.size))
        have HC2 := Aside0.mk (Kd.C_below HC2b.out hb8)
        clear hb8 HB7 HC2b
        go_wp2_with (fail)
        refine (lex_IsWord.calls (a0 ++ a1) b _ HL3.out).mono ?_
        rintro e V9 ⟨rfl, hb9⟩
        have HB9 := Aside0.mk (HB8.out.trans (hb9.mono HB8.out.size))
        obtain ⟨ad2, rfl, q0, q1, q2⟩ := one_tok (Kd.C_below HC2.out hb9)
        clear hb9 HB8 HC2
        go_wp2
        go_ret
        exact ⟨rfl, HB9.out⟩
end Go.Proofs.YtghpbbdmljobjaaDoor.P
