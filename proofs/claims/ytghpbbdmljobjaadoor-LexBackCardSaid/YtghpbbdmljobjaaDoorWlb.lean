/- LexBack, walked by hand over the plain laws of quoting. -/
import Derived.Test.YtghpbbdmljobjaaDoorLf
import Derived.Test.YtghpbbdmljobjaaDoorPx4
namespace Go.Proofs.YtghpbbdmljobjaaDoor.P
open Go.Lib Go.RowKit Go.Proofs.YtghpbbdmljobjaaDoorW.PrintWords Go.Proofs.YtghpbbdmljobjaaDoorW.PrintLast Go.Proofs.YtghpbbdmljobjaaDoorW.PrintMore
set_option linter.unusedVariables false
set_option linter.unusedSimpArgs false
theorem quote_is {a : ByteArray} (h : a.size ≤ 1000) : lex_Quote.f a = some (⟨(quoB a.data.toList).1.toArray⟩, (quoB a.data.toList).2) := by unfold lex_Quote.f; rw [if_pos h]
theorem mk_data (l : List UInt8) : (⟨l.toArray⟩ : ByteArray).data.toList = l := by simp
theorem mk_size (l : List UInt8) : (⟨l.toArray⟩ : ByteArray).size = l.length := by simp [ByteArray.size]
set_option maxHeartbeats 8000000 in
set_option maxRecDepth 100000 in
theorem back_walk (a0 a1 : ByteArray) (w : World) (w0 : a0.size ≤ 140737488351232) (w1 : a1.size ≤ 140737488351232) (HT : Aside0 (Tabs w)) :
    Calls Tryd.prog 3 #[.string a0, .string a1] w fun e w' => e = .returned (.bool true) ∧ Below w.heap.size w w' := by
  have hz31 := Tryd.zeroValue31
  have hu31 := Tryd.underlying31
  by_cases h90 : 90 < a0.size
  · have c1 : decide ((90 : Int) < (a0.size : Int)) = true := decide_eq_true (by omega)
    clear h90 w0 w1
    go_enter Tryd.func3, Tryd.ntmps3
    go_wp2
    go_ret
    exact ⟨rfl, Below.refl _ _⟩
  · have c1 : decide ((90 : Int) < (a0.size : Int)) = false := decide_eq_false (by omega)
    by_cases h91 : 90 < a1.size
    · have c2 : decide ((90 : Int) < (a1.size : Int)) = true := decide_eq_true (by omega)
      clear h90 h91 w0 w1
      go_enter Tryd.func3, Tryd.ntmps3
      go_wp2
      go_ret
      exact ⟨rfl, Below.refl _ _⟩
    · have c2 : decide ((90 : Int) < (a1.size : Int)) = false := decide_eq_false (by omega)
      have HL : Aside0 (a0.size ≤ 90 ∧ a1.size ≤ 90) := ⟨by omega⟩
      have HQ := Aside0.mk (quote_is (a := a0) (by omega))
      clear h90 h91 w0 w1
      by_cases he : (quoB a0.data.toList).2 = 0
      · rw [he] at HQ
        obtain ⟨q, hq⟩ : ∃ q : ByteArray, (⟨(quoB a0.data.toList).1.toArray⟩ : ByteArray) = q := ⟨_, rfl⟩
        have hqd : q.data.toList = (quoB a0.data.toList).1 := by rw [← hq, mk_data]
        rw [hq] at HQ
        by_cases h200 : 200 < q.size
        · have c3 : decide ((200 : Int) < (q.size : Int)) = true := decide_eq_true (by omega)
          have HL1 : Aside0 (lex_Line.f q = some ([], 2)) := ⟨line_is q (ts := []) (e := 2) (lin_long (by rw [len_list]; omega))⟩
          clear he hq hqd h200
          go_enter Tryd.func3, Tryd.ntmps3
          go_wp2_with (fail)
          refine (lex_Quote.calls a0 q 0 _ HQ.out HT).mono ?_
          rintro e V1 ⟨rfl, hb⟩
          have HB1 := Aside0.mk hb
          clear hb
          go_wp2_with (fail)
          refine (lex_Line.calls q _ _ _ HL1.out (tabs_of HT HB1.out)).mono ?_
          rintro e V2 ⟨v, rfl, hR, hb⟩
          have HB2 := Aside0.mk (HB1.out.trans (hb.mono HB1.out.size))
          clear hb hR HB1
          go_wp2_with (fail)
          refine (cleatlaw09_read.calls true _ rfl (tabs_of HT HB2.out)).mono ?_
          rintro e V3 ⟨rfl, hb⟩
          have HB3 := Aside0.mk (HB2.out.trans (hb.mono HB2.out.size))
          clear hb HB2
          go_wp2
          go_ret
          exact ⟨rfl, HB3.out⟩
        · have c3 : decide ((200 : Int) < (q.size : Int)) = false := decide_eq_false (by omega)
          have ctk : (toTok (3, a0.data.toList, 0)) = (⟨3, a0, 0⟩ : S31) := by unfold toTok; rw [mk_list]
          have HL1 : Aside0 (lex_Line.f q = some ([⟨3, a0, 0⟩], 0)) := ⟨by
            rw [line_is q (ts := [(3, a0.data.toList, 0)]) (e := 0) (by rw [hqd]; exact back_one he (by rw [← hqd, len_list]; omega)), ← ctk]; rfl⟩
          have hw1 : IntKind.i64.wrap ((q.size : Int) + 1) = (q.size : Int) + 1 := (i64_w _).trans (by simp only [wrap64]; omega)
          have hw2 : IntKind.i64.wrap ((q.size : Int) + 1 + (a1.size : Int)) = (q.size : Int) + 1 + (a1.size : Int) := (i64_w _).trans (by have := HL.out; simp only [wrap64]; omega)
          by_cases h201 : 200 < q.size + 1 + a1.size
          · have c4 : decide ((200 : Int) < (q.size : Int) + 1 + (a1.size : Int)) = true := decide_eq_true (by omega)
            clear he hq hqd h200 h201 ctk
            go_enter Tryd.func3, Tryd.ntmps3
            go_wp2_with (fail)
            refine (lex_Quote.calls a0 q 0 _ HQ.out HT).mono ?_
            rintro e V1 ⟨rfl, hb⟩
            have HB1 := Aside0.mk hb
            clear hb
            go_wp2_with (fail)
            refine (lex_Line.calls q _ _ _ HL1.out (tabs_of HT HB1.out)).mono ?_
            rintro e V2 ⟨v, rfl, hR, hb⟩
            have HB2 := Aside0.mk (HB1.out.trans (hb.mono HB1.out.size))
            obtain ⟨A1, k1, rfl, hk1, hC1⟩ := Kd.R_reads hR
            have HC1 := Aside0.mk hC1
            obtain ⟨ad1, rfl, q0, q1, q2⟩ := one_tok hC1
            clear hb hR HB1 hk1 hC1
            go_wp2_with (fail)
            clear q0 q1 q2
            refine (cleatlaw09_read.calls true _ rfl (tabs_of HT HB2.out)).mono ?_
            rintro e V3 ⟨rfl, hb⟩
            have HB3 := Aside0.mk (HB2.out.trans (hb.mono HB2.out.size))
            clear hb HB2
            go_wp2
            go_ret
            exact ⟨rfl, HB3.out⟩
          · have c4 : decide ((200 : Int) < (q.size : Int) + 1 + (a1.size : Int)) = false := decide_eq_false (by omega)
            have hcat1 : q.size + 1 ≤ 9223372036854775807 := by omega
            have hcat2 : (q ++ (⟨#[32]⟩ : ByteArray)).size + a1.size ≤ 9223372036854775807 := by rw [ByteArray.size_append]; show q.size + 1 + a1.size ≤ _; omega
            have hbm := back_more (s := a0.data.toList) (m := a1.data.toList) he (by rw [← hqd, len_list, len_list]; omega)
            have HL2 := Aside0.mk (line_f a1)
            have HLN := Aside0.mk (lin_len a1.data.toList)
            by_cases hg : (linB a1.data.toList).2 = 0
            · rw [if_pos hg] at hbm
              have HL3 : Aside0 (lex_Line.f ((q ++ (⟨#[32]⟩ : ByteArray)) ++ a1) = some (⟨3, a0, 0⟩ :: (linB a1.data.toList).1.map toTok, 0)) := ⟨by
                rw [line_is ((q ++ (⟨#[32]⟩ : ByteArray)) ++ a1) (ts := (3, a0.data.toList, 0) :: (linB a1.data.toList).1) (e := 0) (by rw [app_list, app_list, hqd]; exact hbm), ← ctk]; rfl⟩
              rw [hg] at HL2
              obtain ⟨M, hM⟩ : ∃ M, (linB a1.data.toList).1.map toTok = M := ⟨_, rfl⟩
              have HML : Aside0 (M.length ≤ 201) := ⟨by rw [← hM]; simpa using HLN.out⟩
              rw [hM] at HL2 HL3
              have hlm : IntKind.i64.wrap ((M.length : Int) + 1) = ((M.length + 1 : Nat) : Int) := (i64_w _).trans (by have := HML.out; simp only [wrap64]; omega)
              clear he hq hqd h200 h201 ctk hbm hg hM
              go_enter Tryd.func3, Tryd.ntmps3
              go_wp2_with (fail)
              refine (lex_Quote.calls a0 q 0 _ HQ.out HT).mono ?_
              rintro e V1 ⟨rfl, hb⟩
              have HB1 := Aside0.mk hb
              clear hb
              go_wp2_with (fail)
              refine (lex_Line.calls q _ _ _ HL1.out (tabs_of HT HB1.out)).mono ?_
              rintro e V2 ⟨v, rfl, hR, hb⟩
              have HB2 := Aside0.mk (HB1.out.trans (hb.mono HB1.out.size))
              obtain ⟨A1, k1, rfl, hk1, hC1⟩ := Kd.R_reads hR
              have HC1 := Aside0.mk hC1
              obtain ⟨ad1, rfl, q0, q1, q2⟩ := one_tok hC1
              clear hb hR HB1 hk1 hC1
              go_wp2_with (fail)
              clear q0 q1 q2
              refine (lex_Line.calls a1 _ _ _ HL2.out (tabs_of HT HB2.out)).mono ?_
              rintro e V3 ⟨v, rfl, hR, hb⟩
              have HB3 := Aside0.mk (HB2.out.trans (hb.mono HB2.out.size))
              obtain ⟨A2, k2, rfl, hk2, hC2⟩ := Kd.R_reads hR
              have HC2 := Aside0.mk hC2
              have Hk2 := Aside0.mk hk2
              have HC1b := Aside0.mk (Kd.C_below HC1.out hb)
              clear hb hR hC2 HB2 hk2 HC1
              go_wp2_with (fail)
              refine (lex_Line.calls ((q ++ (⟨#[32]⟩ : ByteArray)) ++ a1) _ _ _ HL3.out (tabs_of HT HB3.out)).mono ?_
              rintro e V4 ⟨v, rfl, hR, hb⟩
              have HB4 := Aside0.mk (HB3.out.trans (hb.mono HB3.out.size))
              obtain ⟨A3, k3, rfl, hk3, hC3⟩ := Kd.R_reads hR
              have HC3 := Aside0.mk hC3
              have Hk3 := Aside0.mk hk3
              have HC2b := Aside0.mk (Kd.C_below HC2.out hb)
              have HC1 := Aside0.mk (Kd.C_below HC1b.out hb)
              clear hb hR hC3 HB3 hk3 HC1b HC2
              obtain ⟨ad, ead, q0, q1, q2⟩ := one_tok HC1.out
              cases ead
              obtain ⟨ad3, rfl, p0, p1, p2⟩ := one_tok HC3.out
              obtain ⟨i0, hi0, _, hsz0, _⟩ := info_parts info_tok
              have hcut := cut_from (P := Tryd.prog) 26 31 .i64 Tryd.underlying26 hi0 3 hsz0 (some ad3) (M.length + 1) k3 1 (by omega) (by omega)
              have hdr := Kd.C_drop (m := 1) (c := k3) HC3.out (by simp) Hk3.out
              rw [show (1 : Int).toNat = 1 from rfl] at hcut
              obtain ⟨A5, hA5⟩ : ∃ A5, (if k3 = 1 then (some ad3) else ((some ad3) : Option Addr).map (·.add (1 * 3))) = A5 := ⟨_, rfl⟩
              obtain ⟨k5, hk5⟩ : ∃ k5, k3 - 1 = k5 := ⟨_, rfl⟩
              rw [show k31.sz = 3 from rfl, hA5] at hdr
              rw [hA5, hk5] at hcut
              have HDR : Aside0 (Kd.C k31 V4 A5 M.length M) := ⟨hdr⟩
              have Hk5 : Aside0 (M.length ≤ k5) := ⟨by have := Hk3.out; simp at this; omega⟩
              have HS : Aside0 (cleatref09_Same.f 300 M M = some true) := ⟨same_refl M 300 (by have := HML.out; omega) (by have := HML.out; omega)⟩
              have L0 := Aside0.mk (World.block_lt_of_cell? _ _ q0)
              have L1 := Aside0.mk (World.block_lt_of_cell? _ _ q1)
              have L2 := Aside0.mk (World.block_lt_of_cell? _ _ q2)
              have M0 := Aside0.mk (World.block_lt_of_cell? _ _ p0)
              have M1 := Aside0.mk (World.block_lt_of_cell? _ _ p1)
              have M2 := Aside0.mk (World.block_lt_of_cell? _ _ p2)
              clear HC1 HC3 hdr hi0 hsz0 Hk3
              go_wp2_with (fail)
              go_region_held3 (fun w' => w'.cell? ad1 = some (.int .i64 3) ∧ w'.cell? ⟨ad1.block, ad1.off + 1, none⟩ = some (.string a0) ∧ w'.cell? ⟨ad1.block, ad1.off + 2, none⟩ = some (.int .u64 0) ∧ w'.cell? ad3 = some (.int .i64 3) ∧ w'.cell? ⟨ad3.block, ad3.off + 1, none⟩ = some (.string a0) ∧ w'.cell? ⟨ad3.block, ad3.off + 2, none⟩ = some (.int .u64 0)) (first | go_keep | exact ⟨(hb.cell L0.out).trans q0, (hb.cell (p := ⟨ad1.block, ad1.off + 1, none⟩) L1.out).trans q1, (hb.cell (p := ⟨ad1.block, ad1.off + 2, none⟩) L2.out).trans q2, (hb.cell M0.out).trans p0, (hb.cell (p := ⟨ad3.block, ad3.off + 1, none⟩) M1.out).trans p1, (hb.cell (p := ⟨ad3.block, ad3.off + 2, none⟩) M2.out).trans p2⟩) ((first | (go_at_call 8; refine (cleatlaw09_read.calls true _ rfl (tabs_of HT (pw_below_drewN HB4.out _))).mono ?_; rintro e V5 ⟨rfl, hb⟩; have HB5 := Aside0.mk ((pw_below_drewN HB4.out _).trans (hb.mono HB4.out.size)); have HC5 := Aside0.mk (Kd.C_below (Kd.C_drewN HDR.out _) hb); have HC6 := Aside0.mk (Kd.C_below (Kd.C_drewN HC2b.out _) hb)) | (go_at_call 10; refine (cleatref09_Same.calls 300 _ _ M _ _ M true _ HC5.out Hk5.out HC6.out Hk2.out HS.out).mono ?_; rintro e V6 ⟨rfl, ⟨⟨nd6, rfl⟩⟩⟩)))
              go_wp2
              go_ret
              exact ⟨rfl, pw_below_drewN HB5.out _⟩
            · rw [if_neg hg] at hbm
              have HL3 : Aside0 (lex_Line.f ((q ++ (⟨#[32]⟩ : ByteArray)) ++ a1) = some ([], (linB a1.data.toList).2)) := ⟨line_is ((q ++ (⟨#[32]⟩ : ByteArray)) ++ a1) (ts := []) (e := (linB a1.data.toList).2) (by rw [app_list, app_list, hqd]; exact hbm)⟩
              generalize (linB a1.data.toList).1.map toTok = M at *
              generalize (linB a1.data.toList).2 = g at *
              have c5 : (g != 0) = true := bne_iff_ne.2 hg
              have c6 : (g == g) = true := beq_self_eq_true g
              clear he hq hqd h200 h201 ctk hbm hg
              go_enter Tryd.func3, Tryd.ntmps3
              go_wp2_with (fail)
              refine (lex_Quote.calls a0 q 0 _ HQ.out HT).mono ?_
              rintro e V1 ⟨rfl, hb⟩
              have HB1 := Aside0.mk hb
              clear hb
              go_wp2_with (fail)
              refine (lex_Line.calls q _ _ _ HL1.out (tabs_of HT HB1.out)).mono ?_
              rintro e V2 ⟨v, rfl, hR, hb⟩
              have HB2 := Aside0.mk (HB1.out.trans (hb.mono HB1.out.size))
              obtain ⟨A1, k1, rfl, hk1, hC1⟩ := Kd.R_reads hR
              have HC1 := Aside0.mk hC1
              obtain ⟨ad1, rfl, q0, q1, q2⟩ := one_tok hC1
              clear hb hR HB1 hk1 hC1
              go_wp2_with (fail)
              clear q0 q1 q2
              refine (lex_Line.calls a1 _ _ _ HL2.out (tabs_of HT HB2.out)).mono ?_
              rintro e V3 ⟨v, rfl, hR, hb⟩
              have HB3 := Aside0.mk (HB2.out.trans (hb.mono HB2.out.size))
              clear hb hR HB2 HC1
              go_wp2_with (fail)
              refine (lex_Line.calls ((q ++ (⟨#[32]⟩ : ByteArray)) ++ a1) _ _ _ HL3.out (tabs_of HT HB3.out)).mono ?_
              rintro e V4 ⟨v, rfl, hR, hb⟩
              have HB4 := Aside0.mk (HB3.out.trans (hb.mono HB3.out.size))
              clear hb hR HB3
              go_wp2_with (fail)
              refine (cleatlaw09_read.calls true _ rfl (tabs_of HT HB4.out)).mono ?_
              rintro e V5 ⟨rfl, hb⟩
              have HB5 := Aside0.mk (HB4.out.trans (hb.mono HB4.out.size))
              clear hb HB4
              go_wp2
              go_ret
              exact ⟨rfl, HB5.out⟩
      · have e1 := quo_bad he
        rw [e1] at HQ
        clear he e1
        go_enter Tryd.func3, Tryd.ntmps3
        go_wp2_with (fail)
        refine (lex_Quote.calls a0 ⟨#[]⟩ 3 _ HQ.out HT).mono ?_
        rintro e V1 ⟨rfl, hb⟩
        have HB1 := Aside0.mk hb
        clear hb
        go_wp2_with (fail)
        refine (cleatlaw09_read.calls true _ rfl (tabs_of HT HB1.out)).mono ?_
        rintro e V2 ⟨rfl, hb⟩
        have HB2 := Aside0.mk (HB1.out.trans (hb.mono HB1.out.size))
        clear hb HB1
        go_wp2
        go_ret
        exact ⟨rfl, HB2.out⟩
end Go.Proofs.YtghpbbdmljobjaaDoor.P
