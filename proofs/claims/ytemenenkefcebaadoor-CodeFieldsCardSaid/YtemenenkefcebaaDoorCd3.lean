/- What CodeBack and CodeWord rest on. Written by wip/tools/gencd3.py. -/
import Derived.Test.YtemenenkefcebaaDoorCd2
import Derived.Test.YtemenenkefcebaaDoorPx4
import Derived.Test.YtemenenkefcebaaDoorPx7
import Derived.Test.YtemenenkefcebaaDoorPx9
namespace Go.Proofs.YtemenenkefcebaaDoor.Cd
open Go.RowKit Go.Proofs.YtemenenkefcebaaDoor.P Go.Proofs.YtemenenkefcebaaDoor.K Go.Proofs.YtemenenkefcebaaDoor.B Go.Proofs.YtemenenkefcebaaDoor.M Go.Proofs.YtemenenkefcebaaDoor.In
set_option linter.unusedVariables false
theorem shN_cases (op : Int) : shN op = 0 ∨ shN op = 1 ∨ shN op = 2 ∨ shN op = 3 ∨ shN op = 4 ∨ shN op = 5 ∨ shN op = 6 ∨ shN op = 7 ∨ shN op = 8 ∨ shN op = 9 ∨ shN op = 10 ∨ shN op = 11 ∨ shN op = 12 ∨ shN op = 13 ∨ shN op = 14 ∨ shN op = 15 ∨ shN op = 16 := by
 obtain ⟨i, hi, e⟩ := shN_range op
 omega
theorem comb {op d n m a im : Int} {v : Nat} {sh am cn : Int} (hv : v < 18446744073709551616) (h : isB op d n m a im v sh am cn = true) :
  ∃ l, fillS 400 (shN op) d n m a im v sh am cn = some (sumF l : Int) ∧ Good (bN op.toNat) (fN op.toNat) l ∧ ∀ w : Nat, w = wN (bN op.toNat) l → readS 400 w op (pt w 0 5) (pt w 5 5) (pt w 16 5) (shN op) = some (some ⟨op, d, n, m, a, im, v, sh, am, cn⟩) := by
 have h0 : shN op ≠ 0 := by
  intro e
  unfold isB at h
  rw [e] at h
  simp at h
 rcases shN_cases op with hs | hs | hs | hs | hs | hs | hs | hs | hs | hs | hs | hs | hs | hs | hs | hs | hs
 ·exact absurd hs h0
 ·rw [hs]; exact ⟨FL1 d n m a im v sh am cn, fill1 hv hs h 400 (by omega), good1 hv hs h, fun w hw => back1 hv hs h 400 (by omega) hw⟩
 ·rw [hs]; exact ⟨FL2 d n m a im v sh am cn, fill2 hv hs h 400 (by omega), good2 hv hs h, fun w hw => back2 hv hs h 400 (by omega) hw⟩
 ·rw [hs]; exact ⟨FL3 d n m a im v sh am cn, fill3 hv hs h 400 (by omega), good3 hv hs h, fun w hw => back3 hv hs h 400 (by omega) hw⟩
 ·rw [hs]; exact ⟨FL4 d n m a im v sh am cn, fill4 hv hs h 400 (by omega), good4 hv hs h, fun w hw => back4 hv hs h 400 (by omega) hw⟩
 ·rw [hs]; exact ⟨FL5 d n m a im v sh am cn, fill5 hv hs h 400 (by omega), good5 hv hs h, fun w hw => back5 hv hs h 400 (by omega) hw⟩
 ·rw [hs]; exact ⟨FL6 d n m a im v sh am cn, fill6 hv hs h 400 (by omega), good6 hv hs h, fun w hw => back6 hv hs h 400 (by omega) hw⟩
 ·rw [hs]; exact ⟨FL7 d n m a im v sh am cn, fill7 hv hs h 400 (by omega), good7 hv hs h, fun w hw => back7 hv hs h 400 (by omega) hw⟩
 ·rw [hs]; exact ⟨FL8 d n m a im v sh am cn, fill8 hv hs h 400 (by omega), good8 hv hs h, fun w hw => back8 hv hs h 400 (by omega) hw⟩
 ·rw [hs]; exact ⟨FL9 d n m a im v sh am cn, fill9 hv hs h 400 (by omega), good9 hv hs h, fun w hw => back9 hv hs h 400 (by omega) hw⟩
 ·rw [hs]; exact ⟨FL10 d n m a im v sh am cn, fill10 hv hs h 400 (by omega), good10 hv hs h, fun w hw => back10 hv hs h 400 (by omega) hw⟩
 ·rw [hs]; exact ⟨FL11 d n m a im v sh am cn, fill11 hv hs h 400 (by omega), good11 hv hs h, fun w hw => back11 hv hs h 400 (by omega) hw⟩
 ·rw [hs]; exact ⟨FL12 d n m a im v sh am cn, fill12 hv hs h 400 (by omega), good12 hv hs h, fun w hw => back12 hv hs h 400 (by omega) hw⟩
 ·rw [hs]; exact ⟨FL13 d n m a im v sh am cn, fill13 hv hs h 400 (by omega), good13 hv hs h, fun w hw => back13 hv hs h 400 (by omega) hw⟩
 ·rw [hs]; exact ⟨FL14 d n m a im v sh am cn, fill14 hv hs h 400 (by omega), good14 hv hs h, fun w hw => back14 hv hs h 400 (by omega) hw⟩
 ·rw [hs]; exact ⟨FL15 d n m a im v sh am cn, fill15 hv hs h 400 (by omega), good15 hv hs h, fun w hw => back15 hv hs h 400 (by omega) hw⟩
 ·rw [hs]; exact ⟨FL16 d n m a im v sh am cn, fill16 hv hs h 400 (by omega), good16 hv hs h, fun w hw => back16 hv hs h 400 (by omega) hw⟩
theorem combw {u : Nat} (hu : u < 4294967296) {op : Int} {i : IR} (h0 : shN op ≠ 0) (hr : readS 400 u op (pt u 0 5) (pt u 5 5) (pt u 16 5) (shN op) = some (some i)) :
  i.op = op ∧ ∃ v : Nat, i.mq = (v : Int) ∧ v < 18446744073709551616 ∧ (isB i.op i.d i.n i.m i.a i.im v i.sh i.am i.cn = true → ∃ l, fillS 400 (shN op) i.d i.n i.m i.a i.im v i.sh i.am i.cn = some (sumF l : Int) ∧ Good (bN op.toNat) (fN op.toNat) l ∧ ∀ x ∈ l, x.f2 = (pt u x.f0.toNat x.f1.toNat : Int)) := by
 rcases shN_cases op with hs | hs | hs | hs | hs | hs | hs | hs | hs | hs | hs | hs | hs | hs | hs | hs | hs
 ·exact absurd hs h0
 ·rw [hs] at hr ⊢
  rw [read1 hu op 400 (by omega)] at hr
  obtain rfl := Option.some.inj (Option.some.inj hr)
  exact ⟨rfl, 0, rfl, by decide, fun hb => ⟨_, fill1 (by decide) hs hb 400 (by omega), good1 (by decide) hs hb, word1 u⟩⟩
 ·rw [hs] at hr ⊢
  rw [read2 hu op 400 (by omega)] at hr
  obtain rfl := Option.some.inj (Option.some.inj hr)
  exact ⟨rfl, 0, rfl, by decide, fun hb => ⟨_, fill2 (by decide) hs hb 400 (by omega), good2 (by decide) hs hb, word2 u⟩⟩
 ·rw [hs] at hr ⊢
  rw [read3 hu op 400 (by omega)] at hr
  split at hr
  ·cases hr
  ·rename_i hz
   obtain rfl := Option.some.inj (Option.some.inj hr)
   exact ⟨rfl, _, rfl, againN_lt _ _, fun hb => ⟨_, fill3 (againN_lt _ _) hs hb 400 (by omega), good3 (againN_lt _ _) hs hb, word3 hz rfl _ _ _ _ _ _⟩⟩
 ·rw [hs] at hr ⊢
  rw [read4 hu op 400 (by omega)] at hr
  obtain rfl := Option.some.inj (Option.some.inj hr)
  exact ⟨rfl, 0, rfl, by decide, fun hb => ⟨_, fill4 (by decide) hs hb 400 (by omega), good4 (by decide) hs hb, word4 u⟩⟩
 ·rw [hs] at hr ⊢
  rw [read5 hu op 400 (by omega)] at hr
  obtain rfl := Option.some.inj (Option.some.inj hr)
  exact ⟨rfl, 0, rfl, by decide, fun hb => ⟨_, fill5 (by decide) hs hb 400 (by omega), good5 (by decide) hs hb, word5 u⟩⟩
 ·rw [hs] at hr ⊢
  rw [read6 hu op 400 (by omega)] at hr
  obtain rfl := Option.some.inj (Option.some.inj hr)
  exact ⟨rfl, 0, rfl, by decide, fun hb => ⟨_, fill6 (by decide) hs hb 400 (by omega), good6 (by decide) hs hb, word6 u⟩⟩
 ·rw [hs] at hr ⊢
  rw [read7 hu op 400 (by omega)] at hr
  obtain rfl := Option.some.inj (Option.some.inj hr)
  exact ⟨rfl, 0, rfl, by decide, fun hb => ⟨_, fill7 (by decide) hs hb 400 (by omega), good7 (by decide) hs hb, word7 u⟩⟩
 ·rw [hs] at hr ⊢
  rw [read8 hu op 400 (by omega)] at hr
  obtain rfl := Option.some.inj (Option.some.inj hr)
  exact ⟨rfl, 0, rfl, by decide, fun hb => ⟨_, fill8 (by decide) hs hb 400 (by omega), good8 (by decide) hs hb, word8 u⟩⟩
 ·rw [hs] at hr ⊢
  rw [read9 hu op 400 (by omega)] at hr
  obtain rfl := Option.some.inj (Option.some.inj hr)
  exact ⟨rfl, 0, rfl, by decide, fun hb => ⟨_, fill9 (by decide) hs hb 400 (by omega), good9 (by decide) hs hb, word9 u⟩⟩
 ·rw [hs] at hr ⊢
  rw [read10 hu op 400 (by omega)] at hr
  obtain rfl := Option.some.inj (Option.some.inj hr)
  exact ⟨rfl, 0, rfl, by decide, fun hb => ⟨_, fill10 (by decide) hs hb 400 (by omega), good10 (by decide) hs hb, word10 u⟩⟩
 ·rw [hs] at hr ⊢
  rw [read11 hu op 400 (by omega)] at hr
  obtain rfl := Option.some.inj (Option.some.inj hr)
  exact ⟨rfl, 0, rfl, by decide, fun hb => ⟨_, fill11 (by decide) hs hb 400 (by omega), good11 (by decide) hs hb, word11 u⟩⟩
 ·rw [hs] at hr ⊢
  rw [read12 hu op 400 (by omega)] at hr
  obtain rfl := Option.some.inj (Option.some.inj hr)
  exact ⟨rfl, 0, rfl, by decide, fun hb => ⟨_, fill12 (by decide) hs hb 400 (by omega), good12 (by decide) hs hb, word12 u⟩⟩
 ·rw [hs] at hr ⊢
  rw [read13 hu op 400 (by omega)] at hr
  obtain rfl := Option.some.inj (Option.some.inj hr)
  exact ⟨rfl, 0, rfl, by decide, fun hb => ⟨_, fill13 (by decide) hs hb 400 (by omega), good13 (by decide) hs hb, word13 u⟩⟩
 ·rw [hs] at hr ⊢
  rw [read14 hu op 400 (by omega)] at hr
  obtain rfl := Option.some.inj (Option.some.inj hr)
  exact ⟨rfl, 0, rfl, by decide, fun hb => ⟨_, fill14 (by decide) hs hb 400 (by omega), good14 (by decide) hs hb, word14 u⟩⟩
 ·rw [hs] at hr ⊢
  rw [read15 hu op 400 (by omega)] at hr
  obtain rfl := Option.some.inj (Option.some.inj hr)
  exact ⟨rfl, 0, rfl, by decide, fun hb => ⟨_, fill15 (by decide) hs hb 400 (by omega), good15 (by decide) hs hb, word15 u⟩⟩
 ·rw [hs] at hr ⊢
  rw [read16 hu op 400 (by omega)] at hr
  obtain rfl := Option.some.inj (Option.some.inj hr)
  exact ⟨rfl, 0, rfl, by decide, fun hb => ⟨_, fill16 (by decide) hs hb 400 (by omega), good16 (by decide) hs hb, word16 u⟩⟩
theorem enc_of {op d n m a im : Int} {v : Nat} {sh am cn : Int} (hv : v < 18446744073709551616) (h : isB op d n m a im v sh am cn = true) {l : List Fdx} (hl : fillS 400 (shN op) d n m a im v sh am cn = some (sumF l : Int)) (g : Good (bN op.toNat) (fN op.toNat) l) :
  code_Encode.f 400 op d n m a im v sh am cn = some ((wN (bN op.toNat) l : Int), 0) := by
 have h0 : shN op ≠ 0 := by
  intro e
  unfold isB at h
  rw [e] at h
  simp at h
 have hr := op_range h0
 unfold code_Encode.f
 rw [Is_f op d n m a im v hv sh am cn 400 (by omega), h, Option.bind_some, if_pos rfl, if_pos hr]
 unfold code_filled.f
 rw [shape_f, Option.bind_some, hl, Option.bind_some, (t_bound op.toNat (by omega)).2.2.1, or_of g]
theorem read_of {u : Nat} (hu : u < 4294967296) : code_read.f 400 (u : Int) = readS 400 u (opN u : Int) (pt u 0 5) (pt u 5 5) (pt u 16 5) (shN (opN u : Int)) := by
 unfold code_read.f
 have e0 : code_part.f (u : Int) 0 5 = some (pt u 0 5 : Int) := part_pt hu 0 5 (by decide) (by decide)
 have e1 : code_part.f (u : Int) 5 5 = some (pt u 5 5 : Int) := part_pt hu 5 5 (by decide) (by decide)
 have e2 : code_part.f (u : Int) 16 5 = some (pt u 16 5 : Int) := part_pt hu 16 5 (by decide) (by decide)
 rw [opcode_is hu, Option.bind_some, e0, Option.bind_some, e1, Option.bind_some, e2, Option.bind_some, shape_f, Option.bind_some]
theorem dec_g {k : Nat} {u : Int} {i : IR} {e : Int} (h : code_Decode.g k u = some (i, e)) : code_Decode.f k u = some (i.op, i.d, i.n, i.m, i.a, i.im, i.mq, i.sh, i.am, i.cn, e) := by
 unfold code_Decode.f; rw [h]; rfl
theorem back_plain (op d n m a im mk sh am cn : Int) (hk : 0 ≤ mk ∧ mk < 18446744073709551616) : ∃ k b, inst_Is.f k op d n m a im mk sh am cn = some b ∧ (b = false → code_Encode.f k op d n m a im mk sh am cn = some (0, 1)) ∧
  (b = true → ∃ wd, code_Encode.f k op d n m a im mk sh am cn = some (wd, 0) ∧ code_Decode.f k wd = some (op, d, n, m, a, im, mk, sh, am, cn, 0) ∧ code_Opcode.f wd = some op) := by
 obtain ⟨v, rfl⟩ : ∃ v : Nat, mk = (v : Int) := ⟨mk.toNat, by omega⟩
 have hv : v < 18446744073709551616 := by omega
 have hI := Is_f op d n m a im v hv sh am cn 400 (by omega)
 refine ⟨400, _, hI, fun hb => ?_, fun hb => ?_⟩
 ·unfold code_Encode.f
  rw [hI, hb, Option.bind_some, if_neg (by decide)]
 ·obtain ⟨l, h1, h2, h3⟩ := comb hv hb
  have h0 : shN op ≠ 0 := by
   intro e
   unfold isB at hb
   rw [e] at hb
   simp at hb
  have hr := op_range h0
  have hlt := wN_lt h2
  have hop : opN (wN (bN op.toNat) l) = op.toNat := opN_has (by omega) (by omega) (by unfold opT; rw [wN_op h2]; exact beq_self_eq_true _)
  have hoi : (opN (wN (bN op.toNat) l) : Int) = op := by omega
  refine ⟨_, enc_of hv hb h1 h2, ?_, ?_⟩
  ·have hrd := h3 _ rfl
   have hg : code_Decode.g 400 (wN (bN op.toNat) l : Int) = some (⟨op, d, n, m, a, im, v, sh, am, cn⟩, 0) := by
    unfold code_Decode.g
    rw [read_of hlt, hoi, hrd, Option.bind_some]
    show (inst_Is.f 400 op d n m a im v sh am cn).bind _ = _
    rw [hI, hb]
    rfl
   exact dec_g hg
  ·rw [opcode_is hlt, hoi]
theorem read_total {u : Nat} (hu : u < 4294967296) (op : Int) : ∃ r, readS 400 u op (pt u 0 5) (pt u 5 5) (pt u 16 5) (shN op) = some r := by
 rcases shN_cases op with hs | hs | hs | hs | hs | hs | hs | hs | hs | hs | hs | hs | hs | hs | hs | hs | hs
 ·rw [hs]; exact ⟨_, rfl⟩
 ·rw [hs, read1 hu op 400 (by omega)]; exact ⟨_, rfl⟩
 ·rw [hs, read2 hu op 400 (by omega)]; exact ⟨_, rfl⟩
 ·rw [hs, read3 hu op 400 (by omega)]
  split
  ·exact ⟨_, rfl⟩
  ·exact ⟨_, rfl⟩
 ·rw [hs, read4 hu op 400 (by omega)]; exact ⟨_, rfl⟩
 ·rw [hs, read5 hu op 400 (by omega)]; exact ⟨_, rfl⟩
 ·rw [hs, read6 hu op 400 (by omega)]; exact ⟨_, rfl⟩
 ·rw [hs, read7 hu op 400 (by omega)]; exact ⟨_, rfl⟩
 ·rw [hs, read8 hu op 400 (by omega)]; exact ⟨_, rfl⟩
 ·rw [hs, read9 hu op 400 (by omega)]; exact ⟨_, rfl⟩
 ·rw [hs, read10 hu op 400 (by omega)]; exact ⟨_, rfl⟩
 ·rw [hs, read11 hu op 400 (by omega)]; exact ⟨_, rfl⟩
 ·rw [hs, read12 hu op 400 (by omega)]; exact ⟨_, rfl⟩
 ·rw [hs, read13 hu op 400 (by omega)]; exact ⟨_, rfl⟩
 ·rw [hs, read14 hu op 400 (by omega)]; exact ⟨_, rfl⟩
 ·rw [hs, read15 hu op 400 (by omega)]; exact ⟨_, rfl⟩
 ·rw [hs, read16 hu op 400 (by omega)]; exact ⟨_, rfl⟩
/-- A word is no instruction, or it is one, which is right, has the word's operation, and is encoded as the word. -/
theorem word_plain (u : Int) (h : 0 ≤ u ∧ u < 4294967296) : (code_Decode.f 400 u = some (0, 0, 0, 0, 0, 0, 0, 0, 0, 0, 11)) ∨
  ∃ op d n m a im mk sh am cn, code_Decode.f 400 u = some (op, d, n, m, a, im, mk, sh, am, cn, 0) ∧ inst_Is.f 400 op d n m a im mk sh am cn = some true ∧ code_Encode.f 400 op d n m a im mk sh am cn = some (u, 0) ∧ code_Opcode.f u = some op := by
 obtain ⟨w, rfl⟩ : ∃ w : Nat, u = (w : Int) := ⟨u.toNat, by omega⟩
 have hw : w < 4294967296 := by omega
 have no : code_Decode.g 400 (w : Int) = some (zR, 11) → code_Decode.f 400 (w : Int) = some (0, 0, 0, 0, 0, 0, 0, 0, 0, 0, 11) := fun hg => dec_g hg
 obtain ⟨r, hr⟩ := read_total hw (opN w : Int)
 have hg0 : code_Decode.g 400 (w : Int) = (code_read.f 400 (w : Int)).bind (fun r => match r with
   | none => some (zR, (11 : Int))
   | some i => (isF 400 i).bind fun b => if b = true then some (i, (0 : Int)) else some (zR, (11 : Int))) := rfl
 rw [read_of hw, hr] at hg0
 cases r with
 | none => exact Or.inl (no hg0)
 | some i =>
  by_cases h0 : shN (opN w : Int) = 0
  ·rw [h0] at hr
   cases hr
  ·obtain ⟨e1, v, e2, hv, hf⟩ := combw hw h0 hr
   have hI : isF 400 i = some (isB i.op i.d i.n i.m i.a i.im v i.sh i.am i.cn) := by
    unfold isF
    rw [e2]
    exact Is_f _ _ _ _ _ _ v hv _ _ _ 400 (by omega)
   cases hb : isB i.op i.d i.n i.m i.a i.im v i.sh i.am i.cn with
   | false =>
    refine Or.inl (no ?_)
    refine hg0.trans ?_
    show (isF 400 i).bind _ = _
    rw [hI, hb]
    rfl
   | true =>
    refine Or.inr ⟨i.op, i.d, i.n, i.m, i.a, i.im, i.mq, i.sh, i.am, i.cn, dec_g (i := i) (e := 0) ?_, ?_, ?_, ?_⟩
    ·refine hg0.trans ?_
     show (isF 400 i).bind _ = _
     rw [hI, hb]
     rfl
    ·rw [← hb]; exact hI
    ·obtain ⟨l, h1, h2, h3⟩ := hf hb
     rw [← e1] at h1 h2
     rw [e2, enc_of hv hb h1 h2]
     have hne : opN w ≠ 0 := by
      intro e
      rw [e] at h0
      exact h0 rfl
     have ht := opN_sound hne
     unfold opT at ht
     rw [beq_iff_eq] at ht
     have ho : i.op.toNat = opN w := by rw [e1]; rfl
     rw [ho] at h2 ⊢
     rw [wN_back h2 hw ht h3]
    ·rw [opcode_is hw, e1]
end Go.Proofs.YtemenenkefcebaaDoor.Cd
