/- What CodeFields rests on. Written by wip/tools/gencd4.py. -/
import Derived.Test.YtemenenkefcebaaDoorCd3
namespace Go.Proofs.YtemenenkefcebaaDoor.Cd
open Go.RowKit Go.Proofs.YtemenenkefcebaaDoor.P Go.Proofs.YtemenenkefcebaaDoor.K Go.Proofs.YtemenenkefcebaaDoor.B Go.Proofs.YtemenenkefcebaaDoor.M Go.Proofs.YtemenenkefcebaaDoor.In Go.Proofs.YtemenenkefcebaaDoorW.PrintWords Go.Proofs.YtemenenkefcebaaDoorW.PrintLast Go.Proofs.YtemenenkefcebaaDoorW.PrintMore
set_option linter.unusedVariables false
theorem dn_of {u : Nat} (hu : u < 4294967296) {op : Int} {i : IR} (h : readS 400 u op (pt u 0 5) (pt u 5 5) (pt u 16 5) (shN op) = some (some i)) :
  (hD (shN op) = true → i.d = (pt u 0 5 : Int)) ∧ (hN (shN op) = true → i.n = (pt u 5 5 : Int)) := by
 rcases shN_cases op with hs | hs | hs | hs | hs | hs | hs | hs | hs | hs | hs | hs | hs | hs | hs | hs | hs
 ·rw [hs] at h ⊢
  exact ⟨fun e => absurd e (by decide), fun e => absurd e (by decide)⟩
 ·rw [hs] at h ⊢
  rw [read1 hu op 400 (by omega)] at h
  obtain rfl := Option.some.inj (Option.some.inj h)
  exact ⟨fun _ => rfl, fun e => absurd e (by decide)⟩
 ·rw [hs] at h ⊢
  rw [read2 hu op 400 (by omega)] at h
  obtain rfl := Option.some.inj (Option.some.inj h)
  exact ⟨fun _ => rfl, fun _ => rfl⟩
 ·rw [hs] at h ⊢
  rw [read3 hu op 400 (by omega)] at h
  split at h
  ·cases h
  ·obtain rfl := Option.some.inj (Option.some.inj h)
   exact ⟨fun _ => rfl, fun _ => rfl⟩
 ·rw [hs] at h ⊢
  rw [read4 hu op 400 (by omega)] at h
  obtain rfl := Option.some.inj (Option.some.inj h)
  exact ⟨fun _ => rfl, fun _ => rfl⟩
 ·rw [hs] at h ⊢
  rw [read5 hu op 400 (by omega)] at h
  obtain rfl := Option.some.inj (Option.some.inj h)
  exact ⟨fun _ => rfl, fun _ => rfl⟩
 ·rw [hs] at h ⊢
  rw [read6 hu op 400 (by omega)] at h
  obtain rfl := Option.some.inj (Option.some.inj h)
  exact ⟨fun _ => rfl, fun _ => rfl⟩
 ·rw [hs] at h ⊢
  rw [read7 hu op 400 (by omega)] at h
  obtain rfl := Option.some.inj (Option.some.inj h)
  exact ⟨fun _ => rfl, fun _ => rfl⟩
 ·rw [hs] at h ⊢
  rw [read8 hu op 400 (by omega)] at h
  obtain rfl := Option.some.inj (Option.some.inj h)
  exact ⟨fun _ => rfl, fun _ => rfl⟩
 ·rw [hs] at h ⊢
  rw [read9 hu op 400 (by omega)] at h
  obtain rfl := Option.some.inj (Option.some.inj h)
  exact ⟨fun _ => rfl, fun e => absurd e (by decide)⟩
 ·rw [hs] at h ⊢
  rw [read10 hu op 400 (by omega)] at h
  obtain rfl := Option.some.inj (Option.some.inj h)
  exact ⟨fun _ => rfl, fun e => absurd e (by decide)⟩
 ·rw [hs] at h ⊢
  rw [read11 hu op 400 (by omega)] at h
  obtain rfl := Option.some.inj (Option.some.inj h)
  exact ⟨fun e => absurd e (by decide), fun e => absurd e (by decide)⟩
 ·rw [hs] at h ⊢
  rw [read12 hu op 400 (by omega)] at h
  obtain rfl := Option.some.inj (Option.some.inj h)
  exact ⟨fun e => absurd e (by decide), fun e => absurd e (by decide)⟩
 ·rw [hs] at h ⊢
  rw [read13 hu op 400 (by omega)] at h
  obtain rfl := Option.some.inj (Option.some.inj h)
  exact ⟨fun e => absurd e (by decide), fun _ => rfl⟩
 ·rw [hs] at h ⊢
  rw [read14 hu op 400 (by omega)] at h
  obtain rfl := Option.some.inj (Option.some.inj h)
  exact ⟨fun e => absurd e (by decide), fun e => absurd e (by decide)⟩
 ·rw [hs] at h ⊢
  rw [read15 hu op 400 (by omega)] at h
  obtain rfl := Option.some.inj (Option.some.inj h)
  exact ⟨fun e => absurd e (by decide), fun e => absurd e (by decide)⟩
 ·rw [hs] at h ⊢
  rw [read16 hu op 400 (by omega)] at h
  obtain rfl := Option.some.inj (Option.some.inj h)
  exact ⟨fun _ => rfl, fun _ => rfl⟩
theorem one_plain (op d n m a im mk sh am cn : Int) (hk : 0 ≤ mk ∧ mk < 18446744073709551616) : code_Encode.f 400 op d n m a im mk sh am cn = some (0, 1) ∨
  ∃ u : Nat, u < 4294967296 ∧ code_Encode.f 400 op d n m a im mk sh am cn = some ((u : Int), 0) ∧ code_Decode.f 400 (u : Int) = some (op, d, n, m, a, im, mk, sh, am, cn, 0) ∧ shN op ≠ 0 ∧ (hD (shN op) = true → d = (pt u 0 5 : Int)) ∧ (hN (shN op) = true → n = (pt u 5 5 : Int)) := by
 obtain ⟨v, rfl⟩ : ∃ v : Nat, mk = (v : Int) := ⟨mk.toNat, by omega⟩
 have hv : v < 18446744073709551616 := by omega
 have hI := Is_f op d n m a im v hv sh am cn 400 (by omega)
 cases hb : isB op d n m a im v sh am cn with
 | false =>
  refine Or.inl ?_
  unfold code_Encode.f
  rw [hI, hb, Option.bind_some, if_neg (by decide)]
 | true =>
  obtain ⟨l, h1, h2, h3⟩ := comb hv hb
  have h0 : shN op ≠ 0 := by
   intro e
   unfold isB at hb
   rw [e] at hb
   simp at hb
  have hr := op_range h0
  have hlt := wN_lt h2
  have hop : opN (wN (bN op.toNat) l) = op.toNat := opN_has (by omega) (by omega) (by unfold opT; rw [wN_op h2]; exact beq_self_eq_true _)
  have hoi : (opN (wN (bN op.toNat) l) : Int) = op := by omega
  have hrd := h3 _ rfl
  obtain ⟨g1, g2⟩ := dn_of hlt hrd
  refine Or.inr ⟨_, hlt, enc_of hv hb h1 h2, ?_, h0, g1, g2⟩
  have hg : code_Decode.g 400 (wN (bN op.toNat) l : Int) = some (⟨op, d, n, m, a, im, v, sh, am, cn⟩, 0) := by
   unfold code_Decode.g
   rw [read_of hlt, hoi, hrd, Option.bind_some]
   show (inst_Is.f 400 op d n m a im v sh am cn).bind _ = _
   rw [hI, hb]
   rfl
  exact dec_g hg
theorem field_pt {u : Nat} (hu : u < 4294967296) (a n : Nat) (hn : 1 ≤ n) (h : a + n ≤ 32) : bits_Field.f (u : Int) (a : Int) (n : Int) = some ((pt u a n : Int), 0) := field_ok u a n hu hn h
end Go.Proofs.YtemenenkefcebaaDoor.Cd
