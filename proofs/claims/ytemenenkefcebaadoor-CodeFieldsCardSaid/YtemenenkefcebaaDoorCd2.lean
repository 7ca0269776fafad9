/- Shape by shape: an instruction's fields, what is put and what is read. Written by wip/tools/gencd.py. -/
import Derived.Test.YtemenenkefcebaaDoorCd1
import Derived.Test.YtemenenkefcebaaDoorIn1a
import Derived.Test.YtemenenkefcebaaDoorPx5
import Derived.Test.YtemenenkefcebaaDoorPx6
import Derived.Test.YtemenenkefcebaaDoorPx7
import Derived.Test.YtemenenkefcebaaDoorPx8
namespace Go.Proofs.YtemenenkefcebaaDoor.Cd
open Go.RowKit Go.Proofs.YtemenenkefcebaaDoor.P Go.Proofs.YtemenenkefcebaaDoor.K Go.Proofs.YtemenenkefcebaaDoor.B Go.Proofs.YtemenenkefcebaaDoor.M Go.Proofs.YtemenenkefcebaaDoor.In Go.Proofs.YtemenenkefcebaaDoorW.PrintWords Go.Proofs.YtemenenkefcebaaDoorW.PrintLast Go.Proofs.YtemenenkefcebaaDoorW.PrintMore
set_option linter.unusedVariables false
set_option linter.unusedSimpArgs false
theorem wB_of {v lo hi b : Int} (h : wB v lo hi b = true) : lo ≤ v ∧ v ≤ hi ∧ b ∣ v := by
 unfold wB at h
 rw [Bool.and_eq_true, decide_eq_true_eq, beq_iff_eq] at h
 exact ⟨h.1.1, h.1.2, Int.dvd_of_tmod_eq_zero h.2⟩
theorem quo_of {v b : Int} (h : b ∣ v) (hv : -9223372036854775808 ≤ v / b ∧ v / b ≤ 9223372036854775807) : wrap64 (Int.tdiv v b) = v / b := by
 rw [Int.tdiv_eq_ediv_of_dvd h, w64_in hv]
theorem of_maB {v : Nat} (h : maB v = true) : Mask v := by
 unfold maB at h
 simpa using h
theorem op_range {op : Int} (h : shN op ≠ 0) : 1 ≤ op ∧ op ≤ 39 := by
 unfold shN at h
 split at h
 ·assumption
 ·exact absurd rfl h
theorem bf_tab : ∀ i, i < 40 → bN i &&& fN i = 0 ∧ bN i < 4294967296 ∧ fN i < 4294967296 := by decide +kernel
theorem fN_of {op : Int} {s : Nat} (hr : 1 ≤ op ∧ op ≤ 39) (h : shN op = (s : Int)) : fN op.toNat = (fieldsL.getD s 0).toNat := by
 unfold fN
 unfold shN at h
 rw [if_pos hr] at h
 rw [h, Int.toNat_natCast]
theorem good_of {op : Int} {s : Nat} {l : List Fdx} (hr : 1 ≤ op ∧ op ≤ 39) (h : shN op = (s : Int)) (ap : apart 0 l = true) (ft : l.all fit = true) (or_ : orM l = (fieldsL.getD s 0).toNat) : Good (bN op.toNat) (fN op.toNat) l := by
 obtain ⟨h1, h2, h3⟩ := bf_tab op.toNat (by omega)
 exact ⟨ap, ft, by rw [or_, fN_of hr h], h1, h2, h3⟩
theorem apart_congr : ∀ {l m : List Fdx}, l.map (fun x => (x.f0, x.f1)) = m.map (fun x => (x.f0, x.f1)) → ∀ u, apart u l = apart u m
 | [], [], _, _ => rfl
 | [], _ :: _, h, _ => by cases h
 | _ :: _, [], h, _ => by cases h
 | x :: xs, y :: ys, h, u => by
  rw [List.map_cons, List.map_cons, List.cons.injEq, Prod.mk.injEq] at h
  obtain ⟨⟨h0, h1⟩, h2⟩ := h
  have e : fmask x = fmask y := by unfold fmask; rw [h0, h1]
  have e2 : Fok x ↔ Fok y := by unfold Fok; rw [h0, h1]
  unfold apart
  rw [e, apart_congr h2 (u ||| fmask y), decide_eq_decide.2 e2]
theorem orM_congr : ∀ {l m : List Fdx}, l.map (fun x => (x.f0, x.f1)) = m.map (fun x => (x.f0, x.f1)) → orM l = orM m
 | [], [], _ => rfl
 | [], _ :: _, h => by cases h
 | _ :: _, [], h => by cases h
 | x :: xs, y :: ys, h => by
  rw [List.map_cons, List.map_cons, List.cons.injEq, Prod.mk.injEq] at h
  obtain ⟨⟨h0, h1⟩, h2⟩ := h
  have e : fmask x = fmask y := by unfold fmask; rw [h0, h1]
  show fmask x ||| orM xs = fmask y ||| orM ys
  rw [e, orM_congr h2]
def rows16 : List (List Fdx) := [[⟨0, 5, 0⟩, ⟨5, 16, 0⟩, ⟨21, 2, 0⟩], [⟨0, 5, 0⟩, ⟨5, 5, 0⟩, ⟨10, 12, 0⟩, ⟨22, 1, 0⟩], [⟨0, 5, 0⟩, ⟨5, 5, 0⟩, ⟨10, 6, 0⟩, ⟨16, 6, 0⟩, ⟨22, 1, 0⟩], [⟨0, 5, 0⟩, ⟨5, 5, 0⟩, ⟨10, 6, 0⟩, ⟨16, 5, 0⟩, ⟨22, 2, 0⟩], [⟨0, 5, 0⟩, ⟨5, 5, 0⟩, ⟨10, 6, 0⟩, ⟨16, 5, 0⟩, ⟨22, 2, 0⟩], [⟨0, 5, 0⟩, ⟨5, 5, 0⟩, ⟨10, 5, 0⟩, ⟨16, 5, 0⟩], [⟨0, 5, 0⟩, ⟨5, 5, 0⟩, ⟨10, 12, 0⟩], [⟨0, 5, 0⟩, ⟨5, 5, 0⟩, ⟨10, 12, 0⟩], [⟨0, 5, 0⟩, ⟨5, 19, 0⟩], [⟨0, 5, 0⟩, ⟨5, 19, 0⟩, ⟨29, 2, 0⟩], [⟨0, 26, 0⟩], [⟨0, 4, 0⟩, ⟨5, 19, 0⟩], [⟨5, 5, 0⟩], [⟨5, 16, 0⟩], [], [⟨0, 5, 0⟩, ⟨5, 5, 0⟩, ⟨12, 4, 0⟩, ⟨16, 5, 0⟩]]
theorem closed_tab : ∀ i, i < 16 → apart 0 (rows16.getD i []) = true ∧ orM (rows16.getD i []) = (fieldsL.getD (i + 1) 0).toNat := by decide +kernel
theorem closed (i : Nat) (h : i < 16 := by decide) : apart 0 (rows16.getD i []) = true ∧ orM (rows16.getD i []) = (fieldsL.getD (i + 1) 0).toNat := closed_tab i h
/-- A mask's three numbers. -/
def mE (v : Nat) : Int × Int × Int × Int := (mask_Encode.f 300 (v : Int)).getD (0, 0, 0, 3)
theorem mE_run {v s o t : Nat} (hv : v < 18446744073709551616) (h : IsRun v s o t) : mE v = ((nN s : Int), (t : Int), ((o - 1 + exN s : Nat) : Int), 0) := by
 unfold mE; rw [encode_run hv h 300 (by omega)]; rfl
theorem mE_is {v : Nat} (hv : v < 18446744073709551616) (h : Mask v) (k : Nat) (hk : 200 ≤ k) : mask_Encode.f k (v : Int) = some (mE v) := by
 obtain ⟨s, o, t, h⟩ := h
 rw [mE_run hv h, encode_run hv h k hk]
theorem mE_range {v : Nat} (hv : v < 18446744073709551616) (h : Mask v) : (0 ≤ (mE v).1 ∧ (mE v).1 ≤ 1) ∧ (0 ≤ (mE v).2.1 ∧ (mE v).2.1 ≤ 63) ∧ (0 ≤ (mE v).2.2.1 ∧ (mE v).2.2.1 ≤ 63) := by
 obtain ⟨s, o, t, h⟩ := h
 have hl := h.sz.le
 have o1 := h.o1
 have o2 := h.o2
 have ht := h.tl
 rw [mE_run hv h]
 have e1 : nN s ≤ 1 := by unfold nN; split <;> omega
 have e2 : o - 1 + exN s ≤ 63 := by
  unfold exN
  split
  ·omega
  ·rcases h.sz with e | e | e | e | e | e <;> omega
 refine ⟨⟨?_, ?_⟩, ⟨?_, ?_⟩, ⟨?_, ?_⟩⟩ <;> simp only <;> omega
/-! ### shape 1 -/
def FL1 (d n m a im : Int) (v : Nat) (sh am cn : Int) : List Fdx := [⟨0, 5, d⟩, ⟨5, 16, im⟩, ⟨21, 2, am / 16⟩]
theorem facts1 {op d n m a im : Int} {v : Nat} {sh am cn : Int} (hs : shN op = 1) (h : isB op d n m a im v sh am cn = true) : (0 ≤ d ∧ d ≤ 31) ∧ (n = 0) ∧ (m = 0) ∧ (a = 0) ∧ (v = 0) ∧ (0 ≤ im ∧ im ≤ 65535 ∧ (1 : Int) ∣ im) ∧ (sh = 0) ∧ (0 ≤ am ∧ am ≤ 48 ∧ (16 : Int) ∣ am) ∧ (cn = 0) := by
 unfold isB at h
 rw [hs] at h
 simp only [Bool.and_eq_true] at h
 obtain ⟨⟨⟨⟨⟨⟨⟨⟨h0, hd⟩, hn⟩, hm⟩, ha⟩, hk⟩, him⟩, ⟨hsh, ham⟩⟩, hcn⟩ := h
 exact ⟨of_decide_eq_true (show decide (0 ≤ d ∧ d ≤ 31) = true from hd), eq_of_beq (show (n == 0) = true from hn), eq_of_beq (show (m == 0) = true from hm), eq_of_beq (show (a == 0) = true from ha), of_decide_eq_true (show decide (v = 0) = true from hk), wB_of (show wB im (0) 65535 1 = true from him), (by have := of_decide_eq_true hsh; omega), wB_of (show wB am 0 48 16 = true from ham), (by simp [cnB, hC] at hcn; omega)⟩
set_option maxRecDepth 100000 in
theorem good1 {op d n m a im : Int} {v : Nat} {sh am cn : Int} (hv : v < 18446744073709551616) (hs : shN op = 1) (h : isB op d n m a im v sh am cn = true) : Good (bN op.toNat) (fN op.toNat) (FL1 d n m a im v sh am cn) := by
 obtain ⟨hd, hn, hm, ha, hk, him, hsh, ham, hcn⟩ := facts1 hs h
 refine good_of (s := 1) (op_range (by rw [hs]; decide)) hs ((apart_congr rfl 0).trans (closed 0).1) ?_ ((orM_congr rfl).trans (closed 0).2)
 rw [List.all_eq_true]
 intro x hx
 simp only [FL1, List.mem_cons, List.not_mem_nil, or_false] at hx
 rcases hx with rfl | rfl | rfl
 ·exact decide_eq_true (show Int.toNat (d) < 32 by omega)
 ·exact decide_eq_true (show Int.toNat (im) < 65536 by omega)
 ·exact decide_eq_true (show Int.toNat (am / 16) < 4 by omega)
theorem fill1 {op d n m a im : Int} {v : Nat} {sh am cn : Int} (hv : v < 18446744073709551616) (hs : shN op = 1) (h : isB op d n m a im v sh am cn = true) (k : Nat) (hk2 : 300 ≤ k) : fillS k 1 d n m a im v sh am cn = some (sumF (FL1 d n m a im v sh am cn) : Int) := by
 have g := good1 hv hs h
 obtain ⟨hd, hn, hm, ha, hk, him, hsh, ham, hcn⟩ := facts1 hs h
 have hwf : ∀ x ∈ FL1 d n m a im v sh am cn, Wf x := by
  intro x hx
  simp only [FL1, List.mem_cons, List.not_mem_nil, or_false] at hx
  rcases hx with rfl | rfl | rfl
  all_goals refine ⟨by simp, by simp, ?_, ?_⟩ <;> simp <;> omega
 have hw := word_of g (by simp [FL1]) hwf k hk2
 simp (config := { decide := true }) only [fillS, if_true, if_false]
 refine Eq.trans (congrArg (code_word.f k) ?_) hw
 unfold FL1
 rw [quo_of ham.2.2 (by omega)]
 congr 1 <;> first | rfl | skip
 all_goals simp only [List.cons.injEq, S64.mk.injEq, and_true, true_and] <;> omega
/-! ### shape 2 -/
def FL2 (d n m a im : Int) (v : Nat) (sh am cn : Int) : List Fdx := [⟨0, 5, d⟩, ⟨5, 5, n⟩, ⟨10, 12, im⟩, ⟨22, 1, am / 12⟩]
theorem facts2 {op d n m a im : Int} {v : Nat} {sh am cn : Int} (hs : shN op = 2) (h : isB op d n m a im v sh am cn = true) : (0 ≤ d ∧ d ≤ 31) ∧ (0 ≤ n ∧ n ≤ 31) ∧ (m = 0) ∧ (a = 0) ∧ (v = 0) ∧ (0 ≤ im ∧ im ≤ 4095 ∧ (1 : Int) ∣ im) ∧ (sh = 0) ∧ (0 ≤ am ∧ am ≤ 12 ∧ (12 : Int) ∣ am) ∧ (cn = 0) := by
 unfold isB at h
 rw [hs] at h
 simp only [Bool.and_eq_true] at h
 obtain ⟨⟨⟨⟨⟨⟨⟨⟨h0, hd⟩, hn⟩, hm⟩, ha⟩, hk⟩, him⟩, ⟨hsh, ham⟩⟩, hcn⟩ := h
 exact ⟨of_decide_eq_true (show decide (0 ≤ d ∧ d ≤ 31) = true from hd), of_decide_eq_true (show decide (0 ≤ n ∧ n ≤ 31) = true from hn), eq_of_beq (show (m == 0) = true from hm), eq_of_beq (show (a == 0) = true from ha), of_decide_eq_true (show decide (v = 0) = true from hk), wB_of (show wB im (0) 4095 1 = true from him), (by have := of_decide_eq_true hsh; omega), wB_of (show wB am 0 12 12 = true from ham), (by simp [cnB, hC] at hcn; omega)⟩
set_option maxRecDepth 100000 in
theorem good2 {op d n m a im : Int} {v : Nat} {sh am cn : Int} (hv : v < 18446744073709551616) (hs : shN op = 2) (h : isB op d n m a im v sh am cn = true) : Good (bN op.toNat) (fN op.toNat) (FL2 d n m a im v sh am cn) := by
 obtain ⟨hd, hn, hm, ha, hk, him, hsh, ham, hcn⟩ := facts2 hs h
 refine good_of (s := 2) (op_range (by rw [hs]; decide)) hs ((apart_congr rfl 0).trans (closed 1).1) ?_ ((orM_congr rfl).trans (closed 1).2)
 rw [List.all_eq_true]
 intro x hx
 simp only [FL2, List.mem_cons, List.not_mem_nil, or_false] at hx
 rcases hx with rfl | rfl | rfl | rfl
 ·exact decide_eq_true (show Int.toNat (d) < 32 by omega)
 ·exact decide_eq_true (show Int.toNat (n) < 32 by omega)
 ·exact decide_eq_true (show Int.toNat (im) < 4096 by omega)
 ·exact decide_eq_true (show Int.toNat (am / 12) < 2 by omega)
theorem fill2 {op d n m a im : Int} {v : Nat} {sh am cn : Int} (hv : v < 18446744073709551616) (hs : shN op = 2) (h : isB op d n m a im v sh am cn = true) (k : Nat) (hk2 : 300 ≤ k) : fillS k 2 d n m a im v sh am cn = some (sumF (FL2 d n m a im v sh am cn) : Int) := by
 have g := good2 hv hs h
 obtain ⟨hd, hn, hm, ha, hk, him, hsh, ham, hcn⟩ := facts2 hs h
 have hwf : ∀ x ∈ FL2 d n m a im v sh am cn, Wf x := by
  intro x hx
  simp only [FL2, List.mem_cons, List.not_mem_nil, or_false] at hx
  rcases hx with rfl | rfl | rfl | rfl
  all_goals refine ⟨by simp, by simp, ?_, ?_⟩ <;> simp <;> omega
 have hw := word_of g (by simp [FL2]) hwf k hk2
 simp (config := { decide := true }) only [fillS, if_true, if_false]
 refine Eq.trans (congrArg (code_word.f k) ?_) hw
 unfold FL2
 rw [quo_of ham.2.2 (by omega)]
 congr 1 <;> first | rfl | skip
 all_goals simp only [List.cons.injEq, S64.mk.injEq, and_true, true_and] <;> omega
/-! ### shape 3 -/
def FL3 (d n m a im : Int) (v : Nat) (sh am cn : Int) : List Fdx := [⟨0, 5, d⟩, ⟨5, 5, n⟩, ⟨10, 6, (mE v).2.2.1⟩, ⟨16, 6, (mE v).2.1⟩, ⟨22, 1, (mE v).1⟩]
theorem facts3 {op d n m a im : Int} {v : Nat} {sh am cn : Int} (hs : shN op = 3) (h : isB op d n m a im v sh am cn = true) : (0 ≤ d ∧ d ≤ 31) ∧ (0 ≤ n ∧ n ≤ 31) ∧ (m = 0) ∧ (a = 0) ∧ (Mask v) ∧ (im = 0) ∧ (sh = 0) ∧ (am = 0) ∧ (cn = 0) := by
 unfold isB at h
 rw [hs] at h
 simp only [Bool.and_eq_true] at h
 obtain ⟨⟨⟨⟨⟨⟨⟨⟨h0, hd⟩, hn⟩, hm⟩, ha⟩, hk⟩, him⟩, ⟨hsh, ham⟩⟩, hcn⟩ := h
 exact ⟨of_decide_eq_true (show decide (0 ≤ d ∧ d ≤ 31) = true from hd), of_decide_eq_true (show decide (0 ≤ n ∧ n ≤ 31) = true from hn), eq_of_beq (show (m == 0) = true from hm), eq_of_beq (show (a == 0) = true from ha), (of_maB (show maB v = true from hk)), eq_of_beq (show (im == 0) = true from him), (by have := of_decide_eq_true hsh; omega), eq_of_beq (show (am == 0) = true from ham), (by simp [cnB, hC] at hcn; omega)⟩
set_option maxRecDepth 100000 in
theorem good3 {op d n m a im : Int} {v : Nat} {sh am cn : Int} (hv : v < 18446744073709551616) (hs : shN op = 3) (h : isB op d n m a im v sh am cn = true) : Good (bN op.toNat) (fN op.toNat) (FL3 d n m a im v sh am cn) := by
 obtain ⟨hd, hn, hm, ha, hk, him, hsh, ham, hcn⟩ := facts3 hs h
 obtain ⟨g0, g1, g2⟩ := mE_range hv hk
 refine good_of (s := 3) (op_range (by rw [hs]; decide)) hs ((apart_congr rfl 0).trans (closed 2).1) ?_ ((orM_congr rfl).trans (closed 2).2)
 rw [List.all_eq_true]
 intro x hx
 simp only [FL3, List.mem_cons, List.not_mem_nil, or_false] at hx
 rcases hx with rfl | rfl | rfl | rfl | rfl
 ·exact decide_eq_true (show Int.toNat (d) < 32 by omega)
 ·exact decide_eq_true (show Int.toNat (n) < 32 by omega)
 ·exact decide_eq_true (show Int.toNat ((mE v).2.2.1) < 64 by omega)
 ·exact decide_eq_true (show Int.toNat ((mE v).2.1) < 64 by omega)
 ·exact decide_eq_true (show Int.toNat ((mE v).1) < 2 by omega)
theorem fill3 {op d n m a im : Int} {v : Nat} {sh am cn : Int} (hv : v < 18446744073709551616) (hs : shN op = 3) (h : isB op d n m a im v sh am cn = true) (k : Nat) (hk2 : 300 ≤ k) : fillS k 3 d n m a im v sh am cn = some (sumF (FL3 d n m a im v sh am cn) : Int) := by
 have g := good3 hv hs h
 obtain ⟨hd, hn, hm, ha, hk, him, hsh, ham, hcn⟩ := facts3 hs h
 obtain ⟨g0, g1, g2⟩ := mE_range hv hk
 have hwf : ∀ x ∈ FL3 d n m a im v sh am cn, Wf x := by
  intro x hx
  simp only [FL3, List.mem_cons, List.not_mem_nil, or_false] at hx
  rcases hx with rfl | rfl | rfl | rfl | rfl
  all_goals refine ⟨by simp, by simp, ?_, ?_⟩ <;> simp <;> omega
 have hw := word_of g (by simp [FL3]) hwf k hk2
 simp (config := { decide := true }) only [fillS, if_true, if_false]
 rw [mE_is hv hk k (by omega), Option.bind_some]
 refine Eq.trans (congrArg (code_word.f k) ?_) hw
 unfold FL3
 congr 1 <;> first | rfl | skip
 all_goals simp only [List.cons.injEq, S64.mk.injEq, and_true, true_and] <;> omega
/-! ### shape 4 -/
def FL4 (d n m a im : Int) (v : Nat) (sh am cn : Int) : List Fdx := [⟨0, 5, d⟩, ⟨5, 5, n⟩, ⟨10, 6, am⟩, ⟨16, 5, m⟩, ⟨22, 2, sh⟩]
theorem facts4 {op d n m a im : Int} {v : Nat} {sh am cn : Int} (hs : shN op = 4) (h : isB op d n m a im v sh am cn = true) : (0 ≤ d ∧ d ≤ 31) ∧ (0 ≤ n ∧ n ≤ 31) ∧ (0 ≤ m ∧ m ≤ 31) ∧ (a = 0) ∧ (v = 0) ∧ (im = 0) ∧ (0 ≤ sh ∧ sh ≤ 2) ∧ (0 ≤ am ∧ am ≤ 63 ∧ (1 : Int) ∣ am) ∧ (cn = 0) := by
 unfold isB at h
 rw [hs] at h
 simp only [Bool.and_eq_true] at h
 obtain ⟨⟨⟨⟨⟨⟨⟨⟨h0, hd⟩, hn⟩, hm⟩, ha⟩, hk⟩, him⟩, ⟨hsh, ham⟩⟩, hcn⟩ := h
 exact ⟨of_decide_eq_true (show decide (0 ≤ d ∧ d ≤ 31) = true from hd), of_decide_eq_true (show decide (0 ≤ n ∧ n ≤ 31) = true from hn), of_decide_eq_true (show decide (0 ≤ m ∧ m ≤ 31) = true from hm), eq_of_beq (show (a == 0) = true from ha), of_decide_eq_true (show decide (v = 0) = true from hk), eq_of_beq (show (im == 0) = true from him), (by have := of_decide_eq_true hsh; omega), wB_of (show wB am 0 63 1 = true from ham), (by simp [cnB, hC] at hcn; omega)⟩
set_option maxRecDepth 100000 in
theorem good4 {op d n m a im : Int} {v : Nat} {sh am cn : Int} (hv : v < 18446744073709551616) (hs : shN op = 4) (h : isB op d n m a im v sh am cn = true) : Good (bN op.toNat) (fN op.toNat) (FL4 d n m a im v sh am cn) := by
 obtain ⟨hd, hn, hm, ha, hk, him, hsh, ham, hcn⟩ := facts4 hs h
 refine good_of (s := 4) (op_range (by rw [hs]; decide)) hs ((apart_congr rfl 0).trans (closed 3).1) ?_ ((orM_congr rfl).trans (closed 3).2)
 rw [List.all_eq_true]
 intro x hx
 simp only [FL4, List.mem_cons, List.not_mem_nil, or_false] at hx
 rcases hx with rfl | rfl | rfl | rfl | rfl
 ·exact decide_eq_true (show Int.toNat (d) < 32 by omega)
 ·exact decide_eq_true (show Int.toNat (n) < 32 by omega)
 ·exact decide_eq_true (show Int.toNat (am) < 64 by omega)
 ·exact decide_eq_true (show Int.toNat (m) < 32 by omega)
 ·exact decide_eq_true (show Int.toNat (sh) < 4 by omega)
theorem fill4 {op d n m a im : Int} {v : Nat} {sh am cn : Int} (hv : v < 18446744073709551616) (hs : shN op = 4) (h : isB op d n m a im v sh am cn = true) (k : Nat) (hk2 : 300 ≤ k) : fillS k 4 d n m a im v sh am cn = some (sumF (FL4 d n m a im v sh am cn) : Int) := by
 have g := good4 hv hs h
 obtain ⟨hd, hn, hm, ha, hk, him, hsh, ham, hcn⟩ := facts4 hs h
 have hwf : ∀ x ∈ FL4 d n m a im v sh am cn, Wf x := by
  intro x hx
  simp only [FL4, List.mem_cons, List.not_mem_nil, or_false] at hx
  rcases hx with rfl | rfl | rfl | rfl | rfl
  all_goals refine ⟨by simp, by simp, ?_, ?_⟩ <;> simp <;> omega
 have hw := word_of g (by simp [FL4]) hwf k hk2
 simp (config := { decide := true }) only [fillS, if_true, if_false]
 refine Eq.trans (congrArg (code_word.f k) ?_) hw
 unfold FL4
 congr 1 <;> first | rfl | skip
 all_goals simp only [List.cons.injEq, S64.mk.injEq, and_true, true_and] <;> omega
/-! ### shape 5 -/
def FL5 (d n m a im : Int) (v : Nat) (sh am cn : Int) : List Fdx := [⟨0, 5, d⟩, ⟨5, 5, n⟩, ⟨10, 6, am⟩, ⟨16, 5, m⟩, ⟨22, 2, sh⟩]
theorem facts5 {op d n m a im : Int} {v : Nat} {sh am cn : Int} (hs : shN op = 5) (h : isB op d n m a im v sh am cn = true) : (0 ≤ d ∧ d ≤ 31) ∧ (0 ≤ n ∧ n ≤ 31) ∧ (0 ≤ m ∧ m ≤ 31) ∧ (a = 0) ∧ (v = 0) ∧ (im = 0) ∧ (0 ≤ sh ∧ sh ≤ 3) ∧ (0 ≤ am ∧ am ≤ 63 ∧ (1 : Int) ∣ am) ∧ (cn = 0) := by
 unfold isB at h
 rw [hs] at h
 simp only [Bool.and_eq_true] at h
 obtain ⟨⟨⟨⟨⟨⟨⟨⟨h0, hd⟩, hn⟩, hm⟩, ha⟩, hk⟩, him⟩, ⟨hsh, ham⟩⟩, hcn⟩ := h
 exact ⟨of_decide_eq_true (show decide (0 ≤ d ∧ d ≤ 31) = true from hd), of_decide_eq_true (show decide (0 ≤ n ∧ n ≤ 31) = true from hn), of_decide_eq_true (show decide (0 ≤ m ∧ m ≤ 31) = true from hm), eq_of_beq (show (a == 0) = true from ha), of_decide_eq_true (show decide (v = 0) = true from hk), eq_of_beq (show (im == 0) = true from him), (by have := of_decide_eq_true hsh; omega), wB_of (show wB am 0 63 1 = true from ham), (by simp [cnB, hC] at hcn; omega)⟩
set_option maxRecDepth 100000 in
theorem good5 {op d n m a im : Int} {v : Nat} {sh am cn : Int} (hv : v < 18446744073709551616) (hs : shN op = 5) (h : isB op d n m a im v sh am cn = true) : Good (bN op.toNat) (fN op.toNat) (FL5 d n m a im v sh am cn) := by
 obtain ⟨hd, hn, hm, ha, hk, him, hsh, ham, hcn⟩ := facts5 hs h
 refine good_of (s := 5) (op_range (by rw [hs]; decide)) hs ((apart_congr rfl 0).trans (closed 4).1) ?_ ((orM_congr rfl).trans (closed 4).2)
 rw [List.all_eq_true]
 intro x hx
 simp only [FL5, List.mem_cons, List.not_mem_nil, or_false] at hx
 rcases hx with rfl | rfl | rfl | rfl | rfl
 ·exact decide_eq_true (show Int.toNat (d) < 32 by omega)
 ·exact decide_eq_true (show Int.toNat (n) < 32 by omega)
 ·exact decide_eq_true (show Int.toNat (am) < 64 by omega)
 ·exact decide_eq_true (show Int.toNat (m) < 32 by omega)
 ·exact decide_eq_true (show Int.toNat (sh) < 4 by omega)
theorem fill5 {op d n m a im : Int} {v : Nat} {sh am cn : Int} (hv : v < 18446744073709551616) (hs : shN op = 5) (h : isB op d n m a im v sh am cn = true) (k : Nat) (hk2 : 300 ≤ k) : fillS k 5 d n m a im v sh am cn = some (sumF (FL5 d n m a im v sh am cn) : Int) := by
 have g := good5 hv hs h
 obtain ⟨hd, hn, hm, ha, hk, him, hsh, ham, hcn⟩ := facts5 hs h
 have hwf : ∀ x ∈ FL5 d n m a im v sh am cn, Wf x := by
  intro x hx
  simp only [FL5, List.mem_cons, List.not_mem_nil, or_false] at hx
  rcases hx with rfl | rfl | rfl | rfl | rfl
  all_goals refine ⟨by simp, by simp, ?_, ?_⟩ <;> simp <;> omega
 have hw := word_of g (by simp [FL5]) hwf k hk2
 simp (config := { decide := true }) only [fillS, if_true, if_false]
 refine Eq.trans (congrArg (code_word.f k) ?_) hw
 unfold FL5
 congr 1 <;> first | rfl | skip
 all_goals simp only [List.cons.injEq, S64.mk.injEq, and_true, true_and] <;> omega
/-! ### shape 6 -/
def FL6 (d n m a im : Int) (v : Nat) (sh am cn : Int) : List Fdx := [⟨0, 5, d⟩, ⟨5, 5, n⟩, ⟨10, 5, a⟩, ⟨16, 5, m⟩]
theorem facts6 {op d n m a im : Int} {v : Nat} {sh am cn : Int} (hs : shN op = 6) (h : isB op d n m a im v sh am cn = true) : (0 ≤ d ∧ d ≤ 31) ∧ (0 ≤ n ∧ n ≤ 31) ∧ (0 ≤ m ∧ m ≤ 31) ∧ (0 ≤ a ∧ a ≤ 31) ∧ (v = 0) ∧ (im = 0) ∧ (sh = 0) ∧ (am = 0) ∧ (cn = 0) := by
 unfold isB at h
 rw [hs] at h
 simp only [Bool.and_eq_true] at h
 obtain ⟨⟨⟨⟨⟨⟨⟨⟨h0, hd⟩, hn⟩, hm⟩, ha⟩, hk⟩, him⟩, ⟨hsh, ham⟩⟩, hcn⟩ := h
 exact ⟨of_decide_eq_true (show decide (0 ≤ d ∧ d ≤ 31) = true from hd), of_decide_eq_true (show decide (0 ≤ n ∧ n ≤ 31) = true from hn), of_decide_eq_true (show decide (0 ≤ m ∧ m ≤ 31) = true from hm), of_decide_eq_true (show decide (0 ≤ a ∧ a ≤ 31) = true from ha), of_decide_eq_true (show decide (v = 0) = true from hk), eq_of_beq (show (im == 0) = true from him), (by have := of_decide_eq_true hsh; omega), eq_of_beq (show (am == 0) = true from ham), (by simp [cnB, hC] at hcn; omega)⟩
set_option maxRecDepth 100000 in
theorem good6 {op d n m a im : Int} {v : Nat} {sh am cn : Int} (hv : v < 18446744073709551616) (hs : shN op = 6) (h : isB op d n m a im v sh am cn = true) : Good (bN op.toNat) (fN op.toNat) (FL6 d n m a im v sh am cn) := by
 obtain ⟨hd, hn, hm, ha, hk, him, hsh, ham, hcn⟩ := facts6 hs h
 refine good_of (s := 6) (op_range (by rw [hs]; decide)) hs ((apart_congr rfl 0).trans (closed 5).1) ?_ ((orM_congr rfl).trans (closed 5).2)
 rw [List.all_eq_true]
 intro x hx
 simp only [FL6, List.mem_cons, List.not_mem_nil, or_false] at hx
 rcases hx with rfl | rfl | rfl | rfl
 ·exact decide_eq_true (show Int.toNat (d) < 32 by omega)
 ·exact decide_eq_true (show Int.toNat (n) < 32 by omega)
 ·exact decide_eq_true (show Int.toNat (a) < 32 by omega)
 ·exact decide_eq_true (show Int.toNat (m) < 32 by omega)
theorem fill6 {op d n m a im : Int} {v : Nat} {sh am cn : Int} (hv : v < 18446744073709551616) (hs : shN op = 6) (h : isB op d n m a im v sh am cn = true) (k : Nat) (hk2 : 300 ≤ k) : fillS k 6 d n m a im v sh am cn = some (sumF (FL6 d n m a im v sh am cn) : Int) := by
 have g := good6 hv hs h
 obtain ⟨hd, hn, hm, ha, hk, him, hsh, ham, hcn⟩ := facts6 hs h
 have hwf : ∀ x ∈ FL6 d n m a im v sh am cn, Wf x := by
  intro x hx
  simp only [FL6, List.mem_cons, List.not_mem_nil, or_false] at hx
  rcases hx with rfl | rfl | rfl | rfl
  all_goals refine ⟨by simp, by simp, ?_, ?_⟩ <;> simp <;> omega
 have hw := word_of g (by simp [FL6]) hwf k hk2
 simp (config := { decide := true }) only [fillS, if_true, if_false]
 refine Eq.trans (congrArg (code_word.f k) ?_) hw
 unfold FL6
 congr 1 <;> first | rfl | skip
 all_goals simp only [List.cons.injEq, S64.mk.injEq, and_true, true_and] <;> omega
/-! ### shape 7 -/
def FL7 (d n m a im : Int) (v : Nat) (sh am cn : Int) : List Fdx := [⟨0, 5, d⟩, ⟨5, 5, n⟩, ⟨10, 12, im / 8⟩]
theorem facts7 {op d n m a im : Int} {v : Nat} {sh am cn : Int} (hs : shN op = 7) (h : isB op d n m a im v sh am cn = true) : (0 ≤ d ∧ d ≤ 31) ∧ (0 ≤ n ∧ n ≤ 31) ∧ (m = 0) ∧ (a = 0) ∧ (v = 0) ∧ (0 ≤ im ∧ im ≤ 32760 ∧ (8 : Int) ∣ im) ∧ (sh = 0) ∧ (am = 0) ∧ (cn = 0) := by
 unfold isB at h
 rw [hs] at h
 simp only [Bool.and_eq_true] at h
 obtain ⟨⟨⟨⟨⟨⟨⟨⟨h0, hd⟩, hn⟩, hm⟩, ha⟩, hk⟩, him⟩, ⟨hsh, ham⟩⟩, hcn⟩ := h
 exact ⟨of_decide_eq_true (show decide (0 ≤ d ∧ d ≤ 31) = true from hd), of_decide_eq_true (show decide (0 ≤ n ∧ n ≤ 31) = true from hn), eq_of_beq (show (m == 0) = true from hm), eq_of_beq (show (a == 0) = true from ha), of_decide_eq_true (show decide (v = 0) = true from hk), wB_of (show wB im (0) 32760 8 = true from him), (by have := of_decide_eq_true hsh; omega), eq_of_beq (show (am == 0) = true from ham), (by simp [cnB, hC] at hcn; omega)⟩
set_option maxRecDepth 100000 in
theorem good7 {op d n m a im : Int} {v : Nat} {sh am cn : Int} (hv : v < 18446744073709551616) (hs : shN op = 7) (h : isB op d n m a im v sh am cn = true) : Good (bN op.toNat) (fN op.toNat) (FL7 d n m a im v sh am cn) := by
 obtain ⟨hd, hn, hm, ha, hk, him, hsh, ham, hcn⟩ := facts7 hs h
 refine good_of (s := 7) (op_range (by rw [hs]; decide)) hs ((apart_congr rfl 0).trans (closed 6).1) ?_ ((orM_congr rfl).trans (closed 6).2)
 rw [List.all_eq_true]
 intro x hx
 simp only [FL7, List.mem_cons, List.not_mem_nil, or_false] at hx
 rcases hx with rfl | rfl | rfl
 ·exact decide_eq_true (show Int.toNat (d) < 32 by omega)
 ·exact decide_eq_true (show Int.toNat (n) < 32 by omega)
 ·exact decide_eq_true (show Int.toNat (im / 8) < 4096 by omega)
theorem fill7 {op d n m a im : Int} {v : Nat} {sh am cn : Int} (hv : v < 18446744073709551616) (hs : shN op = 7) (h : isB op d n m a im v sh am cn = true) (k : Nat) (hk2 : 300 ≤ k) : fillS k 7 d n m a im v sh am cn = some (sumF (FL7 d n m a im v sh am cn) : Int) := by
 have g := good7 hv hs h
 obtain ⟨hd, hn, hm, ha, hk, him, hsh, ham, hcn⟩ := facts7 hs h
 have hwf : ∀ x ∈ FL7 d n m a im v sh am cn, Wf x := by
  intro x hx
  simp only [FL7, List.mem_cons, List.not_mem_nil, or_false] at hx
  rcases hx with rfl | rfl | rfl
  all_goals refine ⟨by simp, by simp, ?_, ?_⟩ <;> simp <;> omega
 have hw := word_of g (by simp [FL7]) hwf k hk2
 simp (config := { decide := true }) only [fillS, if_true, if_false]
 refine Eq.trans (congrArg (code_word.f k) ?_) hw
 unfold FL7
 rw [quo_of him.2.2 (by omega)]
 congr 1 <;> first | rfl | skip
 all_goals simp only [List.cons.injEq, S64.mk.injEq, and_true, true_and] <;> omega
/-! ### shape 8 -/
def FL8 (d n m a im : Int) (v : Nat) (sh am cn : Int) : List Fdx := [⟨0, 5, d⟩, ⟨5, 5, n⟩, ⟨10, 12, im⟩]
theorem facts8 {op d n m a im : Int} {v : Nat} {sh am cn : Int} (hs : shN op = 8) (h : isB op d n m a im v sh am cn = true) : (0 ≤ d ∧ d ≤ 31) ∧ (0 ≤ n ∧ n ≤ 31) ∧ (m = 0) ∧ (a = 0) ∧ (v = 0) ∧ (0 ≤ im ∧ im ≤ 4095 ∧ (1 : Int) ∣ im) ∧ (sh = 0) ∧ (am = 0) ∧ (cn = 0) := by
 unfold isB at h
 rw [hs] at h
 simp only [Bool.and_eq_true] at h
 obtain ⟨⟨⟨⟨⟨⟨⟨⟨h0, hd⟩, hn⟩, hm⟩, ha⟩, hk⟩, him⟩, ⟨hsh, ham⟩⟩, hcn⟩ := h
 exact ⟨of_decide_eq_true (show decide (0 ≤ d ∧ d ≤ 31) = true from hd), of_decide_eq_true (show decide (0 ≤ n ∧ n ≤ 31) = true from hn), eq_of_beq (show (m == 0) = true from hm), eq_of_beq (show (a == 0) = true from ha), of_decide_eq_true (show decide (v = 0) = true from hk), wB_of (show wB im (0) 4095 1 = true from him), (by have := of_decide_eq_true hsh; omega), eq_of_beq (show (am == 0) = true from ham), (by simp [cnB, hC] at hcn; omega)⟩
set_option maxRecDepth 100000 in
theorem good8 {op d n m a im : Int} {v : Nat} {sh am cn : Int} (hv : v < 18446744073709551616) (hs : shN op = 8) (h : isB op d n m a im v sh am cn = true) : Good (bN op.toNat) (fN op.toNat) (FL8 d n m a im v sh am cn) := by
 obtain ⟨hd, hn, hm, ha, hk, him, hsh, ham, hcn⟩ := facts8 hs h
 refine good_of (s := 8) (op_range (by rw [hs]; decide)) hs ((apart_congr rfl 0).trans (closed 7).1) ?_ ((orM_congr rfl).trans (closed 7).2)
 rw [List.all_eq_true]
 intro x hx
 simp only [FL8, List.mem_cons, List.not_mem_nil, or_false] at hx
 rcases hx with rfl | rfl | rfl
 ·exact decide_eq_true (show Int.toNat (d) < 32 by omega)
 ·exact decide_eq_true (show Int.toNat (n) < 32 by omega)
 ·exact decide_eq_true (show Int.toNat (im) < 4096 by omega)
theorem fill8 {op d n m a im : Int} {v : Nat} {sh am cn : Int} (hv : v < 18446744073709551616) (hs : shN op = 8) (h : isB op d n m a im v sh am cn = true) (k : Nat) (hk2 : 300 ≤ k) : fillS k 8 d n m a im v sh am cn = some (sumF (FL8 d n m a im v sh am cn) : Int) := by
 have g := good8 hv hs h
 obtain ⟨hd, hn, hm, ha, hk, him, hsh, ham, hcn⟩ := facts8 hs h
 have hwf : ∀ x ∈ FL8 d n m a im v sh am cn, Wf x := by
  intro x hx
  simp only [FL8, List.mem_cons, List.not_mem_nil, or_false] at hx
  rcases hx with rfl | rfl | rfl
  all_goals refine ⟨by simp, by simp, ?_, ?_⟩ <;> simp <;> omega
 have hw := word_of g (by simp [FL8]) hwf k hk2
 simp (config := { decide := true }) only [fillS, if_true, if_false]
 refine Eq.trans (congrArg (code_word.f k) ?_) hw
 unfold FL8
 congr 1 <;> first | rfl | skip
 all_goals simp only [List.cons.injEq, S64.mk.injEq, and_true, true_and] <;> omega
/-! ### shape 9 -/
def FL9 (d n m a im : Int) (v : Nat) (sh am cn : Int) : List Fdx := [⟨0, 5, d⟩, ⟨5, 19, (packN (im / 4) 19 : Int)⟩]
theorem facts9 {op d n m a im : Int} {v : Nat} {sh am cn : Int} (hs : shN op = 9) (h : isB op d n m a im v sh am cn = true) : (0 ≤ d ∧ d ≤ 31) ∧ (n = 0) ∧ (m = 0) ∧ (a = 0) ∧ (v = 0) ∧ (-1048576 ≤ im ∧ im ≤ 1048572 ∧ (4 : Int) ∣ im) ∧ (sh = 0) ∧ (am = 0) ∧ (cn = 0) := by
 unfold isB at h
 rw [hs] at h
 simp only [Bool.and_eq_true] at h
 obtain ⟨⟨⟨⟨⟨⟨⟨⟨h0, hd⟩, hn⟩, hm⟩, ha⟩, hk⟩, him⟩, ⟨hsh, ham⟩⟩, hcn⟩ := h
 exact ⟨of_decide_eq_true (show decide (0 ≤ d ∧ d ≤ 31) = true from hd), eq_of_beq (show (n == 0) = true from hn), eq_of_beq (show (m == 0) = true from hm), eq_of_beq (show (a == 0) = true from ha), of_decide_eq_true (show decide (v = 0) = true from hk), wB_of (show wB im (-1048576) 1048572 4 = true from him), (by have := of_decide_eq_true hsh; omega), eq_of_beq (show (am == 0) = true from ham), (by simp [cnB, hC] at hcn; omega)⟩
set_option maxRecDepth 100000 in
theorem good9 {op d n m a im : Int} {v : Nat} {sh am cn : Int} (hv : v < 18446744073709551616) (hs : shN op = 9) (h : isB op d n m a im v sh am cn = true) : Good (bN op.toNat) (fN op.toNat) (FL9 d n m a im v sh am cn) := by
 obtain ⟨hd, hn, hm, ha, hk, him, hsh, ham, hcn⟩ := facts9 hs h
 have g0 := packN_lt (im / 4) 19
 refine good_of (s := 9) (op_range (by rw [hs]; decide)) hs ((apart_congr rfl 0).trans (closed 8).1) ?_ ((orM_congr rfl).trans (closed 8).2)
 rw [List.all_eq_true]
 intro x hx
 simp only [FL9, List.mem_cons, List.not_mem_nil, or_false] at hx
 rcases hx with rfl | rfl
 ·exact decide_eq_true (show Int.toNat (d) < 32 by omega)
 ·exact decide_eq_true (show Int.toNat ((packN (im / 4) 19 : Int)) < 524288 by omega)
theorem fill9 {op d n m a im : Int} {v : Nat} {sh am cn : Int} (hv : v < 18446744073709551616) (hs : shN op = 9) (h : isB op d n m a im v sh am cn = true) (k : Nat) (hk2 : 300 ≤ k) : fillS k 9 d n m a im v sh am cn = some (sumF (FL9 d n m a im v sh am cn) : Int) := by
 have g := good9 hv hs h
 obtain ⟨hd, hn, hm, ha, hk, him, hsh, ham, hcn⟩ := facts9 hs h
 have g0 := packN_lt (im / 4) 19
 have hwf : ∀ x ∈ FL9 d n m a im v sh am cn, Wf x := by
  intro x hx
  simp only [FL9, List.mem_cons, List.not_mem_nil, or_false] at hx
  rcases hx with rfl | rfl
  all_goals refine ⟨by simp, by simp, ?_, ?_⟩ <;> simp <;> omega
 have hw := word_of g (by simp [FL9]) hwf k hk2
 simp (config := { decide := true }) only [fillS, if_true, if_false]
 have q : wrap64 (Int.tdiv im 4) = im / 4 := quo_of him.2.2 (by omega)
 rw [q]
 have hp := packed_of k (by omega) 5 19 (im / 4) (by decide) (by decide) (by simp; omega)
 have hp2 : code_packed.f k 5 19 (im / 4) = some (5, 19, (packN (im / 4) 19 : Int)) := hp
 rw [hp2, Option.bind_some]
 refine Eq.trans (congrArg (code_word.f k) ?_) hw
 unfold FL9
 congr 1 <;> first | rfl | skip
 all_goals simp only [List.cons.injEq, S64.mk.injEq, and_true, true_and] <;> omega
/-! ### shape 10 -/
def FL10 (d n m a im : Int) (v : Nat) (sh am cn : Int) : List Fdx := [⟨0, 5, d⟩, ⟨5, 19, (packN im 21 : Int) / 4⟩, ⟨29, 2, (packN im 21 : Int) % 4⟩]
theorem facts10 {op d n m a im : Int} {v : Nat} {sh am cn : Int} (hs : shN op = 10) (h : isB op d n m a im v sh am cn = true) : (0 ≤ d ∧ d ≤ 31) ∧ (n = 0) ∧ (m = 0) ∧ (a = 0) ∧ (v = 0) ∧ (-1048576 ≤ im ∧ im ≤ 1048575 ∧ (1 : Int) ∣ im) ∧ (sh = 0) ∧ (am = 0) ∧ (cn = 0) := by
 unfold isB at h
 rw [hs] at h
 simp only [Bool.and_eq_true] at h
 obtain ⟨⟨⟨⟨⟨⟨⟨⟨h0, hd⟩, hn⟩, hm⟩, ha⟩, hk⟩, him⟩, ⟨hsh, ham⟩⟩, hcn⟩ := h
 exact ⟨of_decide_eq_true (show decide (0 ≤ d ∧ d ≤ 31) = true from hd), eq_of_beq (show (n == 0) = true from hn), eq_of_beq (show (m == 0) = true from hm), eq_of_beq (show (a == 0) = true from ha), of_decide_eq_true (show decide (v = 0) = true from hk), wB_of (show wB im (-1048576) 1048575 1 = true from him), (by have := of_decide_eq_true hsh; omega), eq_of_beq (show (am == 0) = true from ham), (by simp [cnB, hC] at hcn; omega)⟩
set_option maxRecDepth 100000 in
theorem good10 {op d n m a im : Int} {v : Nat} {sh am cn : Int} (hv : v < 18446744073709551616) (hs : shN op = 10) (h : isB op d n m a im v sh am cn = true) : Good (bN op.toNat) (fN op.toNat) (FL10 d n m a im v sh am cn) := by
 obtain ⟨hd, hn, hm, ha, hk, him, hsh, ham, hcn⟩ := facts10 hs h
 have g0 := packN_lt im 21
 refine good_of (s := 10) (op_range (by rw [hs]; decide)) hs ((apart_congr rfl 0).trans (closed 9).1) ?_ ((orM_congr rfl).trans (closed 9).2)
 rw [List.all_eq_true]
 intro x hx
 simp only [FL10, List.mem_cons, List.not_mem_nil, or_false] at hx
 rcases hx with rfl | rfl | rfl
 ·exact decide_eq_true (show Int.toNat (d) < 32 by omega)
 ·exact decide_eq_true (show Int.toNat ((packN im 21 : Int) / 4) < 524288 by omega)
 ·exact decide_eq_true (show Int.toNat ((packN im 21 : Int) % 4) < 4 by omega)
theorem fill10 {op d n m a im : Int} {v : Nat} {sh am cn : Int} (hv : v < 18446744073709551616) (hs : shN op = 10) (h : isB op d n m a im v sh am cn = true) (k : Nat) (hk2 : 300 ≤ k) : fillS k 10 d n m a im v sh am cn = some (sumF (FL10 d n m a im v sh am cn) : Int) := by
 have g := good10 hv hs h
 obtain ⟨hd, hn, hm, ha, hk, him, hsh, ham, hcn⟩ := facts10 hs h
 have g0 := packN_lt im 21
 have hwf : ∀ x ∈ FL10 d n m a im v sh am cn, Wf x := by
  intro x hx
  simp only [FL10, List.mem_cons, List.not_mem_nil, or_false] at hx
  rcases hx with rfl | rfl | rfl
  all_goals refine ⟨by simp, by simp, ?_, ?_⟩ <;> simp <;> omega
 have hw := word_of g (by simp [FL10]) hwf k hk2
 simp (config := { decide := true }) only [fillS, if_true, if_false]
 have hp := pack_go k (by omega) im 21 (by decide) (by decide)
 rw [if_pos (by simp; omega)] at hp
 have hp2 : bits_Pack.f k im 21 = some ((packN im 21 : Int), 0) := hp
 have hx := field_ok (packN im 21) 0 2 (by omega) (by decide) (by decide)
 have hy := field_ok (packN im 21) 2 19 (by omega) (by decide) (by decide)
 have hx2 : bits_Field.f (packN im 21 : Int) 0 2 = some (((packN im 21 / 2 ^ 0 % 2 ^ 2 : Nat) : Int), 0) := hx
 have hy2 : bits_Field.f (packN im 21 : Int) 2 19 = some (((packN im 21 / 2 ^ 2 % 2 ^ 19 : Nat) : Int), 0) := hy
 rw [hp2, Option.bind_some, hx2, Option.bind_some, hy2, Option.bind_some]
 refine Eq.trans (congrArg (code_word.f k) ?_) hw
 unfold FL10
 rw [w64_in (by omega), w64_in (by omega)]
 congr 1 <;> first | rfl | skip
 all_goals simp only [List.cons.injEq, S64.mk.injEq, and_true, true_and] <;> omega
/-! ### shape 11 -/
def FL11 (d n m a im : Int) (v : Nat) (sh am cn : Int) : List Fdx := [⟨0, 26, (packN (im / 4) 26 : Int)⟩]
theorem facts11 {op d n m a im : Int} {v : Nat} {sh am cn : Int} (hs : shN op = 11) (h : isB op d n m a im v sh am cn = true) : (d = 0) ∧ (n = 0) ∧ (m = 0) ∧ (a = 0) ∧ (v = 0) ∧ (-134217728 ≤ im ∧ im ≤ 134217724 ∧ (4 : Int) ∣ im) ∧ (sh = 0) ∧ (am = 0) ∧ (cn = 0) := by
 unfold isB at h
 rw [hs] at h
 simp only [Bool.and_eq_true] at h
 obtain ⟨⟨⟨⟨⟨⟨⟨⟨h0, hd⟩, hn⟩, hm⟩, ha⟩, hk⟩, him⟩, ⟨hsh, ham⟩⟩, hcn⟩ := h
 exact ⟨eq_of_beq (show (d == 0) = true from hd), eq_of_beq (show (n == 0) = true from hn), eq_of_beq (show (m == 0) = true from hm), eq_of_beq (show (a == 0) = true from ha), of_decide_eq_true (show decide (v = 0) = true from hk), wB_of (show wB im (-134217728) 134217724 4 = true from him), (by have := of_decide_eq_true hsh; omega), eq_of_beq (show (am == 0) = true from ham), (by simp [cnB, hC] at hcn; omega)⟩
set_option maxRecDepth 100000 in
theorem good11 {op d n m a im : Int} {v : Nat} {sh am cn : Int} (hv : v < 18446744073709551616) (hs : shN op = 11) (h : isB op d n m a im v sh am cn = true) : Good (bN op.toNat) (fN op.toNat) (FL11 d n m a im v sh am cn) := by
 obtain ⟨hd, hn, hm, ha, hk, him, hsh, ham, hcn⟩ := facts11 hs h
 have g0 := packN_lt (im / 4) 26
 refine good_of (s := 11) (op_range (by rw [hs]; decide)) hs ((apart_congr rfl 0).trans (closed 10).1) ?_ ((orM_congr rfl).trans (closed 10).2)
 rw [List.all_eq_true]
 intro x hx
 simp only [FL11, List.mem_cons, List.not_mem_nil, or_false] at hx
 rcases hx with rfl
 ·exact decide_eq_true (show Int.toNat ((packN (im / 4) 26 : Int)) < 67108864 by omega)
theorem fill11 {op d n m a im : Int} {v : Nat} {sh am cn : Int} (hv : v < 18446744073709551616) (hs : shN op = 11) (h : isB op d n m a im v sh am cn = true) (k : Nat) (hk2 : 300 ≤ k) : fillS k 11 d n m a im v sh am cn = some (sumF (FL11 d n m a im v sh am cn) : Int) := by
 have g := good11 hv hs h
 obtain ⟨hd, hn, hm, ha, hk, him, hsh, ham, hcn⟩ := facts11 hs h
 have g0 := packN_lt (im / 4) 26
 have hwf : ∀ x ∈ FL11 d n m a im v sh am cn, Wf x := by
  intro x hx
  simp only [FL11, List.mem_cons, List.not_mem_nil, or_false] at hx
  rcases hx with rfl
  all_goals refine ⟨by simp, by simp, ?_, ?_⟩ <;> simp <;> omega
 have hw := word_of g (by simp [FL11]) hwf k hk2
 simp (config := { decide := true }) only [fillS, if_true, if_false]
 have q : wrap64 (Int.tdiv im 4) = im / 4 := quo_of him.2.2 (by omega)
 rw [q]
 have hp := packed_of k (by omega) 0 26 (im / 4) (by decide) (by decide) (by simp; omega)
 have hp2 : code_packed.f k 0 26 (im / 4) = some (0, 26, (packN (im / 4) 26 : Int)) := hp
 rw [hp2, Option.bind_some]
 refine Eq.trans (congrArg (code_word.f k) ?_) hw
 unfold FL11
 congr 1 <;> first | rfl | skip
 all_goals simp only [List.cons.injEq, S64.mk.injEq, and_true, true_and] <;> omega
/-! ### shape 12 -/
def FL12 (d n m a im : Int) (v : Nat) (sh am cn : Int) : List Fdx := [⟨0, 4, cn⟩, ⟨5, 19, (packN (im / 4) 19 : Int)⟩]
theorem facts12 {op d n m a im : Int} {v : Nat} {sh am cn : Int} (hs : shN op = 12) (h : isB op d n m a im v sh am cn = true) : (d = 0) ∧ (n = 0) ∧ (m = 0) ∧ (a = 0) ∧ (v = 0) ∧ (-1048576 ≤ im ∧ im ≤ 1048572 ∧ (4 : Int) ∣ im) ∧ (sh = 0) ∧ (am = 0) ∧ (0 ≤ cn ∧ cn ≤ 13) := by
 unfold isB at h
 rw [hs] at h
 simp only [Bool.and_eq_true] at h
 obtain ⟨⟨⟨⟨⟨⟨⟨⟨h0, hd⟩, hn⟩, hm⟩, ha⟩, hk⟩, him⟩, ⟨hsh, ham⟩⟩, hcn⟩ := h
 exact ⟨eq_of_beq (show (d == 0) = true from hd), eq_of_beq (show (n == 0) = true from hn), eq_of_beq (show (m == 0) = true from hm), eq_of_beq (show (a == 0) = true from ha), of_decide_eq_true (show decide (v = 0) = true from hk), wB_of (show wB im (-1048576) 1048572 4 = true from him), (by have := of_decide_eq_true hsh; omega), eq_of_beq (show (am == 0) = true from ham), (by simp [cnB, hC] at hcn; omega)⟩
set_option maxRecDepth 100000 in
theorem good12 {op d n m a im : Int} {v : Nat} {sh am cn : Int} (hv : v < 18446744073709551616) (hs : shN op = 12) (h : isB op d n m a im v sh am cn = true) : Good (bN op.toNat) (fN op.toNat) (FL12 d n m a im v sh am cn) := by
 obtain ⟨hd, hn, hm, ha, hk, him, hsh, ham, hcn⟩ := facts12 hs h
 have g0 := packN_lt (im / 4) 19
 refine good_of (s := 12) (op_range (by rw [hs]; decide)) hs ((apart_congr rfl 0).trans (closed 11).1) ?_ ((orM_congr rfl).trans (closed 11).2)
 rw [List.all_eq_true]
 intro x hx
 simp only [FL12, List.mem_cons, List.not_mem_nil, or_false] at hx
 rcases hx with rfl | rfl
 ·exact decide_eq_true (show Int.toNat (cn) < 16 by omega)
 ·exact decide_eq_true (show Int.toNat ((packN (im / 4) 19 : Int)) < 524288 by omega)
theorem fill12 {op d n m a im : Int} {v : Nat} {sh am cn : Int} (hv : v < 18446744073709551616) (hs : shN op = 12) (h : isB op d n m a im v sh am cn = true) (k : Nat) (hk2 : 300 ≤ k) : fillS k 12 d n m a im v sh am cn = some (sumF (FL12 d n m a im v sh am cn) : Int) := by
 have g := good12 hv hs h
 obtain ⟨hd, hn, hm, ha, hk, him, hsh, ham, hcn⟩ := facts12 hs h
 have g0 := packN_lt (im / 4) 19
 have hwf : ∀ x ∈ FL12 d n m a im v sh am cn, Wf x := by
  intro x hx
  simp only [FL12, List.mem_cons, List.not_mem_nil, or_false] at hx
  rcases hx with rfl | rfl
  all_goals refine ⟨by simp, by simp, ?_, ?_⟩ <;> simp <;> omega
 have hw := word_of g (by simp [FL12]) hwf k hk2
 simp (config := { decide := true }) only [fillS, if_true, if_false]
 have q : wrap64 (Int.tdiv im 4) = im / 4 := quo_of him.2.2 (by omega)
 rw [q]
 have hp := packed_of k (by omega) 5 19 (im / 4) (by decide) (by decide) (by simp; omega)
 have hp2 : code_packed.f k 5 19 (im / 4) = some (5, 19, (packN (im / 4) 19 : Int)) := hp
 rw [hp2, Option.bind_some]
 refine Eq.trans (congrArg (code_word.f k) ?_) hw
 unfold FL12
 congr 1 <;> first | rfl | skip
 all_goals simp only [List.cons.injEq, S64.mk.injEq, and_true, true_and] <;> omega
/-! ### shape 13 -/
def FL13 (d n m a im : Int) (v : Nat) (sh am cn : Int) : List Fdx := [⟨5, 5, n⟩]
theorem facts13 {op d n m a im : Int} {v : Nat} {sh am cn : Int} (hs : shN op = 13) (h : isB op d n m a im v sh am cn = true) : (d = 0) ∧ (0 ≤ n ∧ n ≤ 31) ∧ (m = 0) ∧ (a = 0) ∧ (v = 0) ∧ (im = 0) ∧ (sh = 0) ∧ (am = 0) ∧ (cn = 0) := by
 unfold isB at h
 rw [hs] at h
 simp only [Bool.and_eq_true] at h
 obtain ⟨⟨⟨⟨⟨⟨⟨⟨h0, hd⟩, hn⟩, hm⟩, ha⟩, hk⟩, him⟩, ⟨hsh, ham⟩⟩, hcn⟩ := h
 exact ⟨eq_of_beq (show (d == 0) = true from hd), of_decide_eq_true (show decide (0 ≤ n ∧ n ≤ 31) = true from hn), eq_of_beq (show (m == 0) = true from hm), eq_of_beq (show (a == 0) = true from ha), of_decide_eq_true (show decide (v = 0) = true from hk), eq_of_beq (show (im == 0) = true from him), (by have := of_decide_eq_true hsh; omega), eq_of_beq (show (am == 0) = true from ham), (by simp [cnB, hC] at hcn; omega)⟩
set_option maxRecDepth 100000 in
theorem good13 {op d n m a im : Int} {v : Nat} {sh am cn : Int} (hv : v < 18446744073709551616) (hs : shN op = 13) (h : isB op d n m a im v sh am cn = true) : Good (bN op.toNat) (fN op.toNat) (FL13 d n m a im v sh am cn) := by
 obtain ⟨hd, hn, hm, ha, hk, him, hsh, ham, hcn⟩ := facts13 hs h
 refine good_of (s := 13) (op_range (by rw [hs]; decide)) hs ((apart_congr rfl 0).trans (closed 12).1) ?_ ((orM_congr rfl).trans (closed 12).2)
 rw [List.all_eq_true]
 intro x hx
 simp only [FL13, List.mem_cons, List.not_mem_nil, or_false] at hx
 rcases hx with rfl
 ·exact decide_eq_true (show Int.toNat (n) < 32 by omega)
theorem fill13 {op d n m a im : Int} {v : Nat} {sh am cn : Int} (hv : v < 18446744073709551616) (hs : shN op = 13) (h : isB op d n m a im v sh am cn = true) (k : Nat) (hk2 : 300 ≤ k) : fillS k 13 d n m a im v sh am cn = some (sumF (FL13 d n m a im v sh am cn) : Int) := by
 have g := good13 hv hs h
 obtain ⟨hd, hn, hm, ha, hk, him, hsh, ham, hcn⟩ := facts13 hs h
 have hwf : ∀ x ∈ FL13 d n m a im v sh am cn, Wf x := by
  intro x hx
  simp only [FL13, List.mem_cons, List.not_mem_nil, or_false] at hx
  rcases hx with rfl
  all_goals refine ⟨by simp, by simp, ?_, ?_⟩ <;> simp <;> omega
 have hw := word_of g (by simp [FL13]) hwf k hk2
 simp (config := { decide := true }) only [fillS, if_true, if_false]
 refine Eq.trans (congrArg (code_word.f k) ?_) hw
 unfold FL13
 congr 1 <;> first | rfl | skip
 all_goals simp only [List.cons.injEq, S64.mk.injEq, and_true, true_and] <;> omega
/-! ### shape 14 -/
def FL14 (d n m a im : Int) (v : Nat) (sh am cn : Int) : List Fdx := [⟨5, 16, im⟩]
theorem facts14 {op d n m a im : Int} {v : Nat} {sh am cn : Int} (hs : shN op = 14) (h : isB op d n m a im v sh am cn = true) : (d = 0) ∧ (n = 0) ∧ (m = 0) ∧ (a = 0) ∧ (v = 0) ∧ (0 ≤ im ∧ im ≤ 65535 ∧ (1 : Int) ∣ im) ∧ (sh = 0) ∧ (am = 0) ∧ (cn = 0) := by
 unfold isB at h
 rw [hs] at h
 simp only [Bool.and_eq_true] at h
 obtain ⟨⟨⟨⟨⟨⟨⟨⟨h0, hd⟩, hn⟩, hm⟩, ha⟩, hk⟩, him⟩, ⟨hsh, ham⟩⟩, hcn⟩ := h
 exact ⟨eq_of_beq (show (d == 0) = true from hd), eq_of_beq (show (n == 0) = true from hn), eq_of_beq (show (m == 0) = true from hm), eq_of_beq (show (a == 0) = true from ha), of_decide_eq_true (show decide (v = 0) = true from hk), wB_of (show wB im (0) 65535 1 = true from him), (by have := of_decide_eq_true hsh; omega), eq_of_beq (show (am == 0) = true from ham), (by simp [cnB, hC] at hcn; omega)⟩
set_option maxRecDepth 100000 in
theorem good14 {op d n m a im : Int} {v : Nat} {sh am cn : Int} (hv : v < 18446744073709551616) (hs : shN op = 14) (h : isB op d n m a im v sh am cn = true) : Good (bN op.toNat) (fN op.toNat) (FL14 d n m a im v sh am cn) := by
 obtain ⟨hd, hn, hm, ha, hk, him, hsh, ham, hcn⟩ := facts14 hs h
 refine good_of (s := 14) (op_range (by rw [hs]; decide)) hs ((apart_congr rfl 0).trans (closed 13).1) ?_ ((orM_congr rfl).trans (closed 13).2)
 rw [List.all_eq_true]
 intro x hx
 simp only [FL14, List.mem_cons, List.not_mem_nil, or_false] at hx
 rcases hx with rfl
 ·exact decide_eq_true (show Int.toNat (im) < 65536 by omega)
theorem fill14 {op d n m a im : Int} {v : Nat} {sh am cn : Int} (hv : v < 18446744073709551616) (hs : shN op = 14) (h : isB op d n m a im v sh am cn = true) (k : Nat) (hk2 : 300 ≤ k) : fillS k 14 d n m a im v sh am cn = some (sumF (FL14 d n m a im v sh am cn) : Int) := by
 have g := good14 hv hs h
 obtain ⟨hd, hn, hm, ha, hk, him, hsh, ham, hcn⟩ := facts14 hs h
 have hwf : ∀ x ∈ FL14 d n m a im v sh am cn, Wf x := by
  intro x hx
  simp only [FL14, List.mem_cons, List.not_mem_nil, or_false] at hx
  rcases hx with rfl
  all_goals refine ⟨by simp, by simp, ?_, ?_⟩ <;> simp <;> omega
 have hw := word_of g (by simp [FL14]) hwf k hk2
 simp (config := { decide := true }) only [fillS, if_true, if_false]
 refine Eq.trans (congrArg (code_word.f k) ?_) hw
 unfold FL14
 congr 1 <;> first | rfl | skip
 all_goals simp only [List.cons.injEq, S64.mk.injEq, and_true, true_and] <;> omega
/-! ### shape 15 -/
def FL15 (d n m a im : Int) (v : Nat) (sh am cn : Int) : List Fdx := []
theorem facts15 {op d n m a im : Int} {v : Nat} {sh am cn : Int} (hs : shN op = 15) (h : isB op d n m a im v sh am cn = true) : (d = 0) ∧ (n = 0) ∧ (m = 0) ∧ (a = 0) ∧ (v = 0) ∧ (im = 0) ∧ (sh = 0) ∧ (am = 0) ∧ (cn = 0) := by
 unfold isB at h
 rw [hs] at h
 simp only [Bool.and_eq_true] at h
 obtain ⟨⟨⟨⟨⟨⟨⟨⟨h0, hd⟩, hn⟩, hm⟩, ha⟩, hk⟩, him⟩, ⟨hsh, ham⟩⟩, hcn⟩ := h
 exact ⟨eq_of_beq (show (d == 0) = true from hd), eq_of_beq (show (n == 0) = true from hn), eq_of_beq (show (m == 0) = true from hm), eq_of_beq (show (a == 0) = true from ha), of_decide_eq_true (show decide (v = 0) = true from hk), eq_of_beq (show (im == 0) = true from him), (by have := of_decide_eq_true hsh; omega), eq_of_beq (show (am == 0) = true from ham), (by simp [cnB, hC] at hcn; omega)⟩
set_option maxRecDepth 100000 in
theorem good15 {op d n m a im : Int} {v : Nat} {sh am cn : Int} (hv : v < 18446744073709551616) (hs : shN op = 15) (h : isB op d n m a im v sh am cn = true) : Good (bN op.toNat) (fN op.toNat) (FL15 d n m a im v sh am cn) := by
 obtain ⟨hd, hn, hm, ha, hk, him, hsh, ham, hcn⟩ := facts15 hs h
 refine good_of (s := 15) (op_range (by rw [hs]; decide)) hs ((apart_congr rfl 0).trans (closed 14).1) ?_ ((orM_congr rfl).trans (closed 14).2)
 rfl
theorem fill15 {op d n m a im : Int} {v : Nat} {sh am cn : Int} (hv : v < 18446744073709551616) (hs : shN op = 15) (h : isB op d n m a im v sh am cn = true) (k : Nat) (hk2 : 300 ≤ k) : fillS k 15 d n m a im v sh am cn = some (sumF (FL15 d n m a im v sh am cn) : Int) := by
 have g := good15 hv hs h
 obtain ⟨hd, hn, hm, ha, hk, him, hsh, ham, hcn⟩ := facts15 hs h
 rfl
/-! ### shape 16 -/
def FL16 (d n m a im : Int) (v : Nat) (sh am cn : Int) : List Fdx := [⟨0, 5, d⟩, ⟨5, 5, n⟩, ⟨12, 4, cn⟩, ⟨16, 5, m⟩]
theorem facts16 {op d n m a im : Int} {v : Nat} {sh am cn : Int} (hs : shN op = 16) (h : isB op d n m a im v sh am cn = true) : (0 ≤ d ∧ d ≤ 31) ∧ (0 ≤ n ∧ n ≤ 31) ∧ (0 ≤ m ∧ m ≤ 31) ∧ (a = 0) ∧ (v = 0) ∧ (im = 0) ∧ (sh = 0) ∧ (am = 0) ∧ (0 ≤ cn ∧ cn ≤ 13) := by
 unfold isB at h
 rw [hs] at h
 simp only [Bool.and_eq_true] at h
 obtain ⟨⟨⟨⟨⟨⟨⟨⟨h0, hd⟩, hn⟩, hm⟩, ha⟩, hk⟩, him⟩, ⟨hsh, ham⟩⟩, hcn⟩ := h
 exact ⟨of_decide_eq_true (show decide (0 ≤ d ∧ d ≤ 31) = true from hd), of_decide_eq_true (show decide (0 ≤ n ∧ n ≤ 31) = true from hn), of_decide_eq_true (show decide (0 ≤ m ∧ m ≤ 31) = true from hm), eq_of_beq (show (a == 0) = true from ha), of_decide_eq_true (show decide (v = 0) = true from hk), eq_of_beq (show (im == 0) = true from him), (by have := of_decide_eq_true hsh; omega), eq_of_beq (show (am == 0) = true from ham), (by simp [cnB, hC] at hcn; omega)⟩
set_option maxRecDepth 100000 in
theorem good16 {op d n m a im : Int} {v : Nat} {sh am cn : Int} (hv : v < 18446744073709551616) (hs : shN op = 16) (h : isB op d n m a im v sh am cn = true) : Good (bN op.toNat) (fN op.toNat) (FL16 d n m a im v sh am cn) := by
 obtain ⟨hd, hn, hm, ha, hk, him, hsh, ham, hcn⟩ := facts16 hs h
 refine good_of (s := 16) (op_range (by rw [hs]; decide)) hs ((apart_congr rfl 0).trans (closed 15).1) ?_ ((orM_congr rfl).trans (closed 15).2)
 rw [List.all_eq_true]
 intro x hx
 simp only [FL16, List.mem_cons, List.not_mem_nil, or_false] at hx
 rcases hx with rfl | rfl | rfl | rfl
 ·exact decide_eq_true (show Int.toNat (d) < 32 by omega)
 ·exact decide_eq_true (show Int.toNat (n) < 32 by omega)
 ·exact decide_eq_true (show Int.toNat (cn) < 16 by omega)
 ·exact decide_eq_true (show Int.toNat (m) < 32 by omega)
theorem fill16 {op d n m a im : Int} {v : Nat} {sh am cn : Int} (hv : v < 18446744073709551616) (hs : shN op = 16) (h : isB op d n m a im v sh am cn = true) (k : Nat) (hk2 : 300 ≤ k) : fillS k 16 d n m a im v sh am cn = some (sumF (FL16 d n m a im v sh am cn) : Int) := by
 have g := good16 hv hs h
 obtain ⟨hd, hn, hm, ha, hk, him, hsh, ham, hcn⟩ := facts16 hs h
 have hwf : ∀ x ∈ FL16 d n m a im v sh am cn, Wf x := by
  intro x hx
  simp only [FL16, List.mem_cons, List.not_mem_nil, or_false] at hx
  rcases hx with rfl | rfl | rfl | rfl
  all_goals refine ⟨by simp, by simp, ?_, ?_⟩ <;> simp <;> omega
 have hw := word_of g (by simp [FL16]) hwf k hk2
 simp (config := { decide := true }) only [fillS, if_true, if_false]
 refine Eq.trans (congrArg (code_word.f k) ?_) hw
 unfold FL16
 congr 1 <;> first | rfl | skip
 all_goals simp only [List.cons.injEq, S64.mk.injEq, and_true, true_and] <;> omega
/-! ### what is read -/
theorem read1 {u : Nat} (hu : u < 4294967296) (op : Int) (k : Nat) (hk : 300 ≤ k) : readS k u op (pt u 0 5) (pt u 5 5) (pt u 16 5) 1 = some (some ⟨op, (pt u 0 5 : Int), 0, 0, 0, (pt u 5 16 : Int), 0, 0, (pt u 21 2 : Int) * 16, 0⟩) := by
 simp (config := { decide := true }) only [readS, if_true, if_false]
 have e5_16 : code_part.f (u : Int) 5 16 = some (pt u 5 16 : Int) := part_pt hu 5 16 (by decide) (by decide)
 have l5_16 := pt_lt u 5 16
 rw [e5_16, Option.bind_some]
 have e21_2 : code_part.f (u : Int) 21 2 = some (pt u 21 2 : Int) := part_pt hu 21 2 (by decide) (by decide)
 have l21_2 := pt_lt u 21 2
 rw [e21_2, Option.bind_some]
 rw [w64_in (by omega)]
theorem back1 {op d n m a im : Int} {v : Nat} {sh am cn : Int} (hv : v < 18446744073709551616) (hs : shN op = 1) (h : isB op d n m a im v sh am cn = true) (k : Nat) (hk2 : 300 ≤ k) {w : Nat} (hw : w = wN (bN op.toNat) (FL1 d n m a im v sh am cn)) : readS k w op (pt w 0 5) (pt w 5 5) (pt w 16 5) 1 = some (some ⟨op, d, n, m, a, im, v, sh, am, cn⟩) := by
 have g := good1 hv hs h
 have hp := wN_part g
 rw [← hw] at hp
 have hlt := wN_lt g
 rw [← hw] at hlt
 obtain ⟨hd, hn, hm, ha, hk, him, hsh, ham, hcn⟩ := facts1 hs h
 have p0 : pt w 0 5 = Int.toNat (d) := hp ⟨0, 5, d⟩ (by simp [FL1])
 have p1 : pt w 5 16 = Int.toNat (im) := hp ⟨5, 16, im⟩ (by simp [FL1])
 have p2 : pt w 21 2 = Int.toNat (am / 16) := hp ⟨21, 2, am / 16⟩ (by simp [FL1])
 rw [read1 hlt op k hk2]
 refine congrArg (fun z => some (some z)) ?_
 rw [IR.mk.injEq]
 refine ⟨rfl, ?_, ?_, ?_, ?_, ?_, ?_, ?_, ?_, ?_⟩ <;> first | rfl | omega
theorem word1 (u : Nat) : ∀ x ∈ FL1 ((pt u 0 5 : Int)) (0) (0) (0) ((pt u 5 16 : Int)) (0) (0) ((pt u 21 2 : Int) * 16) (0), x.f2 = (pt u x.f0.toNat x.f1.toNat : Int) := by
 intro x hx
 simp only [FL1, List.mem_cons, List.not_mem_nil, or_false] at hx
 rcases hx with rfl | rfl | rfl
 ·show _ = (pt u 0 5 : Int)
  first | rfl | (dsimp only; omega)
 ·show _ = (pt u 5 16 : Int)
  first | rfl | (dsimp only; omega)
 ·show _ = (pt u 21 2 : Int)
  first | rfl | (dsimp only; omega)
theorem read2 {u : Nat} (hu : u < 4294967296) (op : Int) (k : Nat) (hk : 300 ≤ k) : readS k u op (pt u 0 5) (pt u 5 5) (pt u 16 5) 2 = some (some ⟨op, (pt u 0 5 : Int), (pt u 5 5 : Int), 0, 0, (pt u 10 12 : Int), 0, 0, (pt u 22 1 : Int) * 12, 0⟩) := by
 simp (config := { decide := true }) only [readS, if_true, if_false]
 have e10_12 : code_part.f (u : Int) 10 12 = some (pt u 10 12 : Int) := part_pt hu 10 12 (by decide) (by decide)
 have l10_12 := pt_lt u 10 12
 rw [e10_12, Option.bind_some]
 have e22_1 : code_part.f (u : Int) 22 1 = some (pt u 22 1 : Int) := part_pt hu 22 1 (by decide) (by decide)
 have l22_1 := pt_lt u 22 1
 rw [e22_1, Option.bind_some]
 rw [w64_in (by omega)]
theorem back2 {op d n m a im : Int} {v : Nat} {sh am cn : Int} (hv : v < 18446744073709551616) (hs : shN op = 2) (h : isB op d n m a im v sh am cn = true) (k : Nat) (hk2 : 300 ≤ k) {w : Nat} (hw : w = wN (bN op.toNat) (FL2 d n m a im v sh am cn)) : readS k w op (pt w 0 5) (pt w 5 5) (pt w 16 5) 2 = some (some ⟨op, d, n, m, a, im, v, sh, am, cn⟩) := by
 have g := good2 hv hs h
 have hp := wN_part g
 rw [← hw] at hp
 have hlt := wN_lt g
 rw [← hw] at hlt
 obtain ⟨hd, hn, hm, ha, hk, him, hsh, ham, hcn⟩ := facts2 hs h
 have p0 : pt w 0 5 = Int.toNat (d) := hp ⟨0, 5, d⟩ (by simp [FL2])
 have p1 : pt w 5 5 = Int.toNat (n) := hp ⟨5, 5, n⟩ (by simp [FL2])
 have p2 : pt w 10 12 = Int.toNat (im) := hp ⟨10, 12, im⟩ (by simp [FL2])
 have p3 : pt w 22 1 = Int.toNat (am / 12) := hp ⟨22, 1, am / 12⟩ (by simp [FL2])
 rw [read2 hlt op k hk2]
 refine congrArg (fun z => some (some z)) ?_
 rw [IR.mk.injEq]
 refine ⟨rfl, ?_, ?_, ?_, ?_, ?_, ?_, ?_, ?_, ?_⟩ <;> first | rfl | omega
theorem word2 (u : Nat) : ∀ x ∈ FL2 ((pt u 0 5 : Int)) ((pt u 5 5 : Int)) (0) (0) ((pt u 10 12 : Int)) (0) (0) ((pt u 22 1 : Int) * 12) (0), x.f2 = (pt u x.f0.toNat x.f1.toNat : Int) := by
 intro x hx
 simp only [FL2, List.mem_cons, List.not_mem_nil, or_false] at hx
 rcases hx with rfl | rfl | rfl | rfl
 ·show _ = (pt u 0 5 : Int)
  first | rfl | (dsimp only; omega)
 ·show _ = (pt u 5 5 : Int)
  first | rfl | (dsimp only; omega)
 ·show _ = (pt u 10 12 : Int)
  first | rfl | (dsimp only; omega)
 ·show _ = (pt u 22 1 : Int)
  first | rfl | (dsimp only; omega)
theorem read3 {u : Nat} (hu : u < 4294967296) (op : Int) (k : Nat) (hk : 300 ≤ k) : readS k u op (pt u 0 5) (pt u 5 5) (pt u 16 5) 3 = if firstZ (pt u 22 1) (pt u 16 6) (pt u 10 6) = 0 then some none else some (some ⟨op, pt u 0 5, pt u 5 5, 0, 0, 0, (againN (rotN (2 ^ (pt u 10 6 + 1 - exN (firstZ (pt u 22 1) (pt u 16 6) (pt u 10 6))) - 1) (pt u 16 6) (firstZ (pt u 22 1) (pt u 16 6) (pt u 10 6))) (firstZ (pt u 22 1) (pt u 16 6) (pt u 10 6)) : Int), 0, 0, 0⟩) := by
 simp (config := { decide := true }) only [readS, if_true, if_false]
 have e22_1 : code_part.f (u : Int) 22 1 = some (pt u 22 1 : Int) := part_pt hu 22 1 (by decide) (by decide)
 have l22_1 := pt_lt u 22 1
 rw [e22_1, Option.bind_some]
 have e16_6 : code_part.f (u : Int) 16 6 = some (pt u 16 6 : Int) := part_pt hu 16 6 (by decide) (by decide)
 have l16_6 := pt_lt u 16 6
 rw [e16_6, Option.bind_some]
 have e10_6 : code_part.f (u : Int) 10 6 = some (pt u 10 6 : Int) := part_pt hu 10 6 (by decide) (by decide)
 have l10_6 := pt_lt u 10 6
 rw [e10_6, Option.bind_some]
 rw [dec_go (by omega) (by omega) (by omega) k (by omega)]
 split
 ·rfl
 ·rfl
theorem back3 {op d n m a im : Int} {v : Nat} {sh am cn : Int} (hv : v < 18446744073709551616) (hs : shN op = 3) (h : isB op d n m a im v sh am cn = true) (k : Nat) (hk2 : 300 ≤ k) {w : Nat} (hw : w = wN (bN op.toNat) (FL3 d n m a im v sh am cn)) : readS k w op (pt w 0 5) (pt w 5 5) (pt w 16 5) 3 = some (some ⟨op, d, n, m, a, im, v, sh, am, cn⟩) := by
 have g := good3 hv hs h
 have hp := wN_part g
 rw [← hw] at hp
 have hlt := wN_lt g
 rw [← hw] at hlt
 obtain ⟨hd, hn, hm, ha, hk, him, hsh, ham, hcn⟩ := facts3 hs h
 have p0 : pt w 0 5 = Int.toNat (d) := hp ⟨0, 5, d⟩ (by simp [FL3])
 have p1 : pt w 5 5 = Int.toNat (n) := hp ⟨5, 5, n⟩ (by simp [FL3])
 have p2 : pt w 10 6 = Int.toNat ((mE v).2.2.1) := hp ⟨10, 6, (mE v).2.2.1⟩ (by simp [FL3])
 have p3 : pt w 16 6 = Int.toNat ((mE v).2.1) := hp ⟨16, 6, (mE v).2.1⟩ (by simp [FL3])
 have p4 : pt w 22 1 = Int.toNat ((mE v).1) := hp ⟨22, 1, (mE v).1⟩ (by simp [FL3])
 obtain ⟨z, o, t, hr⟩ := hk
 have hl := hr.sz.le
 have o1 := hr.o1
 have o2 := hr.o2
 have ht := hr.tl
 rw [mE_run hv hr] at p2 p3 p4
 simp only [Int.toNat_natCast] at p2 p3 p4
 have hz : firstZ (nN z) t (o - 1 + exN z) = z := firstZ_of hr.sz ⟨by unfold nN; split <;> simp [*], by omega, by omega, by omega⟩
 rw [read3 hlt op k hk2, p2, p3, p4, hz, if_neg (by omega), show o - 1 + exN z + 1 - exN z = o by omega, run_again hv hr]
 refine congrArg (fun z => some (some z)) ?_
 rw [IR.mk.injEq]
 refine ⟨rfl, ?_, ?_, ?_, ?_, ?_, ?_, ?_, ?_, ?_⟩ <;> first | rfl | omega
theorem word3 {u : Nat} (hz : firstZ (pt u 22 1) (pt u 16 6) (pt u 10 6) ≠ 0) {v : Nat} (hvv : v = againN (rotN (2 ^ (pt u 10 6 + 1 - exN (firstZ (pt u 22 1) (pt u 16 6) (pt u 10 6))) - 1) (pt u 16 6) (firstZ (pt u 22 1) (pt u 16 6) (pt u 10 6))) (firstZ (pt u 22 1) (pt u 16 6) (pt u 10 6))) (m a im sh am cn : Int) : ∀ x ∈ FL3 (pt u 0 5) (pt u 5 5) m a im v sh am cn, x.f2 = (pt u x.f0.toNat x.f1.toNat : Int) := by
 obtain ⟨hs, h1, h2, h3, h4⟩ := firstZ_dc hz
 have hl := hs.le
 have l1 := pt_lt u 22 1
 generalize firstZ (pt u 22 1) (pt u 16 6) (pt u 10 6) = z at *
 have hr := again_run hs (o := pt u 10 6 + 1 - exN z) (t := pt u 16 6) (by omega) h3 h4
 rw [← hvv] at hr
 have hv : v < 18446744073709551616 := by rw [hvv]; exact againN_lt _ _
 have e := mE_run hv hr
 have en : nN z = pt u 22 1 := by unfold nN; split <;> omega
 intro x hx
 simp only [FL3, e, List.mem_cons, List.not_mem_nil, or_false] at hx
 rcases hx with rfl | rfl | rfl | rfl | rfl
 ·rfl
 ·rfl
 ·show ((_ : Nat) : Int) = _
  rw [show pt u 10 6 + 1 - exN z - 1 + exN z = pt u 10 6 by omega]
  rfl
 ·rfl
 ·show ((nN z : Nat) : Int) = _
  rw [en]
  rfl
theorem read4 {u : Nat} (hu : u < 4294967296) (op : Int) (k : Nat) (hk : 300 ≤ k) : readS k u op (pt u 0 5) (pt u 5 5) (pt u 16 5) 4 = some (some ⟨op, (pt u 0 5 : Int), (pt u 5 5 : Int), (pt u 16 5 : Int), 0, 0, 0, (pt u 22 2 : Int), (pt u 10 6 : Int), 0⟩) := by
 simp (config := { decide := true }) only [readS, if_true, if_false]
 have e10_6 : code_part.f (u : Int) 10 6 = some (pt u 10 6 : Int) := part_pt hu 10 6 (by decide) (by decide)
 have l10_6 := pt_lt u 10 6
 rw [e10_6, Option.bind_some]
 have e22_2 : code_part.f (u : Int) 22 2 = some (pt u 22 2 : Int) := part_pt hu 22 2 (by decide) (by decide)
 have l22_2 := pt_lt u 22 2
 rw [e22_2, Option.bind_some]
theorem back4 {op d n m a im : Int} {v : Nat} {sh am cn : Int} (hv : v < 18446744073709551616) (hs : shN op = 4) (h : isB op d n m a im v sh am cn = true) (k : Nat) (hk2 : 300 ≤ k) {w : Nat} (hw : w = wN (bN op.toNat) (FL4 d n m a im v sh am cn)) : readS k w op (pt w 0 5) (pt w 5 5) (pt w 16 5) 4 = some (some ⟨op, d, n, m, a, im, v, sh, am, cn⟩) := by
 have g := good4 hv hs h
 have hp := wN_part g
 rw [← hw] at hp
 have hlt := wN_lt g
 rw [← hw] at hlt
 obtain ⟨hd, hn, hm, ha, hk, him, hsh, ham, hcn⟩ := facts4 hs h
 have p0 : pt w 0 5 = Int.toNat (d) := hp ⟨0, 5, d⟩ (by simp [FL4])
 have p1 : pt w 5 5 = Int.toNat (n) := hp ⟨5, 5, n⟩ (by simp [FL4])
 have p2 : pt w 10 6 = Int.toNat (am) := hp ⟨10, 6, am⟩ (by simp [FL4])
 have p3 : pt w 16 5 = Int.toNat (m) := hp ⟨16, 5, m⟩ (by simp [FL4])
 have p4 : pt w 22 2 = Int.toNat (sh) := hp ⟨22, 2, sh⟩ (by simp [FL4])
 rw [read4 hlt op k hk2]
 refine congrArg (fun z => some (some z)) ?_
 rw [IR.mk.injEq]
 refine ⟨rfl, ?_, ?_, ?_, ?_, ?_, ?_, ?_, ?_, ?_⟩ <;> first | rfl | omega
theorem word4 (u : Nat) : ∀ x ∈ FL4 ((pt u 0 5 : Int)) ((pt u 5 5 : Int)) ((pt u 16 5 : Int)) (0) (0) (0) ((pt u 22 2 : Int)) ((pt u 10 6 : Int)) (0), x.f2 = (pt u x.f0.toNat x.f1.toNat : Int) := by
 intro x hx
 simp only [FL4, List.mem_cons, List.not_mem_nil, or_false] at hx
 rcases hx with rfl | rfl | rfl | rfl | rfl
 ·show _ = (pt u 0 5 : Int)
  first | rfl | (dsimp only; omega)
 ·show _ = (pt u 5 5 : Int)
  first | rfl | (dsimp only; omega)
 ·show _ = (pt u 10 6 : Int)
  first | rfl | (dsimp only; omega)
 ·show _ = (pt u 16 5 : Int)
  first | rfl | (dsimp only; omega)
 ·show _ = (pt u 22 2 : Int)
  first | rfl | (dsimp only; omega)
theorem read5 {u : Nat} (hu : u < 4294967296) (op : Int) (k : Nat) (hk : 300 ≤ k) : readS k u op (pt u 0 5) (pt u 5 5) (pt u 16 5) 5 = some (some ⟨op, (pt u 0 5 : Int), (pt u 5 5 : Int), (pt u 16 5 : Int), 0, 0, 0, (pt u 22 2 : Int), (pt u 10 6 : Int), 0⟩) := by
 simp (config := { decide := true }) only [readS, if_true, if_false]
 have e10_6 : code_part.f (u : Int) 10 6 = some (pt u 10 6 : Int) := part_pt hu 10 6 (by decide) (by decide)
 have l10_6 := pt_lt u 10 6
 rw [e10_6, Option.bind_some]
 have e22_2 : code_part.f (u : Int) 22 2 = some (pt u 22 2 : Int) := part_pt hu 22 2 (by decide) (by decide)
 have l22_2 := pt_lt u 22 2
 rw [e22_2, Option.bind_some]
theorem back5 {op d n m a im : Int} {v : Nat} {sh am cn : Int} (hv : v < 18446744073709551616) (hs : shN op = 5) (h : isB op d n m a im v sh am cn = true) (k : Nat) (hk2 : 300 ≤ k) {w : Nat} (hw : w = wN (bN op.toNat) (FL5 d n m a im v sh am cn)) : readS k w op (pt w 0 5) (pt w 5 5) (pt w 16 5) 5 = some (some ⟨op, d, n, m, a, im, v, sh, am, cn⟩) := by
 have g := good5 hv hs h
 have hp := wN_part g
 rw [← hw] at hp
 have hlt := wN_lt g
 rw [← hw] at hlt
 obtain ⟨hd, hn, hm, ha, hk, him, hsh, ham, hcn⟩ := facts5 hs h
 have p0 : pt w 0 5 = Int.toNat (d) := hp ⟨0, 5, d⟩ (by simp [FL5])
 have p1 : pt w 5 5 = Int.toNat (n) := hp ⟨5, 5, n⟩ (by simp [FL5])
 have p2 : pt w 10 6 = Int.toNat (am) := hp ⟨10, 6, am⟩ (by simp [FL5])
 have p3 : pt w 16 5 = Int.toNat (m) := hp ⟨16, 5, m⟩ (by simp [FL5])
 have p4 : pt w 22 2 = Int.toNat (sh) := hp ⟨22, 2, sh⟩ (by simp [FL5])
 rw [read5 hlt op k hk2]
 refine congrArg (fun z => some (some z)) ?_
 rw [IR.mk.injEq]
 refine ⟨rfl, ?_, ?_, ?_, ?_, ?_, ?_, ?_, ?_, ?_⟩ <;> first | rfl | omega
theorem word5 (u : Nat) : ∀ x ∈ FL5 ((pt u 0 5 : Int)) ((pt u 5 5 : Int)) ((pt u 16 5 : Int)) (0) (0) (0) ((pt u 22 2 : Int)) ((pt u 10 6 : Int)) (0), x.f2 = (pt u x.f0.toNat x.f1.toNat : Int) := by
 intro x hx
 simp only [FL5, List.mem_cons, List.not_mem_nil, or_false] at hx
 rcases hx with rfl | rfl | rfl | rfl | rfl
 ·show _ = (pt u 0 5 : Int)
  first | rfl | (dsimp only; omega)
 ·show _ = (pt u 5 5 : Int)
  first | rfl | (dsimp only; omega)
 ·show _ = (pt u 10 6 : Int)
  first | rfl | (dsimp only; omega)
 ·show _ = (pt u 16 5 : Int)
  first | rfl | (dsimp only; omega)
 ·show _ = (pt u 22 2 : Int)
  first | rfl | (dsimp only; omega)
theorem read6 {u : Nat} (hu : u < 4294967296) (op : Int) (k : Nat) (hk : 300 ≤ k) : readS k u op (pt u 0 5) (pt u 5 5) (pt u 16 5) 6 = some (some ⟨op, (pt u 0 5 : Int), (pt u 5 5 : Int), (pt u 16 5 : Int), (pt u 10 5 : Int), 0, 0, 0, 0, 0⟩) := by
 simp (config := { decide := true }) only [readS, if_true, if_false]
 have e10_5 : code_part.f (u : Int) 10 5 = some (pt u 10 5 : Int) := part_pt hu 10 5 (by decide) (by decide)
 have l10_5 := pt_lt u 10 5
 rw [e10_5, Option.bind_some]
theorem back6 {op d n m a im : Int} {v : Nat} {sh am cn : Int} (hv : v < 18446744073709551616) (hs : shN op = 6) (h : isB op d n m a im v sh am cn = true) (k : Nat) (hk2 : 300 ≤ k) {w : Nat} (hw : w = wN (bN op.toNat) (FL6 d n m a im v sh am cn)) : readS k w op (pt w 0 5) (pt w 5 5) (pt w 16 5) 6 = some (some ⟨op, d, n, m, a, im, v, sh, am, cn⟩) := by
 have g := good6 hv hs h
 have hp := wN_part g
 rw [← hw] at hp
 have hlt := wN_lt g
 rw [← hw] at hlt
 obtain ⟨hd, hn, hm, ha, hk, him, hsh, ham, hcn⟩ := facts6 hs h
 have p0 : pt w 0 5 = Int.toNat (d) := hp ⟨0, 5, d⟩ (by simp [FL6])
 have p1 : pt w 5 5 = Int.toNat (n) := hp ⟨5, 5, n⟩ (by simp [FL6])
 have p2 : pt w 10 5 = Int.toNat (a) := hp ⟨10, 5, a⟩ (by simp [FL6])
 have p3 : pt w 16 5 = Int.toNat (m) := hp ⟨16, 5, m⟩ (by simp [FL6])
 rw [read6 hlt op k hk2]
 refine congrArg (fun z => some (some z)) ?_
 rw [IR.mk.injEq]
 refine ⟨rfl, ?_, ?_, ?_, ?_, ?_, ?_, ?_, ?_, ?_⟩ <;> first | rfl | omega
theorem word6 (u : Nat) : ∀ x ∈ FL6 ((pt u 0 5 : Int)) ((pt u 5 5 : Int)) ((pt u 16 5 : Int)) ((pt u 10 5 : Int)) (0) (0) (0) (0) (0), x.f2 = (pt u x.f0.toNat x.f1.toNat : Int) := by
 intro x hx
 simp only [FL6, List.mem_cons, List.not_mem_nil, or_false] at hx
 rcases hx with rfl | rfl | rfl | rfl
 ·show _ = (pt u 0 5 : Int)
  first | rfl | (dsimp only; omega)
 ·show _ = (pt u 5 5 : Int)
  first | rfl | (dsimp only; omega)
 ·show _ = (pt u 10 5 : Int)
  first | rfl | (dsimp only; omega)
 ·show _ = (pt u 16 5 : Int)
  first | rfl | (dsimp only; omega)
theorem read7 {u : Nat} (hu : u < 4294967296) (op : Int) (k : Nat) (hk : 300 ≤ k) : readS k u op (pt u 0 5) (pt u 5 5) (pt u 16 5) 7 = some (some ⟨op, (pt u 0 5 : Int), (pt u 5 5 : Int), 0, 0, (pt u 10 12 : Int) * 8, 0, 0, 0, 0⟩) := by
 simp (config := { decide := true }) only [readS, if_true, if_false]
 have e10_12 : code_part.f (u : Int) 10 12 = some (pt u 10 12 : Int) := part_pt hu 10 12 (by decide) (by decide)
 have l10_12 := pt_lt u 10 12
 rw [e10_12, Option.bind_some]
 rw [w64_in (by omega)]
theorem back7 {op d n m a im : Int} {v : Nat} {sh am cn : Int} (hv : v < 18446744073709551616) (hs : shN op = 7) (h : isB op d n m a im v sh am cn = true) (k : Nat) (hk2 : 300 ≤ k) {w : Nat} (hw : w = wN (bN op.toNat) (FL7 d n m a im v sh am cn)) : readS k w op (pt w 0 5) (pt w 5 5) (pt w 16 5) 7 = some (some ⟨op, d, n, m, a, im, v, sh, am, cn⟩) := by
 have g := good7 hv hs h
 have hp := wN_part g
 rw [← hw] at hp
 have hlt := wN_lt g
 rw [← hw] at hlt
 obtain ⟨hd, hn, hm, ha, hk, him, hsh, ham, hcn⟩ := facts7 hs h
 have p0 : pt w 0 5 = Int.toNat (d) := hp ⟨0, 5, d⟩ (by simp [FL7])
 have p1 : pt w 5 5 = Int.toNat (n) := hp ⟨5, 5, n⟩ (by simp [FL7])
 have p2 : pt w 10 12 = Int.toNat (im / 8) := hp ⟨10, 12, im / 8⟩ (by simp [FL7])
 rw [read7 hlt op k hk2]
 refine congrArg (fun z => some (some z)) ?_
 rw [IR.mk.injEq]
 refine ⟨rfl, ?_, ?_, ?_, ?_, ?_, ?_, ?_, ?_, ?_⟩ <;> first | rfl | omega
theorem word7 (u : Nat) : ∀ x ∈ FL7 ((pt u 0 5 : Int)) ((pt u 5 5 : Int)) (0) (0) ((pt u 10 12 : Int) * 8) (0) (0) (0) (0), x.f2 = (pt u x.f0.toNat x.f1.toNat : Int) := by
 intro x hx
 simp only [FL7, List.mem_cons, List.not_mem_nil, or_false] at hx
 rcases hx with rfl | rfl | rfl
 ·show _ = (pt u 0 5 : Int)
  first | rfl | (dsimp only; omega)
 ·show _ = (pt u 5 5 : Int)
  first | rfl | (dsimp only; omega)
 ·show _ = (pt u 10 12 : Int)
  first | rfl | (dsimp only; omega)
theorem read8 {u : Nat} (hu : u < 4294967296) (op : Int) (k : Nat) (hk : 300 ≤ k) : readS k u op (pt u 0 5) (pt u 5 5) (pt u 16 5) 8 = some (some ⟨op, (pt u 0 5 : Int), (pt u 5 5 : Int), 0, 0, (pt u 10 12 : Int), 0, 0, 0, 0⟩) := by
 simp (config := { decide := true }) only [readS, if_true, if_false]
 have e10_12 : code_part.f (u : Int) 10 12 = some (pt u 10 12 : Int) := part_pt hu 10 12 (by decide) (by decide)
 have l10_12 := pt_lt u 10 12
 rw [e10_12, Option.bind_some]
theorem back8 {op d n m a im : Int} {v : Nat} {sh am cn : Int} (hv : v < 18446744073709551616) (hs : shN op = 8) (h : isB op d n m a im v sh am cn = true) (k : Nat) (hk2 : 300 ≤ k) {w : Nat} (hw : w = wN (bN op.toNat) (FL8 d n m a im v sh am cn)) : readS k w op (pt w 0 5) (pt w 5 5) (pt w 16 5) 8 = some (some ⟨op, d, n, m, a, im, v, sh, am, cn⟩) := by
 have g := good8 hv hs h
 have hp := wN_part g
 rw [← hw] at hp
 have hlt := wN_lt g
 rw [← hw] at hlt
 obtain ⟨hd, hn, hm, ha, hk, him, hsh, ham, hcn⟩ := facts8 hs h
 have p0 : pt w 0 5 = Int.toNat (d) := hp ⟨0, 5, d⟩ (by simp [FL8])
 have p1 : pt w 5 5 = Int.toNat (n) := hp ⟨5, 5, n⟩ (by simp [FL8])
 have p2 : pt w 10 12 = Int.toNat (im) := hp ⟨10, 12, im⟩ (by simp [FL8])
 rw [read8 hlt op k hk2]
 refine congrArg (fun z => some (some z)) ?_
 rw [IR.mk.injEq]
 refine ⟨rfl, ?_, ?_, ?_, ?_, ?_, ?_, ?_, ?_, ?_⟩ <;> first | rfl | omega
theorem word8 (u : Nat) : ∀ x ∈ FL8 ((pt u 0 5 : Int)) ((pt u 5 5 : Int)) (0) (0) ((pt u 10 12 : Int)) (0) (0) (0) (0), x.f2 = (pt u x.f0.toNat x.f1.toNat : Int) := by
 intro x hx
 simp only [FL8, List.mem_cons, List.not_mem_nil, or_false] at hx
 rcases hx with rfl | rfl | rfl
 ·show _ = (pt u 0 5 : Int)
  first | rfl | (dsimp only; omega)
 ·show _ = (pt u 5 5 : Int)
  first | rfl | (dsimp only; omega)
 ·show _ = (pt u 10 12 : Int)
  first | rfl | (dsimp only; omega)
theorem read9 {u : Nat} (hu : u < 4294967296) (op : Int) (k : Nat) (hk : 300 ≤ k) : readS k u op (pt u 0 5) (pt u 5 5) (pt u 16 5) 9 = some (some ⟨op, (pt u 0 5 : Int), 0, 0, 0, sgnN (pt u 5 19) 19 * 4, 0, 0, 0, 0⟩) := by
 simp (config := { decide := true }) only [readS, if_true, if_false]
 have g0 : code_signed.f k (u : Int) 5 19 = some (sgnN (pt u 5 19) 19) := signed_pt hu k (by omega) 5 19 (by decide) (by decide)
 have g1 := sgn_range (n := 19) (by decide) (pt_lt u 5 19)
 rw [g0, Option.bind_some, w64_in (by simp at g1; omega)]
theorem back9 {op d n m a im : Int} {v : Nat} {sh am cn : Int} (hv : v < 18446744073709551616) (hs : shN op = 9) (h : isB op d n m a im v sh am cn = true) (k : Nat) (hk2 : 300 ≤ k) {w : Nat} (hw : w = wN (bN op.toNat) (FL9 d n m a im v sh am cn)) : readS k w op (pt w 0 5) (pt w 5 5) (pt w 16 5) 9 = some (some ⟨op, d, n, m, a, im, v, sh, am, cn⟩) := by
 have g := good9 hv hs h
 have hp := wN_part g
 rw [← hw] at hp
 have hlt := wN_lt g
 rw [← hw] at hlt
 obtain ⟨hd, hn, hm, ha, hk, him, hsh, ham, hcn⟩ := facts9 hs h
 have p0 : pt w 0 5 = Int.toNat (d) := hp ⟨0, 5, d⟩ (by simp [FL9])
 have p1 : pt w 5 19 = Int.toNat ((packN (im / 4) 19 : Int)) := hp ⟨5, 19, (packN (im / 4) 19 : Int)⟩ (by simp [FL9])
 rw [read9 hlt op k hk2]
 have q : sgnN (packN (im / 4) 19) 19 = im / 4 := sgn_pack (by decide) (by simp; omega) (by simp; omega)
 rw [Int.toNat_natCast] at p1
 rw [p1, q]
 refine congrArg (fun z => some (some z)) ?_
 rw [IR.mk.injEq]
 refine ⟨rfl, ?_, ?_, ?_, ?_, ?_, ?_, ?_, ?_, ?_⟩ <;> first | rfl | omega
theorem word9 (u : Nat) : ∀ x ∈ FL9 ((pt u 0 5 : Int)) (0) (0) (0) (sgnN (pt u 5 19) 19 * 4) (0) (0) (0) (0), x.f2 = (pt u x.f0.toNat x.f1.toNat : Int) := by
 have q : packN (sgnN (pt u 5 19) 19 * 4 / 4) 19 = pt u 5 19 := by rw [Int.mul_ediv_cancel _ (by decide)]; exact pack_sgn (by decide) (pt_lt u 5 19)
 intro x hx
 simp only [FL9, q, List.mem_cons, List.not_mem_nil, or_false] at hx
 rcases hx with rfl | rfl
 ·show _ = (pt u 0 5 : Int)
  first | rfl | (dsimp only; omega)
 ·show _ = (pt u 5 19 : Int)
  first | rfl | (dsimp only; omega)
theorem read10 {u : Nat} (hu : u < 4294967296) (op : Int) (k : Nat) (hk : 300 ≤ k) : readS k u op (pt u 0 5) (pt u 5 5) (pt u 16 5) 10 = some (some ⟨op, (pt u 0 5 : Int), 0, 0, 0, sgnN (pt u 5 19 * 4 + pt u 29 2) 21, 0, 0, 0, 0⟩) := by
 simp (config := { decide := true }) only [readS, if_true, if_false]
 have e5_19 : code_part.f (u : Int) 5 19 = some (pt u 5 19 : Int) := part_pt hu 5 19 (by decide) (by decide)
 have l5_19 := pt_lt u 5 19
 rw [e5_19, Option.bind_some]
 have e29_2 : code_part.f (u : Int) 29 2 = some (pt u 29 2 : Int) := part_pt hu 29 2 (by decide) (by decide)
 have l29_2 := pt_lt u 29 2
 rw [e29_2, Option.bind_some]
 have b1 := (bits_nat .i64 62 (by decide) (fun n h0 h1 => (wi64 n).trans (w64_in ⟨by omega, by omega⟩)) (pt u 5 19 * 4) (pt u 29 2) (by omega) (by omega)).2
 have b2 : pt u 5 19 * 4 ||| pt u 29 2 = pt u 5 19 * 4 + pt u 29 2 := by
  have := Nat.two_pow_add_eq_or_of_lt (i := 2) (b := pt u 29 2) (by omega) (pt u 5 19)
  rw [show pt u 5 19 * 4 = 2 ^ 2 * pt u 5 19 by omega]
  exact this.symm
 have b3 : Go.bits .or .i64 (wrap64 ((pt u 5 19 : Int) * 4)) (pt u 29 2 : Int) = ((pt u 5 19 * 4 + pt u 29 2 : Nat) : Int) := by
  rw [w64_in ⟨by omega, by omega⟩, ← b2, ← b1]
  rfl
 rw [b3]
 have b4 : (((pt u 5 19 * 4 + pt u 29 2 : Nat) : Int) % 4294967296) = ((pt u 5 19 * 4 + pt u 29 2 : Nat) : Int) := by omega
 have g0 : bits_Signed.f k ((pt u 5 19 * 4 + pt u 29 2 : Nat) : Int) 21 = some (sgnN (pt u 5 19 * 4 + pt u 29 2) 21, 0) := (signed_go k (by omega) (pt u 5 19 * 4 + pt u 29 2) 21 (by omega) (by decide) (by decide)).trans (if_pos (by omega))
 rw [b4, g0, Option.bind_some]
theorem back10 {op d n m a im : Int} {v : Nat} {sh am cn : Int} (hv : v < 18446744073709551616) (hs : shN op = 10) (h : isB op d n m a im v sh am cn = true) (k : Nat) (hk2 : 300 ≤ k) {w : Nat} (hw : w = wN (bN op.toNat) (FL10 d n m a im v sh am cn)) : readS k w op (pt w 0 5) (pt w 5 5) (pt w 16 5) 10 = some (some ⟨op, d, n, m, a, im, v, sh, am, cn⟩) := by
 have g := good10 hv hs h
 have hp := wN_part g
 rw [← hw] at hp
 have hlt := wN_lt g
 rw [← hw] at hlt
 obtain ⟨hd, hn, hm, ha, hk, him, hsh, ham, hcn⟩ := facts10 hs h
 have p0 : pt w 0 5 = Int.toNat (d) := hp ⟨0, 5, d⟩ (by simp [FL10])
 have p1 : pt w 5 19 = Int.toNat ((packN im 21 : Int) / 4) := hp ⟨5, 19, (packN im 21 : Int) / 4⟩ (by simp [FL10])
 have p2 : pt w 29 2 = Int.toNat ((packN im 21 : Int) % 4) := hp ⟨29, 2, (packN im 21 : Int) % 4⟩ (by simp [FL10])
 rw [read10 hlt op k hk2]
 have e : pt w 5 19 * 4 + pt w 29 2 = packN im 21 := by omega
 have q : sgnN (packN im 21) 21 = im := sgn_pack (by decide) (by simp; omega) (by simp; omega)
 rw [e, q]
 refine congrArg (fun z => some (some z)) ?_
 rw [IR.mk.injEq]
 refine ⟨rfl, ?_, ?_, ?_, ?_, ?_, ?_, ?_, ?_, ?_⟩ <;> first | rfl | omega
theorem word10 (u : Nat) : ∀ x ∈ FL10 ((pt u 0 5 : Int)) (0) (0) (0) (sgnN (pt u 5 19 * 4 + pt u 29 2) 21) (0) (0) (0) (0), x.f2 = (pt u x.f0.toNat x.f1.toNat : Int) := by
 have l1 := pt_lt u 5 19
 have l2 := pt_lt u 29 2
 have q : packN (sgnN (pt u 5 19 * 4 + pt u 29 2) 21) 21 = pt u 5 19 * 4 + pt u 29 2 := pack_sgn (by decide) (by omega)
 intro x hx
 simp only [FL10, q, List.mem_cons, List.not_mem_nil, or_false] at hx
 rcases hx with rfl | rfl | rfl
 ·show _ = (pt u 0 5 : Int)
  first | rfl | (dsimp only; omega)
 ·show _ = (pt u 5 19 : Int)
  first | rfl | (dsimp only; omega)
 ·show _ = (pt u 29 2 : Int)
  first | rfl | (dsimp only; omega)
theorem read11 {u : Nat} (hu : u < 4294967296) (op : Int) (k : Nat) (hk : 300 ≤ k) : readS k u op (pt u 0 5) (pt u 5 5) (pt u 16 5) 11 = some (some ⟨op, 0, 0, 0, 0, sgnN (pt u 0 26) 26 * 4, 0, 0, 0, 0⟩) := by
 simp (config := { decide := true }) only [readS, if_true, if_false]
 have g0 : code_signed.f k (u : Int) 0 26 = some (sgnN (pt u 0 26) 26) := signed_pt hu k (by omega) 0 26 (by decide) (by decide)
 have g1 := sgn_range (n := 26) (by decide) (pt_lt u 0 26)
 rw [g0, Option.bind_some, w64_in (by simp at g1; omega)]
theorem back11 {op d n m a im : Int} {v : Nat} {sh am cn : Int} (hv : v < 18446744073709551616) (hs : shN op = 11) (h : isB op d n m a im v sh am cn = true) (k : Nat) (hk2 : 300 ≤ k) {w : Nat} (hw : w = wN (bN op.toNat) (FL11 d n m a im v sh am cn)) : readS k w op (pt w 0 5) (pt w 5 5) (pt w 16 5) 11 = some (some ⟨op, d, n, m, a, im, v, sh, am, cn⟩) := by
 have g := good11 hv hs h
 have hp := wN_part g
 rw [← hw] at hp
 have hlt := wN_lt g
 rw [← hw] at hlt
 obtain ⟨hd, hn, hm, ha, hk, him, hsh, ham, hcn⟩ := facts11 hs h
 have p0 : pt w 0 26 = Int.toNat ((packN (im / 4) 26 : Int)) := hp ⟨0, 26, (packN (im / 4) 26 : Int)⟩ (by simp [FL11])
 rw [read11 hlt op k hk2]
 have q : sgnN (packN (im / 4) 26) 26 = im / 4 := sgn_pack (by decide) (by simp; omega) (by simp; omega)
 rw [Int.toNat_natCast] at p0
 rw [p0, q]
 refine congrArg (fun z => some (some z)) ?_
 rw [IR.mk.injEq]
 refine ⟨rfl, ?_, ?_, ?_, ?_, ?_, ?_, ?_, ?_, ?_⟩ <;> first | rfl | omega
theorem word11 (u : Nat) : ∀ x ∈ FL11 (0) (0) (0) (0) (sgnN (pt u 0 26) 26 * 4) (0) (0) (0) (0), x.f2 = (pt u x.f0.toNat x.f1.toNat : Int) := by
 have q : packN (sgnN (pt u 0 26) 26 * 4 / 4) 26 = pt u 0 26 := by rw [Int.mul_ediv_cancel _ (by decide)]; exact pack_sgn (by decide) (pt_lt u 0 26)
 intro x hx
 simp only [FL11, q, List.mem_cons, List.not_mem_nil, or_false] at hx
 rcases hx with rfl
 ·show _ = (pt u 0 26 : Int)
  first | rfl | (dsimp only; omega)
theorem read12 {u : Nat} (hu : u < 4294967296) (op : Int) (k : Nat) (hk : 300 ≤ k) : readS k u op (pt u 0 5) (pt u 5 5) (pt u 16 5) 12 = some (some ⟨op, 0, 0, 0, 0, sgnN (pt u 5 19) 19 * 4, 0, 0, 0, (pt u 0 4 : Int)⟩) := by
 simp (config := { decide := true }) only [readS, if_true, if_false]
 have e0_4 : code_part.f (u : Int) 0 4 = some (pt u 0 4 : Int) := part_pt hu 0 4 (by decide) (by decide)
 have l0_4 := pt_lt u 0 4
 rw [e0_4, Option.bind_some]
 have g0 : code_signed.f k (u : Int) 5 19 = some (sgnN (pt u 5 19) 19) := signed_pt hu k (by omega) 5 19 (by decide) (by decide)
 have g1 := sgn_range (n := 19) (by decide) (pt_lt u 5 19)
 rw [g0, Option.bind_some, w64_in (by simp at g1; omega)]
theorem back12 {op d n m a im : Int} {v : Nat} {sh am cn : Int} (hv : v < 18446744073709551616) (hs : shN op = 12) (h : isB op d n m a im v sh am cn = true) (k : Nat) (hk2 : 300 ≤ k) {w : Nat} (hw : w = wN (bN op.toNat) (FL12 d n m a im v sh am cn)) : readS k w op (pt w 0 5) (pt w 5 5) (pt w 16 5) 12 = some (some ⟨op, d, n, m, a, im, v, sh, am, cn⟩) := by
 have g := good12 hv hs h
 have hp := wN_part g
 rw [← hw] at hp
 have hlt := wN_lt g
 rw [← hw] at hlt
 obtain ⟨hd, hn, hm, ha, hk, him, hsh, ham, hcn⟩ := facts12 hs h
 have p0 : pt w 0 4 = Int.toNat (cn) := hp ⟨0, 4, cn⟩ (by simp [FL12])
 have p1 : pt w 5 19 = Int.toNat ((packN (im / 4) 19 : Int)) := hp ⟨5, 19, (packN (im / 4) 19 : Int)⟩ (by simp [FL12])
 rw [read12 hlt op k hk2]
 have q : sgnN (packN (im / 4) 19) 19 = im / 4 := sgn_pack (by decide) (by simp; omega) (by simp; omega)
 rw [Int.toNat_natCast] at p1
 rw [p1, q]
 refine congrArg (fun z => some (some z)) ?_
 rw [IR.mk.injEq]
 refine ⟨rfl, ?_, ?_, ?_, ?_, ?_, ?_, ?_, ?_, ?_⟩ <;> first | rfl | omega
theorem word12 (u : Nat) : ∀ x ∈ FL12 (0) (0) (0) (0) (sgnN (pt u 5 19) 19 * 4) (0) (0) (0) ((pt u 0 4 : Int)), x.f2 = (pt u x.f0.toNat x.f1.toNat : Int) := by
 have q : packN (sgnN (pt u 5 19) 19 * 4 / 4) 19 = pt u 5 19 := by rw [Int.mul_ediv_cancel _ (by decide)]; exact pack_sgn (by decide) (pt_lt u 5 19)
 intro x hx
 simp only [FL12, q, List.mem_cons, List.not_mem_nil, or_false] at hx
 rcases hx with rfl | rfl
 ·show _ = (pt u 0 4 : Int)
  first | rfl | (dsimp only; omega)
 ·show _ = (pt u 5 19 : Int)
  first | rfl | (dsimp only; omega)
theorem read13 {u : Nat} (hu : u < 4294967296) (op : Int) (k : Nat) (hk : 300 ≤ k) : readS k u op (pt u 0 5) (pt u 5 5) (pt u 16 5) 13 = some (some ⟨op, 0, (pt u 5 5 : Int), 0, 0, 0, 0, 0, 0, 0⟩) := by
 simp (config := { decide := true }) only [readS, if_true, if_false]
theorem back13 {op d n m a im : Int} {v : Nat} {sh am cn : Int} (hv : v < 18446744073709551616) (hs : shN op = 13) (h : isB op d n m a im v sh am cn = true) (k : Nat) (hk2 : 300 ≤ k) {w : Nat} (hw : w = wN (bN op.toNat) (FL13 d n m a im v sh am cn)) : readS k w op (pt w 0 5) (pt w 5 5) (pt w 16 5) 13 = some (some ⟨op, d, n, m, a, im, v, sh, am, cn⟩) := by
 have g := good13 hv hs h
 have hp := wN_part g
 rw [← hw] at hp
 have hlt := wN_lt g
 rw [← hw] at hlt
 obtain ⟨hd, hn, hm, ha, hk, him, hsh, ham, hcn⟩ := facts13 hs h
 have p0 : pt w 5 5 = Int.toNat (n) := hp ⟨5, 5, n⟩ (by simp [FL13])
 rw [read13 hlt op k hk2]
 refine congrArg (fun z => some (some z)) ?_
 rw [IR.mk.injEq]
 refine ⟨rfl, ?_, ?_, ?_, ?_, ?_, ?_, ?_, ?_, ?_⟩ <;> first | rfl | omega
theorem word13 (u : Nat) : ∀ x ∈ FL13 (0) ((pt u 5 5 : Int)) (0) (0) (0) (0) (0) (0) (0), x.f2 = (pt u x.f0.toNat x.f1.toNat : Int) := by
 intro x hx
 simp only [FL13, List.mem_cons, List.not_mem_nil, or_false] at hx
 rcases hx with rfl
 ·show _ = (pt u 5 5 : Int)
  first | rfl | (dsimp only; omega)
theorem read14 {u : Nat} (hu : u < 4294967296) (op : Int) (k : Nat) (hk : 300 ≤ k) : readS k u op (pt u 0 5) (pt u 5 5) (pt u 16 5) 14 = some (some ⟨op, 0, 0, 0, 0, (pt u 5 16 : Int), 0, 0, 0, 0⟩) := by
 simp (config := { decide := true }) only [readS, if_true, if_false]
 have e5_16 : code_part.f (u : Int) 5 16 = some (pt u 5 16 : Int) := part_pt hu 5 16 (by decide) (by decide)
 have l5_16 := pt_lt u 5 16
 rw [e5_16, Option.bind_some]
theorem back14 {op d n m a im : Int} {v : Nat} {sh am cn : Int} (hv : v < 18446744073709551616) (hs : shN op = 14) (h : isB op d n m a im v sh am cn = true) (k : Nat) (hk2 : 300 ≤ k) {w : Nat} (hw : w = wN (bN op.toNat) (FL14 d n m a im v sh am cn)) : readS k w op (pt w 0 5) (pt w 5 5) (pt w 16 5) 14 = some (some ⟨op, d, n, m, a, im, v, sh, am, cn⟩) := by
 have g := good14 hv hs h
 have hp := wN_part g
 rw [← hw] at hp
 have hlt := wN_lt g
 rw [← hw] at hlt
 obtain ⟨hd, hn, hm, ha, hk, him, hsh, ham, hcn⟩ := facts14 hs h
 have p0 : pt w 5 16 = Int.toNat (im) := hp ⟨5, 16, im⟩ (by simp [FL14])
 rw [read14 hlt op k hk2]
 refine congrArg (fun z => some (some z)) ?_
 rw [IR.mk.injEq]
 refine ⟨rfl, ?_, ?_, ?_, ?_, ?_, ?_, ?_, ?_, ?_⟩ <;> first | rfl | omega
theorem word14 (u : Nat) : ∀ x ∈ FL14 (0) (0) (0) (0) ((pt u 5 16 : Int)) (0) (0) (0) (0), x.f2 = (pt u x.f0.toNat x.f1.toNat : Int) := by
 intro x hx
 simp only [FL14, List.mem_cons, List.not_mem_nil, or_false] at hx
 rcases hx with rfl
 ·show _ = (pt u 5 16 : Int)
  first | rfl | (dsimp only; omega)
theorem read15 {u : Nat} (hu : u < 4294967296) (op : Int) (k : Nat) (hk : 300 ≤ k) : readS k u op (pt u 0 5) (pt u 5 5) (pt u 16 5) 15 = some (some ⟨op, 0, 0, 0, 0, 0, 0, 0, 0, 0⟩) := by
 simp (config := { decide := true }) only [readS, if_true, if_false]
theorem back15 {op d n m a im : Int} {v : Nat} {sh am cn : Int} (hv : v < 18446744073709551616) (hs : shN op = 15) (h : isB op d n m a im v sh am cn = true) (k : Nat) (hk2 : 300 ≤ k) {w : Nat} (hw : w = wN (bN op.toNat) (FL15 d n m a im v sh am cn)) : readS k w op (pt w 0 5) (pt w 5 5) (pt w 16 5) 15 = some (some ⟨op, d, n, m, a, im, v, sh, am, cn⟩) := by
 have g := good15 hv hs h
 have hp := wN_part g
 rw [← hw] at hp
 have hlt := wN_lt g
 rw [← hw] at hlt
 obtain ⟨hd, hn, hm, ha, hk, him, hsh, ham, hcn⟩ := facts15 hs h
 rw [read15 hlt op k hk2]
 refine congrArg (fun z => some (some z)) ?_
 rw [IR.mk.injEq]
 refine ⟨rfl, ?_, ?_, ?_, ?_, ?_, ?_, ?_, ?_, ?_⟩ <;> first | rfl | omega
theorem word15 (u : Nat) : ∀ x ∈ FL15 (0) (0) (0) (0) (0) (0) (0) (0) (0), x.f2 = (pt u x.f0.toNat x.f1.toNat : Int) := by
 intro x hx
 simp [FL15] at hx
theorem read16 {u : Nat} (hu : u < 4294967296) (op : Int) (k : Nat) (hk : 300 ≤ k) : readS k u op (pt u 0 5) (pt u 5 5) (pt u 16 5) 16 = some (some ⟨op, (pt u 0 5 : Int), (pt u 5 5 : Int), (pt u 16 5 : Int), 0, 0, 0, 0, 0, (pt u 12 4 : Int)⟩) := by
 simp (config := { decide := true }) only [readS, if_true, if_false]
 have e12_4 : code_part.f (u : Int) 12 4 = some (pt u 12 4 : Int) := part_pt hu 12 4 (by decide) (by decide)
 have l12_4 := pt_lt u 12 4
 rw [e12_4, Option.bind_some]
theorem back16 {op d n m a im : Int} {v : Nat} {sh am cn : Int} (hv : v < 18446744073709551616) (hs : shN op = 16) (h : isB op d n m a im v sh am cn = true) (k : Nat) (hk2 : 300 ≤ k) {w : Nat} (hw : w = wN (bN op.toNat) (FL16 d n m a im v sh am cn)) : readS k w op (pt w 0 5) (pt w 5 5) (pt w 16 5) 16 = some (some ⟨op, d, n, m, a, im, v, sh, am, cn⟩) := by
 have g := good16 hv hs h
 have hp := wN_part g
 rw [← hw] at hp
 have hlt := wN_lt g
 rw [← hw] at hlt
 obtain ⟨hd, hn, hm, ha, hk, him, hsh, ham, hcn⟩ := facts16 hs h
 have p0 : pt w 0 5 = Int.toNat (d) := hp ⟨0, 5, d⟩ (by simp [FL16])
 have p1 : pt w 5 5 = Int.toNat (n) := hp ⟨5, 5, n⟩ (by simp [FL16])
 have p2 : pt w 12 4 = Int.toNat (cn) := hp ⟨12, 4, cn⟩ (by simp [FL16])
 have p3 : pt w 16 5 = Int.toNat (m) := hp ⟨16, 5, m⟩ (by simp [FL16])
 rw [read16 hlt op k hk2]
 refine congrArg (fun z => some (some z)) ?_
 rw [IR.mk.injEq]
 refine ⟨rfl, ?_, ?_, ?_, ?_, ?_, ?_, ?_, ?_, ?_⟩ <;> first | rfl | omega
theorem word16 (u : Nat) : ∀ x ∈ FL16 ((pt u 0 5 : Int)) ((pt u 5 5 : Int)) ((pt u 16 5 : Int)) (0) (0) (0) (0) (0) ((pt u 12 4 : Int)), x.f2 = (pt u x.f0.toNat x.f1.toNat : Int) := by
 intro x hx
 simp only [FL16, List.mem_cons, List.not_mem_nil, or_false] at hx
 rcases hx with rfl | rfl | rfl | rfl
 ·show _ = (pt u 0 5 : Int)
  first | rfl | (dsimp only; omega)
 ·show _ = (pt u 5 5 : Int)
  first | rfl | (dsimp only; omega)
 ·show _ = (pt u 12 4 : Int)
  first | rfl | (dsimp only; omega)
 ·show _ = (pt u 16 5 : Int)
  first | rfl | (dsimp only; omega)
end Go.Proofs.YtemenenkefcebaaDoor.Cd
